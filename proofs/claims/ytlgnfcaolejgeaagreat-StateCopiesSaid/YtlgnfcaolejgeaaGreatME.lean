import Derived.Test.YtlgnfcaolejgeaaGreatMD
import Derived.Test.YtlgnfcaolejgeaaGreatMC
set_option linter.all false
namespace Go.a6
variable{b0:Type}
def eU:Nat->List b0->List (List b0)
 |0,_=> []
 |b+1,a=>a.take (a.length/(b+1)+if 0<a.length%(b+1)then 1 else 0)::eU b (a.drop (a.length/(b+1)+if 0<a.length%(b+1)then 1 else 0))
def bU (a:Nat):Nat:=(a+3)/4
def chunks (a:List b0):List (List b0):=eU (bU a.length) a
theorem Dt: ∀(a:Nat) (b:List b0),eU a b=(List.range a).map λh=>(b.drop (h*(b.length/a)+min h (b.length%a))).take (b.length/a+if h<b.length%a then 1 else 0)
 |0,b=>rfl
 |a+1,b=>by
  have y:=a7s b.length (a+1);have z:=a6A b.length (a8V a);simp only[eU];generalize C:b.length/(a+1)=d at*;generalize D:b.length%(a+1)=c at*;rw[Dt a,a8y,a4U,a6z];congr 1
  .simp
  .by_cases p:a=0
   .subst p;simp
   have k:(b.drop (d+if 0<c then 1 else 0)).length=d*a+(c - if 0<c then 1 else 0):=by grind
   have o:c -(if 0<c then 1 else 0)<a:=by split<;>omega
   have r:(b.drop (d+if 0<c then 1 else 0)).length/a=d:=by rw[k,a8U,Nat.mul_add_div a8Z,Nat.div_eq_of_lt o];rfl
   have x:(b.drop (d+if 0<c then 1 else 0)).length%a=c - if 0<c then 1 else 0:=by rw[k,a8U,Nat.mul_add_mod,a6i o]
   rw[r,x];refine a6b λh E=> ?_;simp only[Function.comp,a5l];grind
def Du: ∀(a:Nat) (b:List b0),(0<a\/b= [])->(eU a b).flatten=b
 |0,b,c=>by rcases c with c|c;(·omega);(·subst c;rfl)
 |a+1,b,_=>by
  simp only[eU,a6l];rw[Du a,a5e];by_cases d:a=0
  .right;subst d;simp
  .left;omega
def chunks_flatten (a:List b0):(chunks a).flatten=a:=Du _ _ (by
 cases a with
 |nil=>simp
 |cons b a=>left;simp only[bU,a4C];omega)
theorem pk {a:List b0} (b:1<=a.length) (c:a.length<=4):chunks a= [a]:=by
 have:bU a.length=1:=by unfold bU;omega
 simp[chunks,this,eU,Nat.mod_one]
theorem sy {a:List b0} (b:a.length=5):chunks a= [a.take 3,a.drop 3]:=by simp_all [bU,chunks,eU,a4x]
abbrev Row:=List Int
structure xx where
 rows:List Row
structure xy (a:Type) where
 kids:List a
def T:Nat->Type
 |0=>xx
 |a+1=>xy (T a)
def leaf (a:List Row):T 0:=xx.mk a
variable{e i v O b8 j0:Nat}
def node (a:List (T e)):T (e+1):=xy.mk a
def rows (a:T 0):List Row:=xx.rows a
def kids {a:Nat} (b:T (a+1)):List (T a):=xy.kids b
variable{h9:List Row}
theorem qE:rows (leaf h9)=h9:=rfl
theorem fl {a:List (T e)}:kids (node a)=a:=rfl
def hX (a:T 0): ∃b,a=leaf b:=⟨rows a,rfl⟩
def gp (a:T (e+1)): ∃b,a=node b:=⟨kids a,rfl⟩
def len: {b:Nat}->T b->Nat
 |0,a=>(rows a).length
 | _+1,a=>(kids a).length
def bh:(a:Nat)->T a->List Row
 |0,b=>rows b
 |a+1,b=>(kids b).flatMap (bh a)
theorem hY:len (leaf h9)=h9.length:=rfl
def dE {a:List (T e)}:len (node a)=a.length:=rfl
theorem ku:bh 0 (leaf h9)=h9:=rfl
theorem fY {a:List (T e)}:bh (e+1) (node a)=a.flatMap (bh e):=rfl
theorem Dv (a:List Row):((chunks a).map leaf).flatMap (bh 0)=a:=by
 conv=>rhs;rw[<-chunks_flatten a]
 rw[a7H,a6z];congr 1;exact List.map_id _
theorem Dw (a:List (T e)):((chunks a).map node).flatMap (bh (e+1))=a.flatMap (bh e):=by
 conv=>rhs;rw[<-chunks_flatten a]
 induction chunks a with
 |nil=>rfl
 |cons b c ih=>rw[a4U,a4Y,ih,a6l,a5m];rfl
def WF:(b:Nat)->T b->Prop
 |0,a=>2<=len a/\len a<=4
 |b+1,a=>2<=len a/\len a<=4/\ ∀c∈kids a,WF b c
def lh:(a:Nat)->T a->Prop
 |0,_=>True
 |a+1,b=> ∀c∈kids b,WF a c
theorem gZ {a:T e}:WF e a↔2<=len a/\len a<=4/\lh e a:=by
 cases e with
 |zero=>simp[WF,lh]
 |succ e=>rfl
def jM (b:Nat) (a:T b):Prop:=1<=len a/\len a<=4/\lh b a/\(0<b->2<=len a)
theorem jM.of {a:T e} (b:WF e a):jM e a:=by have:=gZ.1 b;exact⟨a8Z,this.2.1,this.2.2,λ_=>this.1⟩
def xz: ∀ {a:T e},1<=len a->lh e a->bh e a≠ []:=by
 induction e with
 |zero=>intro a c _ b;obtain⟨d,rfl⟩:=hX a;rw[ku]at b;subst b;trivial
 |succ e ih=>
  intro a c h b;obtain⟨d,rfl⟩:=gp a;rw[dE]at c
  match d,c with
  |k::d,_=>rw[fY,a4Y]at b;have o:=gZ.1 (h k a6q);exact ih a8Z o.2.2 (List.append_eq_nil_iff.1 b).1
def cM (a:Nat) (b:T a):Row:=(bh a b).headD []
section
variable (lt:Row->Row->Bool)
structure Ord (ok:Row->Prop):Prop where
 jb: ∀p,lt p p=false
 trans: ∀p a r,ok p->ok a->ok r->lt p a=true->lt a r=true->lt p r=true
 total: ∀p a,ok p->ok a->lt p a=false->lt a p=false->p=a
def cS (a:Row):List Row->Nat
 | _::b::c=>if lt a b then 0 else cS a (b::c)+1
 | _=>0
def dL (c:List Row) (a:Row):List Row:=c.takeWhile (λb=>lt b a)++a::c.dropWhile (λb=>lt b a)
def eV (c:Row):(b:Nat)->T b->List (T b)
 |0,a=>(chunks (dL lt (rows a) c)).map leaf
 |b+1,a=>
  match(kids a)[cS lt c ((kids a).map (cM b))]? with
  |some d=>(chunks ((kids a).take (cS lt c ((kids a).map (cM b)))++eV c b d++(kids a).drop (cS lt c ((kids a).map (cM b))+1))).map node
  |none=> []
def kv: {a:Nat}->T a->T a->List (T a)
 |0,b,c=>(chunks (rows b++rows c)).map leaf
 | _+1,b,c=>(chunks (kids b++kids c)).map node
def lj (b:List (T e)) (a:Nat) (c:T e):List (T e):=
 if 2<=len c then b.set a c
 else match b[if a=0 then 1 else a - 1]? with
  |some d=>b.take (a - 1)++(if a=0 then kv c d else kv d c)++b.drop (a - 1+2)
  |none=> []
def cI (c:Row):(b:Nat)->T b->T b
 |0,a=>leaf ((rows a).filter λd=>decide (d≠c))
 |b+1,a=>
  match(kids a)[cS lt c ((kids a).map (cM b))]? with
  |some h=>node (lj (kids a) (cS lt c ((kids a).map (cM b))) (cI c b h))
  |none=>a
end
theorem Dx (c:2<=h9.length) (d:h9.length<=5):(∀b∈(chunks h9).map leaf,WF 0 b)/\1<=(chunks h9).length/\(chunks h9).length<=2/\(h9.length<=4->(chunks h9).length=1):=by
 by_cases a:h9.length=5
 .rw[sy a];simp[WF,a,hY]
 .rw[pk a8Z a8Z];simp only[a4U,a6k,a4Q,forall_eq,a5T,WF,hY];grind
theorem Dy {a:List (T e)} (d:2<=a.length) (h:a.length<=5) (k: ∀b∈a,WF e b):(∀b∈(chunks a).map node,WF (e+1) b)/\1<=(chunks a).length/\(chunks a).length<=2/\(a.length<=4->(chunks a).length=1):=by
 by_cases c:a.length=5
 .rw[sy c];simp only[a4U,a6k,a4T,a5W,or_false,forall_eq_or_imp,forall_eq,a4C,a4G,WF,dE,fl];grind
 .rw[pk a8Z a8Z];simp only[a4U,a6k,a4Q,forall_eq,a5T,WF,dE,fl];grind
variable{h3:Row}
section
variable {lt:Row->Row->Bool}{ok:Row->Prop}
abbrev jc (a:Row->Row->Bool) (b:List Row):Prop:=b.Pairwise λc d=>a c d=true
theorem xA {a:List Row} (c: ∀b∈h9,lt b h3=true):dL lt (h9++a) h3=h9++dL lt a h3:=by unfold dL;simp_all
theorem Yq {b:List Row} (h: ∀a∈h9,lt a h3=false):dL lt (b++h9) h3=dL lt b h3++h9:=by
 have c:h9.takeWhile (λa=>lt a h3)= []/\h9.dropWhile (λa=>lt a h3)=h9:=by
  cases h9 with
  |nil=>trivial
  |cons k h9=>simp_all
 induction b with
 |nil=>simp[dL,c.1,c.2]
 |cons d b ih=>unfold dL at ih|-;by_cases bW:lt d h3=true;simp_all;simp_all
theorem sz {a:Row}:h3∈dL lt h9 a↔h3=a\/h3∈h9:=by grind[dL,List.takeWhile_append_dropWhile]
theorem om:(dL lt h9 h3).length=h9.length+1:=by unfold dL;have:=congrArg List.length (a5o (p:=λa=>lt a h3) (l:=h9));grind
def Yr (p:Ord lt ok) (r:jc lt h9) (h: ∀c∈h9,ok c) (x:ok h3) (y:h3∉h9):jc lt (dL lt h9 h3):=by
 induction h9 with
 |nil=>simp[dL]
 |cons a h9 ih=>
  have k:=a5g.1 r;have ih:=ih k.2 (λc b=>h c (by simp[b])) (λo=>y (by simp[o]));by_cases bW:lt a h3=true
  .have d:dL lt (a::h9) h3=a::dL lt h9 h3:=xA (h9:= [a]) (by simpa using bW);rw[d];refine a5g.2 ⟨λc b=> ?_,ih⟩;rcases sz.1 b with rfl|b
   .exact bW
   .exact k.1 c b
  .have d:dL lt (a::h9) h3=h3::a::h9:=by simp[dL,bW]
   rw[d];have z:lt h3 a=true:=by
    cases o:lt h3 a with
    |true=>rfl
    |false=>exact absurd (p.total h3 a x (h a a9a) o (by simpa using bW)) (λd=>y (by simp[d]))
   refine a5g.2 ⟨λc b=> ?_,r⟩;rcases a4T.1 b with rfl|b
   .exact z
   .exact p.trans h3 a c x (h a a9a) (h c (by simp[b])) z (k.1 c b)
theorem Dz (p:Ord lt ok) {d:Row} (r:ok d): ∀(h:List (List Row)),h≠ []->(∀D∈h,D≠ [])->jc lt h.flatten->(∀a∈h.flatten,ok a)->
  cS lt d (h.map (·.headD []))<h.length/\(∀a∈(h.take (cS lt d (h.map (·.headD [])))).flatten,lt a d=true)/\(∀a∈(h.drop (cS lt d (h.map (·.headD []))+1)).flatten,lt d a=true)
 | [],V,_,_,_=>absurd rfl V
 | [W],_,_,_,_=>by simp[cS]
 |W::k::x,_,e,m,y=>by
  simp only[a4U,cS];obtain⟨c,z,C⟩: ∃c z,k=c::z:=by
   cases C:k with
   |nil=>simp_all
   |cons c z=>simp
  have G:k.headD []=c:=by rw[C];rfl
  have E:=y c (by simp[C]);have F:jc lt (k::x).flatten:=by grind
  rw[G];by_cases o:lt d c=true
  .rw[if_pos o];refine⟨a9a,a9a,λa b=> ?_⟩;simp only[a6c,a6C]at b;have f:(k::x).flatten=c::(z++x.flatten):=by rw[C];rfl
   rw[f]at b F;rcases a4T.1 b with rfl|b
   .exact o
   .refine p.trans d c a r E (y a ?_) o ((a5g.1 F).1 a b);simp_all
  .rw[if_neg o];have ih:=Dz p r (k::x) a9a (λD L=>e D (by simp at L|-;exact .inr L)) F (λa b=>y a (by simp_all));simp only[a4U,G]at ih;obtain⟨g,i,j⟩:=ih;refine⟨by simp at g|-;omega,λa b=> ?_,λa b=>j a (by trivial)⟩;simp only[a7r,a6l,a4M]at b;rcases b with b|b
   .
    have P:lt a c=true:=by grind
    by_cases S:c=d
    .rw[<-S];exact P
    .have l:=y a (by simp[b]);cases T:lt c d with
     |true=>exact p.trans a c d l E r P T
     |false=>exact absurd (p.total c d E r T (by simpa using o)) S
   .exact i a b
end
end Go.a6
set_option maxRecDepth 100000
namespace Go.Proofs.YtlgnfcaolejgeaaGreat
open Go Go.bx
variable{b5:FuncId}{g A e0:List R}
theorem Ys (a:List (List Int)) (z:List R) (k:R) (d:U) (C:az isRow a z) (D:bR d 1 k z) (u:a.length<=1000000000000) {h:List Int->Bool} (E:gX isRow d b5 g A h):
  AC Tryz.prog 258 [k,.bG b5 g A] d λe o=>o=d/\ ∃F:Int,e= .v (.int .i64 F)/\decide (0<=F)=a.any h:=by
 refine bd hm QK a9a ?_;have f:=C.len;have i:=D.len;rw[f]at i;refine aa ?_;refine cr (λc o=> ∃b:Nat,b<=a.length/\o=d/\c 0=k/\c 1= .bG b5 g A/\c 7= .v (.int .i64 a.length)/\c 8= .v (.int .i64 b)/\(a.take b).any h=false)
  (λc _=>match c 8 with| .v (.int _ j)=>a.length - j.toNat| _=>0) ⟨0,a8Z,rfl,?_⟩ ?_
 .refine aa ?_;simp
 rintro c p ⟨b,v,rfl,G,L,P,S,T⟩;by_cases V:(b)<(a.length:Int)
 .have r:a[b]? =some a[b]:=a4w a8Z;have l:a.take (b+1)=a.take b++ [a[b]]:=by rw[a5I,r];rfl
  have m:a[b]'a8Z∈a:=a4Z _;generalize a[b]'a8Z=W at r l m;obtain⟨x,n,y⟩:=C.get r;obtain⟨q,w,s⟩:=D.get b x n;have B:dn false 1 p q=some x:=by have t:=s.ld p U.a1 false 1 a8Z (by rw[isRow.cells y];omega);rw[t];obtain⟨H,rfl⟩:=y;rfl
  refine aa ?_;refine fF E.1 (E.2 W x _ y U.a1) ?_;rintro _ p ⟨rfl,rfl⟩;cases I:h W with
  |true=>refine aj (bm @G @L @P @S @V) ?_;refine⟨_,U.a1,rfl,_,rfl,?_⟩;grind
  |false=>refine aa ?_;grind
 .obtain rfl:b=a.length:=a8Z;refine aj (bm @G @L @P @S @V) ?_;rw[a4S]at T;exact⟨_,U.a1,rfl,_,rfl,by rw[T];simp⟩
def DA (b:List (List Int)) (c:List R) (d:R) (a:U) (k:az isRow b c) (o:bR a 1 d c) (p:b.length<=1000000000000) {h:List Int->Bool} (r:gX isRow a b5 g A h):
  AC Tryz.prog 180 [d,.bG b5 g A] a λx y=>y=a/\x= .v (.bool (b.any h)):=by
 refine bd hm OB a9a ?_;refine aa ?_;refine ai (Ys b c d a k o p r) ?_;rintro _ C ⟨rfl,D,rfl,z⟩;refine bT ?_;exact⟨_,U.a1,rfl,by rw[z]⟩
def Yt (c:Int) (b:List Int) (d:R) (r:isRow b d) (a:U) (h:Nat) (k:a.read h=some [.v (.int .i64 c)]):
  AC Tryz.prog 232 [d,.ptr h 0] a λx y=>y=a/\x= .v (.bool (!decide ((b.length:Int)=c))):=by
 obtain⟨z,rfl⟩:=r;refine bd hm PW a9a ?_;have o:=bH (q:=b);by_cases p:(b.length)=c
 .refine aj (aH @o @k @p) ?_;exact⟨a,U.a1,by simp[]⟩
 .refine aj (aH @o @k @p) ?_;exact⟨a,U.a1,by simp[]⟩
def qF (a:Int) (b:List (List Int)):Bool:=decide (1<=a)&&decide (a<=8)&&b.all λc=>decide ((c.length:Int)=a)
theorem DB (a:Int) (c:List (List Int)) (d:List R) (h:R) (b:U) (x:az isRow c d) (y:bR b 1 h d) (z:c.length<=1000000000000):
  AC Tryz.prog 153 [.v (.int .i64 a),h] b λC k=>k=b/\C= .v (.bool (qF a c)):=by
 refine bd hm NF a9a ?_;refine aa ?_;refine aM λo D=> ?_;have p:=U.af (Y:= .cells [.v (.int .i64 a)]) (U.a1) D;have c2:(b.set o (.cells [.v (.int .i64 a)])) o=some (.cells [.v (.int .i64 a)]):=U.ah _ _ _;unfold qF;by_cases h1:1<=a
 .by_cases r:a<=8
  .refine aa ?_;refine ai (DA c d h _ x (y.mono p) z (b5:=232) ⟨by rfl,λE F k G L=>Yt a E F G k o (U.ae (L _ _ c2))⟩) ?_;rintro _ _ ⟨rfl,rfl⟩;refine bT ?_;refine⟨b,p,rfl,?_⟩;rw[List.any_eq_not_all_not];simp[h1,r]
  .simp -dsimp -implicitDefEqProofs (disch:=first|omega|assumption|(simp only[bk,Nat.reduceAdd];try omega)) only[go_sem,simprocAttr,-List.reduceReplicate,h1,r];simp_all
 .refine aj @h1 ?_;simp_all
theorem xB (a:Nat) (h:a<=1000000000000) (b:U):AC Tryz.prog 246 [.v (.int .i64 (a:Int))] b λc d=>d=b/\c= .v (.int .i64 (a6.bU a:Int)):=by refine bd hm Qn a9a ?_;refine bT ?_;refine⟨b,U.a1,rfl,?_⟩;grind[a6.bU,wrap_i64]
def dv (a:ag) (c:Nat) (b:c3):Except Int ay×ag:=
 match fH c b with
 |none=>(.error 1,a)
 |some d=>(.ok d,eK a (cX b))
def dT (a:List (List Int)):c3:=⟨2,a.map λb=>(b,true),[]⟩
def ej (a:List ay):c3:=⟨3,[],a⟩
abbrev dU (a b:Nat):R:= .agg [.ptr a 0,.v (.int .i64 (b:Int))]
def ha (d:Except Int ay) (b:R):Prop:=
 match d with
 | .error c=>c≠0/\b= .aK [.agg (ab aA .nil .nil .nil),.v (.int .i64 c)]
 | .ok a=>a.sum.length=32/\a.cz/\ ∃h k o,b= .aK [.agg (ab a h k o),.v (.int .i64 0)]
variable{n b3:R}
theorem ha.shape {c:Except Int ay} (d:ha c n): ∃a h k o b,a.sum.length=32/\n= .aK [.agg (ab a h k o),.v (.int .i64 b)]:=by
 cases c with
 |error b=>exact⟨aA,_,_,_,b,bj,d.2⟩
 |ok a=>obtain⟨p,_,h,k,o,r⟩:=d;grind
variable{f t e4:U}{e i v O b8 j0:Nat}{H:ag}
def bB.cC (a:bB f i v H) (b:f e=none):e≠i/\e≠v:=by
 refine⟨?_,?_⟩
 .rintro rfl;obtain⟨_,_,a⟩:=a.at_;rw[a]at b;cases b
 .rintro rfl;obtain⟨_,⟨_,_,a,_⟩,_⟩:=a.mp;rw[a]at b;cases b
theorem bB.set {d:U}{a b c:Nat}{h:ag}{ob:bq} (o:bB d a b h) (k:c≠a/\c≠b):bB (d.set c ob) a b h:=o.other (U.ao _ _ (a4F k.1)) (U.ao _ _ (a4F k.2))
def xC (d:U) (h k:Nat) (o:ag) (C:bB d h k o) (c:c3) (D E:List R) (r x:R) (b:Nat) (G:1<=b) (y:b<=8) (L:fX d c r x D E):
  AC Tryz.prog 233 [.ptr h 0,gM c r x,.v (.int .i64 (b:Int))] d λF z=>bB z h k (dv o b c).2/\Ext h k d z/\ha (dv o b c).1 F:=by
 refine(Yg d h k o C c D E r x b G y L).mono λF z a=> ?_;unfold dv;cases p:fH b c with
 |none=>rw[p]at a;exact⟨C.mono a.1,Ext.of a.1,a9d,a.2⟩
 |some P=>rw[p]at a;exact⟨a.1,a.2.1,(ug y p).1,Dg y p,a.2.2⟩
theorem xD (D:U) (E e:Nat) (f:ag) (X:bB D E e f) (c:List (List Int)) (h:List R) (q:R) (x:Nat) (n2:1<=x) (n3:x<=8) (g:az isRow c h) (Y:bR D 1 q h) (n4:c.length<=100000):
  AC Tryz.prog 155 [dU E x,q] D λr y=>bB y E e (dv f x (dT c)).2/\Ext E e D y/\ha (dv f x (dT c)).1 r:=by
 refine bd hm NJ a9a ?_;have s: ∀Z,(R.agg Z).cells=Z:=λ_=>rfl;have n5: ∀a b k o j9 T:R,putAt [a,b,k] 0 [o,j9,T]= [o,j9,T]:=λ_ _ _ _ _ _=>rfl;have n9: ∀a b k o:R,putAt [a,b,k] 0 [o]= [o,b,k]:=λ_ _ _ _=>rfl;have a00: ∀a b k o:R,putAt [a,b,k] 1 [o]= [a,o,k]:=λ_ _ _ _=>rfl;have k0: ∀a b k:R,[a,b,k].length=3:=λ_ _ _=>rfl;have a43: ∀a b k:R,List.take 3 [a,b,k]= [a,b,k]:=λ_ _ _=>rfl;have k1:=Y.len;rw[g.len]at k1;refine aa ?_;refine aM λS a01=> ?_;refine aa ?_;refine aM λP i=> ?_;refine aa ?_;refine aM λF V=> ?_;have t:S≠P:=by rintro rfl;rw[U.ah]at i;cases i
 have a02:P≠F:=by rintro rfl;rw[U.ah]at V;cases V
 have a03:S≠F:=by rintro rfl;rw[U.ao _ _ t,U.ah]at V;cases V
 have u:D P=none:=by rw[U.ao _ _ (a4F t)]at i;exact i
 have a47:D F=none:=by simp_all [U.ao,a4F]
 obtain⟨G,W⟩: ∃G:U,G=(D.set S (.cells [.ptr E 0,.v (.int .i64 (x))])).set P (.cells (ab aA .nil .nil .nil)):=⟨_,rfl⟩;have k2:D.sub G:=by rw[W];exact U.af (U.af U.a1 a01) u
 have c2:G S=some (.cells [.ptr E 0,.v (.int .i64 (x))]):=by rw[W,U.ao _ _ t,U.ah]
 have aI:G P=some (.cells (ab aA .nil .nil .nil)):=by rw[W,U.ah]
 have k3:G F=none:=by rw[W];exact V
 have a04:=(aW (M:= .nil) (e6:= .nil) (h4:= .nil) bj).len;refine aj (c6 @s @cn @n9 @k0 @n5 @U.set_set @k1) ?_;rw[<-W]
 let p:R->R:=λa=> .agg [a,.v (.bool true)];have k4: ∀d,az de ((c.take d).map λr=>(r,true)) ((h.take d).map p):=by
  have: ∀(c) (h),az isRow c h->az de (c.map λr=>(r,true)) (h.map p):=by
   intro c
   induction c with
   |nil=>intro h z;cases h with
    |nil=>trivial
    |cons=>exact z.elim
   |cons o c ih=>intro h z;cases h with
    |nil=>exact z.elim
    |cons a h=>exact⟨by obtain⟨L,rfl⟩:=z.1;exact⟨L,rfl⟩,ih h z.2⟩
  exact λd=>this _ _ (g.take d)
 have a48: ∀d,((h.take d).map p).length<=100000:=λd=>by rw[a4I,a4z,g.len];omega
 have k5: ∀ {y:U}{k c L},bg (G.set F (.cells k)) y 2 c L->y S=some (.cells [.ptr E 0,.v (.int .i64 (x))])/\y P=some (.cells (ab aA .nil .nil .nil))/\y F=some (.cells k):=λz=>⟨z.sub _ _ (by rw[U.ao _ _ a03];exact c2),z.sub _ _ (by rw[U.ao _ _ a02];exact aI),z.sub _ _ (U.ah _ _ _)⟩;refine cr (λC y=> ∃(d:Nat) (L:Own),d<=c.length/\bg (G.set F (.cells [.v (.int .u8 2),.J ((h.take d).map p) L,.J [] .nil])) y 2 ((h.take d).map p) L/\
   C 2= .ptr S 0/\C 4= .ptr P 0/\C 6= .ptr F 0/\C 10=q/\C 11= .v (.int .i64 c.length)/\C 12= .v (.int .i64 d))
  (λC _=>match C 12 with| .v (.int _ a05)=>c.length - a05.toNat| _=>0) ⟨0,.nil,a8Z,?_,?_⟩ ?_
 .rw[show(h.take 0).map p= []from rfl,U.set_set];exact bg.nil U.a1
 .exact aR
 rintro C v ⟨d,L,a52,j,l,m,n,w,A,B⟩;obtain⟨a06,a07,k6⟩:=k5 j;by_cases k7:(d:Int)<c.length
 .have k8:c[d]? =some c[d]:=a4w a8Z;generalize c[d]'a8Z=r at k8;obtain⟨a,k9,H,rfl⟩:=g.get k8;obtain⟨a56,a08,a09⟩:=(Y.mono (U.ar k2 (U.ar (U.af U.a1 k3) j.sub))).get d _ k9;have l0:=a09.ld v U.a1 false 1 a8Z (by simp[R.cells]);have a10:aX false 1 (R.J (ad r) H).cells= .J (ad r) H:=rfl;rw[a10]at l0;have a11:(h.take (d+1)).map p=(h.take d).map p++ [.agg [.J (ad r) H,.v (.bool true)]]:=by rw[a5I,k9,a5y];rfl
  have a13: ∀a b k:R,aX false 1 ([a,b,k].drop 1)=b:=λ_ _ _=>rfl;have a14: ∀a b o:R,putAt [a,b] 0 [o]= [o,b]:=λ_ _ _=>rfl;have a15: ∀a b o:R,putAt [a,b] 1 [o]= [a,o]:=λ_ _ _=>rfl;have a16: ∀a b:R,[a,b].length=2:=λ_ _=>rfl;have a18: ∀b:Bool,(R.v (.bool b)).cells= [.v (.bool b)]:=λ_=>rfl;have l1: ∀(T) (l2),(R.J T l2).cells= [.J T l2]:=λ_ _=>rfl;refine aj (lW @l @m @n @w @A @B @k7 @a08 @l0 (U.ae k6) @a13 @a14 @a15 @a16 @a18 @l1) ?_;refine dc U.a1 (by simp[aS,R.cells]) λa57 a61 a19=> ?_;refine aa ?_;refine dY (j.mono a19.sub) ((k4 d).cells λ_ _=>de.cells) (by simp[aS,R.cells]) (by grind) (by grind) λl3 a62 I=> ?_;rw[<-a11]at I|-;obtain⟨a63,l4,a27⟩:=k5 I;refine aj (cf @l @m @n @w @A @B (U.aJ a27) @l1 @a00 @k0) ?_;have l5:=I.set (ob:= .cells [.v (.int .u8 2),.J ((h.take (d+1)).map p) l3,.J [] .nil]) (U.ah _ _ _);rw[U.set_set]at l5;exact⟨⟨d+1,l3,a8Z,l5,a9a⟩,a8Z⟩
 .obtain rfl:d=c.length:=a8Z;have a29: ∀a b k,aX true 3 [a,b,k]= .agg [a,b,k]:=λ_ _ _=>rfl;have K:=k4 c.length;rw[a4S]at K;have l6:=U.ar k2 (U.ar (U.af U.a1 k3) j.sub);have a30:fX v (dT c) (.J ((h.take c.length).map p) L) (.J [] .nil) ((h.take c.length).map p) []:=by
   refine⟨K,trivial,bR.J (K.cells λ_ _=>de.cells),bR.J (by simp[aS]),?_,?_⟩
   .simp only[dT,a4I];exact n4
   .simp[dT]
  refine aj (gj @l @m @n @w @A @B @k7 (U.ae a06) (U.ae k6) @a29 @s) ?_;have a34:=xC v E e f (X.mono l6) (dT c) _ _ _ _ x n2 n3 a30;refine ai a34 ?_;rintro r a65 ⟨a36,l7,l8⟩;have M:=X.cC u;have l4:=l7 _ _ M.1 M.2 a07;obtain⟨l9,N,O,Q,a68,n0,rfl⟩:=l8.shape;have n1:=aW (M:=N) (e6:=O) (h4:=Q) n0;have a38:=n1.len;have a42:putAt (ab aA .nil .nil .nil) 0 (ab l9 N O Q)=ab l9 N O Q:=cB bj n0;refine aj (cV @l @m @n @s (U.aJ l4) @a42 @a38 @a04 n1.t37) ?_;exact⟨_,U.a1,a36.set M,((Ext.of l6).trans l7).set u,l8⟩
def DC (a:U) (d x:Nat) (y:ag) (W:bB a d x y) (h:List ay) (D:List R) (E:R) (b:Nat) (v:1<=b) (w:b<=8) (A:az bu h D) (e:bR a 37 E D) (B:h.length<=100000):
  AC Tryz.prog 243 [dU d b,E] a λf g=>bB g d x (dv y b (ej h)).2/\Ext d x a g/\ha (dv y b (ej h)).1 f:=by
 refine bd hm Qh a9a ?_;have i: ∀j,(R.agg j).cells=j:=λ_=>rfl;have H: ∀k c o r:R,putAt [k,c,o] 0 [r]= [r,c,o]:=λ_ _ _ _=>rfl;have I: ∀k c o r:R,putAt [k,c,o] 2 [r]= [k,c,r]:=λ_ _ _ _=>rfl;have K: ∀k c o:R,[k,c,o].length=3:=λ_ _ _=>rfl;have M:=(aW (M:= .nil) (e6:= .nil) (h4:= .nil) bj).len;refine aa ?_;refine aM λl N=> ?_;refine aa ?_;refine aM λz C=> ?_;have m:l≠z:=by rintro rfl;rw[U.ah]at C;cases C
 have F:a z=none:=by rw[U.ao _ _ (a4F m)]at C;exact C
 obtain⟨p,G⟩: ∃p:U,p=(a.set l (.cells [.ptr d 0,.v (.int .i64 (b))])).set z (.cells (ab aA .nil .nil .nil)):=⟨_,rfl⟩;have L:a.sub p:=by rw[G];exact U.af (U.af U.a1 N) F
 have aI:p z=some (.cells (ab aA .nil .nil .nil)):=by rw[G,U.ah]
 refine aj (cV @i @cn @H @I @K e.one @U.ao @m @U.ah) ?_;rw[<-G];have O:fX p (ej h) (.J [] .nil) E [] D:=⟨trivial,A,bR.J (by simp[aS]),e.mono L,by simp[ej],B⟩;refine ai (xC p d x y (W.mono L) (ej h) _ _ _ _ b v w O) ?_;rintro f j9 ⟨Q,n,q⟩;have P:=W.cC F;have X:=n _ _ P.1 P.2 aI;obtain⟨s,S,T,V,k0,t,rfl⟩:=q.shape;have u:=aW (M:=S) (e6:=T) (h4:=V) t;have Y:=u.len;have Z:putAt (ab aA .nil .nil .nil) 0 (ab s S T V)=ab s S T V:=cB bj t;refine aj (bs @i (U.aJ X) @Z @Y @M u.t37) ?_;exact⟨_,U.a1,Q.set P,((Ext.of L).trans n).set F,q⟩
def xE (a:c3) (w A:List R) (p z:R) (r:U) (P:fX r a p z w A):
  AC Tryz.prog 236 [gM a p z] r λc V=> ∃d,az isRow (a.rows.map Prod.fst) d/\au r V 1 (flat d) c:=by
 refine bd hm Q4 a9a ?_;have S: ∀g,(R.agg g).cells=g:=λ_=>rfl;have B:=P.gY;have k5:=P.kt;refine aj @S ?_;refine aM λT H=> ?_;obtain⟨x,W⟩: ∃x:U,x=r.set T (.cells [.v (.int .u8 (a.kind.toNat)),p,z]):=⟨_,rfl⟩;have i:r.sub x:=by rw[W];exact U.af U.a1 H
 have k6:x T=some (.cells [.v (.int .u8 (a.kind.toNat)),p,z]):=by rw[W,U.ah]
 have I:=P.lP.mono i;refine aj (aH @S @U.ah @B) ?_;rw[show r.set T (.cells (gM a p z).cells)=x from W.symm];refine cr (λk V=> ∃(b:Nat) (c:R) (d:List R),b<=a.rows.length/\az isRow ((a.rows.take b).map Prod.fst) d/\au x V 1 (flat d) c/\k 1= .ptr T 0/\k 3=c/\k 7=p/\k 8= .v (.int .i64 a.rows.length)/\k 9= .v (.int .i64 b))
  (λk _=>match k 9 with| .v (.int _ K)=>a.rows.length - K.toNat| _=>0) ⟨0,.J [] .nil,[],a8Z,trivial,au.nil U.a1,?_⟩ ?_
 .exact mT
 rintro k M ⟨b,c,d,k7,C,e,D,E,F,G,L⟩;by_cases j:(b:Int)<a.rows.length
 .have f:a.rows[b]? =some a.rows[b]:=a4w a8Z;have l:a.rows.take (b+1)=a.rows.take b++ [a.rows[b]]:=by rw[a5I,f];rfl
  generalize a.rows[b]'a8Z=h at f l;obtain⟨y,N,o,rfl⟩:=P.rows.get f;obtain⟨k8,O,Q⟩:=I.get b _ N;have m:=Q.ld M e.1 true 2 a8Z (by simp[R.cells]);have X:aX true 2 (R.agg [.J (ad h.1) o,.v (.bool h.2)]).cells= .agg [.J (ad h.1) o,.v (.bool h.2)]:=rfl;have n: ∀c y q s:R,putAt [c,y] 0 [q,s]= [q,s]:=λ_ _ _ _=>rfl;have t: ∀c y:R,[c,y].length=2:=λ_ _=>rfl;have Y: ∀c y:R,aX false 1 [c,y]=c:=λ_ _=>rfl;rw[X]at m;refine aj (gj @D @E @F @G @L @j @O @m @S @n @t) ?_;refine aM λk9 Z=> ?_;have j9:=au.mono e (U.af (Y:= .cells [.J (ad h.1) o,.v (.bool h.2)]) U.a1 Z);refine aj (gj @D @E @F @G @L @S @n @t @Y @U.set_set @U.ah) ?_;refine eP (by simp[aS,R.cells]) a9a λl0 k0=> ?_;have k1:=au.mono j9 (U.af (Y:= .cells (flat [R.J (ad h.1) o])) U.a1 k0);have k2:az isRow ((a.rows.take b).map Prod.fst++ [h.1]) (d++ [R.J (ad h.1) o]):=C.snoc ⟨_,rfl⟩;have u:(flat d).length=b:=by rw[db (C.cells λ_ _=>isRow.cells),C.len];simp;omega
  refine aj (bm @D @E @F @G @L) ?_;refine fg k1 a8Z (og rfl) rfl (by rw[u];simp[flat,R.cells];omega) (by rw[u];simp[flat,R.cells];omega) λk3 l1 v=> ?_;have k4:flat d++flat [R.J (ad h.1) o]=flat (d++ [R.J (ad h.1) o]):=by simp[flat]
  rw[k4]at v;refine aj (bm @D @E @F @G @L) ?_;refine⟨⟨b+1,k3,_,a8Z,?_,v,a9a⟩,a8Z⟩;rw[l,a5y];exact k2
 .obtain rfl:b=a.rows.length:=a8Z;rw[a4S]at C;refine aj (bs @D @E @F @G @L @j) ?_;exact⟨_,U.a1,d,C,e.base i⟩
def iC (b:ag) (c:Nat) (d:ay):Option c3:=
 match fk b c d with
 |none=>none
 |some a=>if a.kind=2\/a.kind=3 then some a else none
theorem xF (b:U) (T I:Nat) (V:ag) (k1:bB b T I V) (o:ay) (W e f:Own) (K:o.sum.length=32) (k2:o.cz) (p:Nat) (k3:1<=p) (k4:p<=8):
  AC Tryz.prog 234 [dU T p,.agg (ab o W e f)] b λq y=>b.sub y/\match iC V p o with
   |none=>q= .aK [xu,.v (.int .i64 21)]
   |some a=> ∃d h,q= .aK [gM a d h,.v (.int .i64 0)]/\hv b y a d h:=by
 refine bd hm Q0 a9a ?_;have c: ∀M,(R.agg M).cells=M:=λ_=>rfl;have z: ∀C D E d h N:R,putAt [C,D,E] 0 [d,h,N]= [d,h,N]:=λ_ _ _ _ _ _=>rfl;have L: ∀C D E,aX true 3 [C,D,E]= .agg [C,D,E]:=λ_ _ _=>rfl;have F: ∀C D E:R,[C,D,E].length=3:=λ_ _ _=>rfl;have O:=aW (M:=W) (e6:=e) (h4:=f) K;have s:=O.len;refine aj @c ?_;refine aM λt l3=> ?_;refine aj (c2 @c @s) ?_;refine aM λg i=> ?_;have u:t≠g:=by rintro rfl;rw[U.ah]at i;cases i
 have l4:b g=none:=by rw[U.ao _ _ (a4F u)]at i;exact i
 refine aj (c2 @c @s) ?_;refine aM λk j=> ?_;have k5:g≠k:=by rintro rfl;rw[U.ah]at j;cases j
 have k6:t≠k:=by rintro rfl;rw[U.ao _ _ u,U.ah]at j;cases j
 have k7:b k=none:=by simp_all [U.ao,a4F]
 obtain⟨P,Q⟩: ∃P:U,P=((b.set t (.cells [.ptr T 0,.v (.int .i64 (p))])).set g (.cells (ab o W e f))).set k (.cells [.v (.int .u8 0),.J [] .nil,.J [] .nil]):=⟨_,rfl⟩;have v:b.sub P:=by grind[U.af,U.a1]
 have aI:P k=some (.cells [.v (.int .u8 0),.J [] .nil,.J [] .nil]):=by rw[Q,U.ah]
 have l: ∀(y) (X),b.sub y->b.sub (y.set k X):=λy X w=>U.af w k7;refine aj (bt @c @s @U.ao @u @k6 @k5 @U.ah O.t37) ?_;rw[<-Q];refine ai (xv P T I V (k1.mono v) o W e f K k2 p k3 k4) ?_;rintro q l5 ⟨Y,m⟩;have k8:=U.ar v Y;have G:=Y _ _ aI;unfold iC;cases Z:fk V p o with
 |none=>
  rw[Z]at m;obtain rfl:=m;refine aj (aH @c @z @F) ?_;refine aM λA r=> ?_;have x:k≠A:=by rintro rfl;rw[G]at r;cases r
  have S:=a4F x;refine aj (cV @c @z @F @L @U.set_set @U.ao @x @S (U.aJ G)) ?_;grind[U.a1,U.ar,U.af]
 |some a=>
  rw[Z]at m;obtain⟨d,h,rfl,k9⟩:=m;simp -dsimp -implicitDefEqProofs (disch:=first|omega|assumption|(simp only[bk,Nat.reduceAdd];try omega)) only[go_sem,simprocAttr,-List.reduceReplicate,c,z,F,L];refine aM λA r=> ?_;have x:k≠A:=by rintro rfl;rw[G]at r;cases r
  have S:=a4F x;have l0:=(k9.mono (U.af (Y:= .cells [.v (.int .u8 (a.kind.toNat)),d,h]) U.a1 r)).set (ob:= .cells [.v (.int .u8 (a.kind.toNat)),d,h]) aI;have l6:=l0.base (l _ _ v);have B:=U.ar k8 (U.af (Y:= .cells [.v (.int .u8 (a.kind.toNat)),d,h]) U.a1 r);have l1:=iA a.kind 2 a8Z;have l2:=iA a.kind 3 a8Z;simp only[a7y]at l1 l2;simp only;by_cases j9:a.kind=2
  .have n:((a.kind.toNat:Int)=2)=True:=by rw[j9];simp
   refine aj (gj @c @z @F @L @U.set_set @U.ah @U.ao @x @S (U.aJ G) @n) ?_;refine⟨_,U.a1,l _ _ B,?_⟩;grind
  .have n: ¬(a.kind.toNat:Int)=2:=λw=>j9 (by simp_all);by_cases k0:a.kind=3
   .have H:((a.kind.toNat:Int)=3)=True:=by rw[k0];simp
    refine aj (gU @c @z @F @L @U.set_set @U.ah @U.ao @x @S (U.aJ G) @n @H) ?_;refine⟨_,U.a1,l _ _ B,?_⟩;grind
   .have H: ¬(a.kind.toNat:Int)=3:=λw=>k0 (by simp_all);refine aj (gU @c @z @F @L @U.set_set @U.ah @U.ao @x @S (U.aJ G) @n @H) ?_;refine⟨_,U.a1,l _ _ B,?_⟩;simp_all
def xG (k:c3) (L P:List R) (d h:R) (o:U) (S:fX o k d h L P):
  AC Tryz.prog 248 [gM k d h] o λi j=> ∃a r,i= .agg [.v (.bool (decide (k.kind=2))),a,h]/\az isRow (k.rows.map Prod.fst) r/\au o j 1 (flat r) a:=by
 refine bd hm Qq a9a ?_;have x: ∀T,(R.agg T).cells=T:=λ_=>rfl;have V: ∀a b c,aX true 3 [a,b,c]= .agg [a,b,c]:=λ_ _ _=>rfl;have l: ∀a b c:R,[a,b,c].length=3:=λ_ _ _=>rfl;have m: ∀a b c d h W:R,putAt [a,b,c] 0 [d,h,W]= [d,h,W]:=λ_ _ _ _ _ _=>rfl;have n: ∀a b c d:R,putAt [a,b,c] 0 [d]= [d,b,c]:=λ_ _ _ _=>rfl;have q: ∀a b c d:R,putAt [a,b,c] 1 [d]= [a,d,c]:=λ_ _ _ _=>rfl;have s: ∀a b c d:R,putAt [a,b,c] 2 [d]= [a,b,d]:=λ_ _ _ _=>rfl;have t: ∀b:Bool,(R.v (.bool b)).cells= [.v (.bool b)]:=λ_=>rfl;have u: ∀a b c:R,aX false 1 ([a,b,c].drop 2)=c:=λ_ _ _=>rfl;have e: ∀a b c:R,List.take 3 [a,b,c]= [a,b,c]:=λ_ _ _=>rfl;refine aj @x ?_;refine aM λE v=> ?_;refine aj @x ?_;refine aM λy z=> ?_;have F:E≠y:=by rintro rfl;rw[U.ah]at z;cases z
 have f:o y=none:=by rw[U.ao _ _ (a4F F)]at z;exact z
 obtain⟨p,C⟩: ∃p:U,p=(o.set E (.cells [.v (.int .u8 (k.kind.toNat)),d,h])).set y (.cells [.v (.bool false),.J [] .nil,.J [] .nil]):=⟨_,rfl⟩;have g:o.sub p:=by rw[C];exact U.af (U.af U.a1 v) f
 have w:p E=some (.cells [.v (.int .u8 (k.kind.toNat)),d,h]):=by rw[C,U.ao _ _ F,U.ah]
 have c2:p y=some (.cells [.v (.bool false),.J [] .nil,.J [] .nil]):=by rw[C,U.ah]
 have G:=iA k.kind 2 a8Z;simp only[a7y]at G;have A:UInt8.ofNat 2=2:=rfl;rw[A]at G;refine aj (bs @x @U.ao @F @U.ah @V @e) ?_;rw[<-C];refine ai (xE k L P d h p (S.mono g)) ?_;rintro a N ⟨r,B,D⟩;have H:=D.1 _ _ w;have I:=D.1 _ _ c2;have K:=fI D;have M:=S.gT.one;refine aj (p2 @x (U.ae H) (U.aJ I) @V @e @u @t @K @M @n @q @s @l @m @G) ?_;refine⟨_,U.a1,a,r,rfl,B,?_⟩;exact(jL D c2).base (U.af g f)
theorem Yu (h:R) (c d:R) (a b:Nat) (E:c.cells= [c]) (F:d.cells= [d]) (G:h.cells= [h]) (r:fb c=some (.v (.int .i64 (a:Int)))) (x:fb d=some (.v (.int .i64 (b:Int)))) (L:a<=1000000000000) (P:b<=1000000000000) (k:U):
  AC Tryz.prog 312 [.agg [h,c,d]] k λy z=>z=k/\y= .v (.bool (decide (a+b<2))):=by
 refine bd hm RJ a9a ?_;have o: ∀p,(R.agg p).cells=p:=λ_=>rfl;refine aj @o ?_;refine aM λS C=> ?_;refine aj (aH @o @r @x) ?_;have D:decide ((a:Int)+b<2)=decide (a+b<2):=by grind
 exact⟨k,U.af U.a1 C,rfl,by rw[D]⟩
def mg (a:ag) (b:Nat) (c:Bool) (d:List (List Int)) (h:List ay):Except Int ay×ag:=if c=true then dv a b (dT d)else dv a b (ej h)
theorem DD (a:U) (b d:Nat) (E:ag) (s:bB a b d E) (F:Bool) (G:List (List Int)) (t:List R) (g:R) (L:List ay) (u:List R) (i:R) (c:Nat) (K:1<=c) (M:c<=8) (k3:az isRow G t) (k4:bR a 1 g t) (k5:G.length<=100000) (k6:az bu L u) (k7:bR a 37 i u) (k8:L.length<=100000):
  AC Tryz.prog 161 [dU b c,.agg [.v (.bool F),g,i]] a λy N=>bB N b d (mg E c F G L).2/\Ext b d a N/\ha (mg E c F G L).1 y:=by
 refine bd hm NV a9a ?_;have h: ∀O,(R.agg O).cells=O:=λ_=>rfl;have Q:=(aW (M:= .nil) (e6:= .nil) (h4:= .nil) bj).len;have X: ∀P S:R,List.take 2 [P,S]= [P,S]:=λ_ _=>rfl;have Y: ∀P S,aX true 2 [P,S]= .agg [P,S]:=λ_ _=>rfl;refine aj @h ?_;refine aM λv l1=> ?_;refine aj @h ?_;refine aM λj l=> ?_;have m:v≠j:=by rintro rfl;rw[U.ah]at l;cases l
 have l2:a j=none:=by rw[U.ao _ _ (a4F m)]at l;exact l
 refine aj (c2 @h @cn) ?_;refine aM λz n=> ?_;have Z:j≠z:=by rintro rfl;rw[U.ah]at n;cases n
 have j9:v≠z:=by rintro rfl;rw[U.ao _ _ m,U.ah]at n;cases n
 have w:a z=none:=by simp_all [U.ao,a4F]
 obtain⟨k,A⟩: ∃k:U,k=((a.set v (.cells [.ptr b 0,.v (.int .i64 (c))])).set j (.cells [.v (.bool F),g,i])).set z (.cells (ab aA .nil .nil .nil)):=⟨_,rfl⟩;have C:a.sub k:=by grind[U.af,U.a1]
 have aI:k z=some (.cells (ab aA .nil .nil .nil)):=by rw[A,U.ah]
 have q:=s.cC w;unfold mg;have k0: ∀(k1) (k2) (y) (D),bB D b d k2->Ext b d k D->ha k1 y->D z=some (.cells (ab aA .nil .nil .nil)):=λk1 k2 y D _ k9 _=>k9 _ _ q.1 q.2 aI;cases F with
 |true=>refine aj (cV @h @cn @U.ao @m @j9 @Z @U.ah @X @Y) ?_;rw[<-A];refine ai (xD k b d E (s.mono C) G t g c K M k3 (k4.mono C) k5) ?_;rintro y D ⟨T,V,o⟩;have B:=k0 _ _ _ _ T V o;obtain⟨W,p,r,x,l0,e,rfl⟩:=o.shape;have f:=aW (M:=p) (e6:=r) (h4:=x) e;have H:=f.len;have I:putAt (ab aA .nil .nil .nil) 0 (ab W p r x)=ab W p r x:=cB bj e;refine aj (bs @h (U.aJ B) @I @H @Q f.t37) ?_;exact⟨_,U.a1,T.set q,((Ext.of C).trans V).set w,o⟩
 |false=>refine aj (cV @h @cn @U.ao @m @j9 @Z @U.ah @X @Y) ?_;rw[<-A];refine ai (DC k b d E (s.mono C) L u i c K M k6 (k7.mono C) k8) ?_;rintro y D ⟨T,V,o⟩;have B:=k0 _ _ _ _ T V o;obtain⟨W,p,r,x,l0,e,rfl⟩:=o.shape;have f:=aW (M:=p) (e6:=r) (h4:=x) e;have H:=f.len;have I:putAt (ab aA .nil .nil .nil) 0 (ab W p r x)=ab W p r x:=cB bj e;refine aj (bs @h (U.aJ B) @I @H @Q f.t37) ?_;exact⟨_,U.a1,T.set q,((Ext.of C).trans V).set w,o⟩
abbrev hx (a:List Int) (b:c3):Nat:=a6.cS bC a (b.kids.map (·.key))
variable{Q:List (List Int)}{q b6:List Int}
def Yv {a:List Int}:a6.cS bC q (a::b6::Q)=if bC q b6=true then 0 else a6.cS bC q (b6::Q)+1:=rfl
theorem DE (a:c3) (B H:List R) (r x:R) (c:List Int) (P:Own) (d:U) (z:fX d a r x B H):
  AC Tryz.prog 240 [gM a r x,.J (ad c) P] d λI S=>S=d/\I= .v (.int .i64 (hx c a:Int)):=by
 refine bd hm Qc a9a ?_;have V: ∀W,(R.agg W).cells=W:=λ_=>rfl;have e:=z.uc;have k4:=z.iw;refine aj @V ?_;refine aM λC K=> ?_;obtain⟨h,T⟩: ∃h:U,h=d.set C (.cells [.v (.int .u8 (a.kind.toNat)),r,x]):=⟨_,rfl⟩;have M:d.sub h:=by rw[T];exact U.af U.a1 K
 have c2:h C=some (.cells [.v (.int .u8 (a.kind.toNat)),r,x]):=by rw[T,U.ah]
 have N:=z.gT.mono M;refine aj @V ?_;rw[show d.set C (.cells (gM a r x).cells)=h from T.symm];refine cr (λk S=> ∃b:Nat,S=h/\hx c a=b+a6.cS bC c ((a.kids.map (·.key)).drop b)/\b<=a.kids.length/\k 1= .J (ad c) P/\k 2= .ptr C 0/\k 5= .v (.int .i64 b))
  (λk _=>match k 5 with| .v (.int _ O)=>a.kids.length - O.toNat| _=>0) ⟨0,rfl,a9a,a8Z,?_⟩ ?_
 .exact mT
 rintro k f ⟨b,rfl,y,k5,D,E,F⟩;have g: ∀i Q j:R,aX false 1 ([i,Q,j].drop 2)=j:=λ_ _ _=>rfl;by_cases l:(b:Int)+1<a.kids.length
 .have m:a.kids[b+1]? =some a.kids[b+1]:=a4w a8Z;have n:(a.kids.map (·.key)).drop b=(a.kids[b]'a8Z).key::(a.kids[b+1]'a8Z).key::(a.kids.map (·.key)).drop (b+2):=by grind[List.drop_eq_getElem_cons,List.length_map]
  have q:(a.kids.map (·.key)).drop (b+1)=(a.kids[b+1]'a8Z).key::(a.kids.map (·.key)).drop (b+2):=by rw[a4V (by rw[a4I];omega)];simp
  rw[n,Yv,<-q]at y;clear n q;generalize a.kids[b+1]'a8Z=o at m y;obtain⟨i,X,Y,k6,G,L,p,rfl⟩:=z.kids.get m;obtain⟨k7,s,t⟩:=N.get (b+1) _ X;have u:=aW (M:=G) (e6:=L) (h4:=p) Y;have Z:(R.agg (ab o G L p)).cells=ab o G L p:=rfl;rw[Z]at t;obtain⟨k8,j9,v⟩:=t.kO f U.a1 36 false 1 a8Z (by rw[u.len];omega);have k0:aX false 1 ((ab o G L p).drop 36)= .J (ad o.key) p:=by rw[u.d36];rfl
  rw[k0]at v;have k1:((b+1:Nat))=(b:Int)+1:=a8Z;rw[k1]at s;refine aj (cf @D @E @F (U.ae c2) @g @e @l @s @j9 @v) ?_;refine ai (xw c o.key P p _) ?_;rintro _ f ⟨rfl,rfl⟩;cases w:bC c o.key with
  |true=>rw[if_pos w]at y;refine aj (aI @D @E @F @a5q) ?_;simp_all
  |false=>rw[if_neg (by simp[w])]at y;refine aj (aI @D @E @F @a5r) ?_;grind
 .have k2:a6.cS bC c ((a.kids.map (·.key)).drop b)=0:=by
   have A:((a.kids.map (·.key)).drop b).length<=1:=by grind
   generalize (a.kids.map (·.key)).drop b=k3 at A
   match k3,A with
   | [],_=>rfl
   | [_],_=>rfl
  rw[k2]at y;refine aj (c6 @D @E @F (U.ae c2) @g @e @l) ?_;simp_all
def mh (c:List (List Int)) (d:List Int):Nat->Nat->Nat->Nat
 |0,a,_=>a
 |h+1,a,b=>if a<b then(match c[(a+b)/2]? with
  |some k=>if mf k d<0 then mh c d h ((a+b)/2+1) b else mh c d h a ((a+b)/2)
  |none=>a)else a
def eW (a:List (List Int)) (b:List Int):Nat:=mh a b a.length 0 a.length
def kx (a:List (List Int)) (b:List Int):Bool:=match a[eW a b]? with|some c=>decide (mf c b=0)|none=>false
theorem DF (b:List (List Int)) (n:List R) (V:R) (d:List Int) (L:Own) (P:U) (W:az isRow b n) (e:bR P 1 V n) (N:b.length<=1000000000000):
  AC Tryz.prog 235 [V,.J (ad d) L,.bG 237 [] []] P λh f=>f=P/\eW b d<=b.length/\h= .aK [.v (.int .i64 (eW b d:Int)),.v (.bool (kx b d))]:=by
 refine bd hm Q2 a9a ?_;have q:=e.len;rw[W.len]at q;refine aj @q ?_;have s:gf Tryz.prog 237=true:=by rfl
 refine cr (λk f=> ∃(r a c:Nat),f=P/\eW b d=mh b d r a c/\a<=c/\c<=b.length/\c - a<=r/\k 0=V/\k 1= .J (ad d) L/\k 2= .bG 237 [] []/\k 8= .v (.int .i64 b.length)/\k 9= .v (.int .i64 a)/\k 10= .v (.int .i64 c))
  (λk _=>match k 9,k 10 with| .v (.int _ a),.v (.int _ c)=>(c - a).toNat| _,_=>0) ⟨b.length,0,b.length,rfl,rfl,a8Z,a8Z,a8Z,?_⟩ ?_
 .exact mT
 rintro k S ⟨r,a,c,rfl,x,O,Q,X,y,z,C,D,E,F⟩;by_cases g:(a)<(c:Int)
 .obtain⟨Y,rfl⟩: ∃v,r=v+1:=⟨r - 1,a8Z⟩;have w:a<c:=a8Z;have t:(a+c)/2<b.length:=a8Z;have o:=a4w t;rw[mh,if_pos w,o]at x;simp only at x;generalize b[(a+c)/2]'t=h at o x;obtain⟨A,i,p,rfl⟩:=W.get o;obtain⟨B,j,l⟩:=e.get _ _ i;have G:=l.ld S U.a1 false 1 a8Z (by simp[R.cells]);have m:aX false 1 (R.J (ad h) p).cells= .J (ad h) p:=rfl;rw[m]at G;have H:IntKind.u64.wrap ((a)+c)=((a+c:Nat)):=by rw[wrap_u64 a8Z a8Z];omega
  have I:bn .shr (.int .u64 ((a+c:Nat))) (.int .u64 1)=some (.int .u64 (((a+c)/2:Nat))):=by rw[rR _ _ _ a8Z a8Z];rfl
  have K:IntKind.i64.wrap (((a+c)/2:Nat))=(((a+c)/2:Nat)):=wrap_i64 a8Z a8Z;generalize Z:(a+c)/2=j9 at*;refine aj (gU @y @z @C @D @E @F @g @H @I @K @j @G) ?_;refine fF s (Ds h d p L _) ?_;rintro _ S ⟨rfl,rfl⟩;by_cases T:mf h d<0
  .rw[if_pos T]at x;refine aj (c6 @y @z @C @D @E @F @T) ?_;grind
  .rw[if_neg T]at x;refine aj (c6 @y @z @C @D @E @F @T) ?_;grind
 .obtain rfl:a=c:=a8Z;have M:eW b d=a:=by rw[x];cases r<;>simp[mh]
  unfold kx;rw[M];by_cases u:(a:Int)<b.length
  .have o:b[a]? =some b[a]:=a4w a8Z;rw[o];generalize b[a]'a8Z=h at o;obtain⟨A,i,p,rfl⟩:=W.get o;obtain⟨B,j,l⟩:=e.get _ _ i;have G:=l.ld S U.a1 false 1 a8Z (by simp[R.cells]);have m:aX false 1 (R.J (ad h) p).cells= .J (ad h) p:=rfl;rw[m]at G;refine aj (cf @y @z @C @D @E @F @g @u @j @G) ?_;refine fF s (Ds h d p L _) ?_;rintro _ S ⟨rfl,rfl⟩;refine aj (bs @y @z @C @D @E @F) ?_;exact⟨_,U.a1,rfl,a8Z⟩
  .have o:b[a]? =none:=a7h a8Z;rw[o];refine aj (bt @y @z @C @D @E @F @g @u) ?_;exact⟨_,U.a1,rfl,a8Z⟩
def dq (d h:U) (b c:Nat) (k:ag) (o:Nat) (p:List R) (r:R):Prop:= ∃a,au a h o p r/\bB a b c k/\Ext b c d a
theorem dq.nil {a:U}{b c h:Nat}{d:ag} (k:bB a b c d):dq a a b c d h [] (.J [] .nil):=⟨a,au.nil U.a1,k,Ext.refl⟩
def dq.gq (a:dq t f e i H v g n):bB f e i H:=by obtain⟨d,b,c,_⟩:=a;exact c.mono b.1
def dq.ext (a:dq f t e i H v g n):Ext e i f t:=by obtain⟨d,b,_,c⟩:=a;exact c.trans (Ext.of b.1)
theorem dq.of {s:U}{l lM:Nat} (a:au f s e g n) (b:bB f l lM H) (c:Ext l lM t f):dq t s l lM H e g n:=⟨f,a,b,c⟩
def dq.mono {b c d:U}{h k:Nat}{o:ag}{p:Nat}{r:List R}{a:R} (x:dq b c h k o p r a) (y:c.sub d):dq b d h k o p r a:=by obtain⟨z,C,D⟩:=x;exact⟨z,C.mono y,D⟩
theorem dq.base (a:dq f e4 e i H v g n) (b:Ext e i t f):dq t e4 e i H v g n:=by obtain⟨c,d,h,k⟩:=a;exact⟨c,d,h,b.trans k⟩
theorem dq.step {r x h:U}{a b:Nat}{L y:ag}{z:Nat}{C:List R}{D:R} (P:dq r x a b L z C D) (E:Ext a b x h) (F:bB h a b y):dq r h a b y z C D:=by
 obtain⟨S,⟨T,o⟩,V,W⟩:=P;have e:=F.ne;refine⟨λc=>if c=a then h a else if c=b then h b else S c,⟨λc f d=> ?_,?_⟩,F.other a9a (by simp[a4F e]),λc f cd ca d=> ?_⟩
 .by_cases k:c=a
  .subst k;simpa using d
  .by_cases p:c=b
   .subst p;simpa[k] using d
   .simp only[k,p,if_false]at d;exact E _ _ k p (T _ _ d)
 .rcases o with o|⟨g,i,j,l,m,n,q,s⟩
  .exact .inl o
  .have G:=V.cC n;exact .inr ⟨g,i,j,l,m,by grind,E _ _ G.1 G.2 q,s⟩
 .simp only[cd,ca,if_false];exact W _ _ cd ca d
theorem xH (k:e≠1): ∀ {a:List R},(∀c∈a,∃b,c= .agg b/\b.length=e)->ed e a.length (flat a)=a:=by
 intro a d;have o:aS e a:=λc p=>by obtain⟨b,rfl,r⟩:=d c p;exact r
 unfold ed;rw[if_neg k];refine a8e λx=> ?_;rw[a4X];by_cases aV:x<a.length
 .rw[a6L aV];have h:=a4w aV;have:=D4 o h;obtain⟨b,y,_⟩:=d _ (a4Z aV);rw[h,a5x,this,y];rfl
 simp_all
theorem DG {h:List ay} (a:az bu h g): ∀b∈g,∃c,b= .agg c/\c.length=37:=by intro b k;obtain⟨o,p,rfl⟩:=a5i k;have z:=a.len;obtain⟨C,d,r⟩:=a.get (a4w (i:=o) a8Z);rw[a4w p]at d;obtain rfl:=a4v d;obtain⟨x,_,D,E,F,y⟩:=r;exact⟨_,y,(aW x).len⟩
def dq.view (d:dq f t e i H v g n): ∃b a,g.length=b*v/\View t n a (.J (ed v b g) .any)/\bB a e i H/\Ext e i f a:=by obtain⟨x,h,k,o⟩:=d;obtain⟨b,a,p,c,r⟩:=View.dR h;exact⟨b,a,p,r,k.mono c,o.trans (Ext.of c)⟩
theorem dq.ui {b:List ay} (c:dq f t e i H 37 (flat g) n) (d:az bu b g): ∃a,View t n a (.J g .any)/\bB a e i H/\Ext e i f a:=by obtain⟨k,a,h,o,p⟩:=c.view;rw[db (d.cells λ_ _=>bu.cells)]at h;grind[xH,DG]
theorem au.ui {b:List ay} (c:au f t 37 (flat g) n) (d:az bu b g): ∃a,View t n a (.J g .any)/\f.sub a:=by obtain⟨k,a,h,o,p⟩:=View.dR c;rw[db (d.cells λ_ _=>bu.cells)]at h;grind[xH,DG]
theorem nj (a:az isRow Q g):flat g=g:=by
 induction Q generalizing g with
 |nil=>cases g with
  |nil=>rfl
  |cons=>exact a.elim
 |cons b Q ih=>cases g with
  |nil=>rfl
  |cons c g=>obtain⟨d,rfl⟩:=a.1;have:=ih a.2;simp only[flat,a4Y]at this|-;rw[this];rfl
theorem au.DH (b:au f t 1 (flat g) n) (c:az isRow Q g): ∃a,View t n a (.J g .any)/\f.sub a:=by grind[View.dR,nj,kq,List.take_of_length_le]
def et {c:Type} (d:List c->c3) (h:Nat):ag->List (List c)->List ay->Except Int (List ay)×ag
 |a,[],acc=>(.ok acc,a)
 |a,k::gs,acc=>
  match dv a h (d k)with
  |(.error o,b)=>(.error o,b)
  |(.ok p,b)=>et d h b gs (acc++ [p])
def Yw (d:Except Int (List ay)) (a:R):Prop:=
 match d with
 | .error b=>b≠0/\a= .aK [.J [] .nil,.v (.int .i64 b)]
 | .ok bI=> ∃c h,az bu bI c/\a= .aK [.J c h,.v (.int .i64 0)]
variable{b0:Type}
def hy (b:b0->R->Prop) (c:List b0) (d:R):Prop:= ∃a h,d= .J a h/\az b c a
theorem hy.cells {a:Type}{c:a->R->Prop}{d:List a}{b:R} (h:hy c d b):b.cells.length=1:=by obtain⟨_,_,rfl,_⟩:=h;rfl
theorem az.xI {b:b0->R->Prop}{a:List b0} (c:az b a []):a= []:=by cases a with|nil=>rfl|cons=>exact c.elim
def DI (a:0<e) (c:i<=100000):i/e+(if 0<i%e then 1 else 0)<=i:=by
 have d:=a7s i e;by_cases b:0<i%e
 .rw[if_pos b];have:i/e<=e*(i/e):=a8z _ a;omega
 .rw[if_neg b];have:i/e<=e*(i/e):=a8z _ a;omega
theorem DJ (d:List (List Int)) (a:List R) (h:Own) (c:U) (k:az isRow d a) (F:d.length<=100000):
  AC Tryz.prog 311 [.J a h] c λp r=> ∃o,bg c r 1 a o/\p= .J a o:=by
 refine mS λG=> ?_;have x:h= .nil->a= []:=λy=>by subst y;simp_all
 refine bd hm RF a9a ?_;simp -dsimp -implicitDefEqProofs (disch:=first|omega|assumption|(simp only[bk,Nat.reduceAdd];try omega)) only[go_sem,simprocAttr,-List.reduceReplicate,↓o5];refine o6 (λb=>by rw[x b]) (λb=> ?_) ?_
 .have z:a= []:=by trivial
  subst z;refine aj @a5r ?_;exact⟨c,U.a1,.nil,bg.nil U.a1,rfl⟩
 .refine bT ?_;refine dc U.a1 (by simp[aS]) λL P C=> ?_;refine bT ?_;have S:=k.len;refine dY C (λ_ b=>by cases b) (k.cells λ_ _=>isRow.cells) (by rw[a4G];omega) (by rw[a4G];omega) λD E T=> ?_;refine aj @a4P.{0} ?_;exact⟨E,U.a1,D,by trivial,rfl⟩
theorem Yx (L:List (List Int)) (S:List R) (u:Own) (c:Nat) (T:U) (M:az isRow L S) (N:L.length<=100000) (k4:c<=100000):
  AC Tryz.prog 303 [.J S u,.v (.int .i64 (c:Int))] T λO V=>T.sub V/\ ∃gs Q,O= .J gs Q/\az (hy isRow) (a6.eU c L) gs:=by
 refine bd hm RB a9a ?_;refine bT ?_;refine cr (λz V=> ∃(d:Nat) (b:List (List Int)) (h:List R) (E:Own) (gs:List R) (P:Own) (F:List (List (List Int))),d<=c/\F++a6.eU (c - d) b=a6.eU c L/\az isRow b h/\b.length<=100000/\F.length=d/\az (hy isRow) F gs/\bg T V 1 gs P/\
   z 0= .J h E/\z 1= .v (.int .i64 c)/\z 5= .J gs P/\z 8= .v (.int .i64 c)/\z 9= .v (.int .i64 d))
  (λz _=>match z 9 with| .v (.int _ X)=>c - X.toNat| _=>0) ⟨0,L,S,u,[],.nil,[],a8Z,rfl,M,N,rfl,trivial,bg.nil U.a1,?_⟩ ?_
 .exact mT
 rintro z k5 ⟨d,b,h,E,gs,P,F,k6,C,k,Y,v,D,W,o,p,r,x,y⟩;by_cases e:(d)<(c:Int)
 .have w:=k.len;have Z:=DI (e:=c - d) a8Z Y;have A:(c) -(d)=((c - d:Nat):Int):=a8Z;rw[show c - d=(c -(d+1))+1 by omega,a6.eU]at C;rw[show c -(d+1)+1=c - d by omega]at C;generalize k7:c - d=G at*;have B: ¬(G:Int)=0:=a8Z;have k8:=a7t b.length G;have H:(b.length:Int).tdiv (G:Int)=((b.length/G:Nat)):=rfl;have I:(b.length:Int).tmod (G:Int)=((b.length%G:Nat)):=rfl;obtain⟨a,f⟩: ∃a,a=b.length/G+(if 0<b.length%G then 1 else 0):=⟨_,rfl⟩;rw[<-f]at Z C;by_cases K:0<b.length%G
  .have g:((0)<((b.length%G:Nat):Int))=True:=eq_true a8Z;have i:((b.length/G:Nat))+1=(a:Int):=by rw[f,if_pos K];omega
   have j:dI 1 (.J h E) none (some (.v (.int .i64 (a))))=some (.J (h.take a) .any):=nU a8Z a8Z (k.cells λ_ _=>isRow.cells);have l:dI 1 (.J h E) (some (.v (.int .i64 (a)))) none=some (.J (h.drop a) .any):=qg a8Z a8Z (k.cells λ_ _=>isRow.cells);refine aj (fu @o @p @r @x @y @e @w @A @H @I @B @g @i @j) ?_;refine ai (DJ (b.take a) (h.take a) .any _ (k.take a) (by rw[a4z];omega)) ?_;rintro _ j9 ⟨m,n,rfl⟩;refine aj (bm @o @p @r @x @y) ?_;refine dc U.a1 (by simp[aS,R.cells]) λk0 k1 q=> ?_;refine aj (bm @o @p @r @x @y) ?_;have k2:=D.len;refine dY (W.mono (U.ar n.sub q.sub)) (D.cells λ_ _=>hy.cells) (by simp[aS,R.cells]) (by grind) (by grind) λs k3 t=> ?_;refine aj (bs @o @p @r @x @y @l) ?_;refine⟨⟨d+1,b.drop a,h.drop a,.any,gs++ [.J (h.take a) m],s,F++ [b.take a],a8Z,?_,k.drop a,by rw[a4N];omega,by simp[v],D.snoc ⟨_,_,rfl,k.take a⟩,t,a9a⟩,a8Z⟩;rw[<-C,a4J];rfl
  .have g:((0)<((b.length%G:Nat):Int))=False:=eq_false a8Z;have i:((b.length/G:Nat))=(a:Int):=by rw[f,if_neg K];omega
   have j:dI 1 (.J h E) none (some (.v (.int .i64 (a))))=some (.J (h.take a) .any):=nU a8Z a8Z (k.cells λ_ _=>isRow.cells);have l:dI 1 (.J h E) (some (.v (.int .i64 (a)))) none=some (.J (h.drop a) .any):=qg a8Z a8Z (k.cells λ_ _=>isRow.cells);refine aj (fu @o @p @r @x @y @e @w @A @H @I @B @g @i @j) ?_;refine ai (DJ (b.take a) (h.take a) .any _ (k.take a) (by rw[a4z];omega)) ?_;rintro _ j9 ⟨m,n,rfl⟩;refine aj (bm @o @p @r @x @y) ?_;refine dc U.a1 (by simp[aS,R.cells]) λk0 k1 q=> ?_;refine aj (bm @o @p @r @x @y) ?_;have k2:=D.len;refine dY (W.mono (U.ar n.sub q.sub)) (D.cells λ_ _=>hy.cells) (by simp[aS,R.cells]) (by grind) (by grind) λs k3 t=> ?_;refine aj (bs @o @p @r @x @y @l) ?_;refine⟨⟨d+1,b.drop a,h.drop a,.any,gs++ [.J (h.take a) m],s,F++ [b.take a],a8Z,?_,k.drop a,by rw[a4N];omega,by simp[v],D.snoc ⟨_,_,rfl,k.take a⟩,t,a9a⟩,a8Z⟩;rw[<-C,a4J];rfl
 .obtain rfl:d=c:=a8Z;rw[a6O,a6.eU,a5B]at C;refine aj (bs @o @p @r @x @y @e) ?_;exact⟨_,U.a1,W.sub,gs,P,rfl,by rw[<-C];exact D⟩
theorem DK (d:List (ay)) (a:List R) (h:Own) (c:U) (k:az bu d a) (F:d.length<=100000):
  AC Tryz.prog 310 [.J a h] c λp r=> ∃o,bg c r 37 a o/\p= .J a o:=by
 refine mS λG=> ?_;have x:h= .nil->a= []:=λy=>by subst y;simp_all
 refine bd hm RD a9a ?_;simp -dsimp -implicitDefEqProofs (disch:=first|omega|assumption|(simp only[bk,Nat.reduceAdd];try omega)) only[go_sem,simprocAttr,-List.reduceReplicate,↓o5];refine o6 (λb=>by rw[x b]) (λb=> ?_) ?_
 .have z:a= []:=by trivial
  subst z;refine aj @a5r ?_;exact⟨c,U.a1,.nil,bg.nil U.a1,rfl⟩
 .refine bT ?_;refine dc U.a1 (by simp[aS]) λL P C=> ?_;refine bT ?_;have S:=k.len;refine dY C (λ_ b=>by cases b) (k.cells λ_ _=>bu.cells) (by rw[a4G];omega) (by rw[a4G];omega) λD E T=> ?_;refine aj @a4P.{0} ?_;exact⟨E,U.a1,D,by trivial,rfl⟩
theorem DL (L:List (ay)) (S:List R) (u:Own) (c:Nat) (T:U) (M:az bu L S) (N:L.length<=100000) (k4:c<=100000):
  AC Tryz.prog 245 [.J S u,.v (.int .i64 (c:Int))] T λO V=>T.sub V/\ ∃gs Q,O= .J gs Q/\az (hy bu) (a6.eU c L) gs:=by
 refine bd hm Ql a9a ?_;refine bT ?_;refine cr (λz V=> ∃(d:Nat) (b:List (ay)) (h:List R) (E:Own) (gs:List R) (P:Own) (F:List (List (ay))),d<=c/\F++a6.eU (c - d) b=a6.eU c L/\az bu b h/\b.length<=100000/\F.length=d/\az (hy bu) F gs/\bg T V 1 gs P/\
   z 0= .J h E/\z 1= .v (.int .i64 c)/\z 5= .J gs P/\z 8= .v (.int .i64 c)/\z 9= .v (.int .i64 d))
  (λz _=>match z 9 with| .v (.int _ X)=>c - X.toNat| _=>0) ⟨0,L,S,u,[],.nil,[],a8Z,rfl,M,N,rfl,trivial,bg.nil U.a1,?_⟩ ?_
 .exact mT
 rintro z k5 ⟨d,b,h,E,gs,P,F,k6,C,k,Y,v,D,W,o,p,r,x,y⟩;by_cases e:(d)<(c:Int)
 .have w:=k.len;have Z:=DI (e:=c - d) a8Z Y;have A:(c) -(d)=((c - d:Nat):Int):=a8Z;rw[show c - d=(c -(d+1))+1 by omega,a6.eU]at C;rw[show c -(d+1)+1=c - d by omega]at C;generalize k7:c - d=G at*;have B: ¬(G:Int)=0:=a8Z;have k8:=a7t b.length G;have H:(b.length:Int).tdiv (G:Int)=((b.length/G:Nat)):=rfl;have I:(b.length:Int).tmod (G:Int)=((b.length%G:Nat)):=rfl;obtain⟨a,f⟩: ∃a,a=b.length/G+(if 0<b.length%G then 1 else 0):=⟨_,rfl⟩;rw[<-f]at Z C;by_cases K:0<b.length%G
  .have g:((0)<((b.length%G:Nat):Int))=True:=eq_true a8Z;have i:((b.length/G:Nat))+1=(a:Int):=by rw[f,if_pos K];omega
   have j:dI 37 (.J h E) none (some (.v (.int .i64 (a))))=some (.J (h.take a) .any):=nU a8Z a8Z (k.cells λ_ _=>bu.cells);have l:dI 37 (.J h E) (some (.v (.int .i64 (a)))) none=some (.J (h.drop a) .any):=qg a8Z a8Z (k.cells λ_ _=>bu.cells);refine aj (fu @o @p @r @x @y @e @w @A @H @I @B @g @i @j) ?_;refine ai (DK (b.take a) (h.take a) .any _ (k.take a) (by rw[a4z];omega)) ?_;rintro _ j9 ⟨m,n,rfl⟩;refine aj (bm @o @p @r @x @y) ?_;refine dc U.a1 (by simp[aS,R.cells]) λk0 k1 q=> ?_;refine aj (bm @o @p @r @x @y) ?_;have k2:=D.len;refine dY (W.mono (U.ar n.sub q.sub)) (D.cells λ_ _=>hy.cells) (by simp[aS,R.cells]) (by grind) (by grind) λs k3 t=> ?_;refine aj (bs @o @p @r @x @y @l) ?_;refine⟨⟨d+1,b.drop a,h.drop a,.any,gs++ [.J (h.take a) m],s,F++ [b.take a],a8Z,?_,k.drop a,by rw[a4N];omega,by simp[v],D.snoc ⟨_,_,rfl,k.take a⟩,t,a9a⟩,a8Z⟩;rw[<-C,a4J];rfl
  .have g:((0)<((b.length%G:Nat):Int))=False:=eq_false a8Z;have i:((b.length/G:Nat))=(a:Int):=by rw[f,if_neg K];omega
   have j:dI 37 (.J h E) none (some (.v (.int .i64 (a))))=some (.J (h.take a) .any):=nU a8Z a8Z (k.cells λ_ _=>bu.cells);have l:dI 37 (.J h E) (some (.v (.int .i64 (a)))) none=some (.J (h.drop a) .any):=qg a8Z a8Z (k.cells λ_ _=>bu.cells);refine aj (fu @o @p @r @x @y @e @w @A @H @I @B @g @i @j) ?_;refine ai (DK (b.take a) (h.take a) .any _ (k.take a) (by rw[a4z];omega)) ?_;rintro _ j9 ⟨m,n,rfl⟩;refine aj (bm @o @p @r @x @y) ?_;refine dc U.a1 (by simp[aS,R.cells]) λk0 k1 q=> ?_;refine aj (bm @o @p @r @x @y) ?_;have k2:=D.len;refine dY (W.mono (U.ar n.sub q.sub)) (D.cells λ_ _=>hy.cells) (by simp[aS,R.cells]) (by grind) (by grind) λs k3 t=> ?_;refine aj (bs @o @p @r @x @y @l) ?_;refine⟨⟨d+1,b.drop a,h.drop a,.any,gs++ [.J (h.take a) m],s,F++ [b.take a],a8Z,?_,k.drop a,by rw[a4N];omega,by simp[v],D.snoc ⟨_,_,rfl,k.take a⟩,t,a9a⟩,a8Z⟩;rw[<-C,a4J];rfl
 .obtain rfl:d=c:=a8Z;rw[a6O,a6.eU,a5B]at C;refine aj (bs @o @p @r @x @y @e) ?_;exact⟨_,U.a1,W.sub,gs,P,rfl,by rw[<-C];exact D⟩
theorem nk {b:Type}: ∀ {g:Nat}{l:List b},(a6.eU g l).length=g/\ ∀a∈a6.eU g l,a.length<=l.length
 |0,l=>⟨rfl,λa c=>by cases c⟩
 |g+1,l=>by
  have ih:=nk (g:=g) (l:=l.drop (l.length/(g+1)+if 0<l.length%(g+1)then 1 else 0));refine⟨by rw[a6.eU,a4C,ih.1],λa d=> ?_⟩;rw[a6.eU]at d;grind
def Yy (T:U) (y V:Nat) (W:ag) (k8:bB T y V W) (a:List (List (List Int))) (j:List R) (e:Own) (c:Nat) (k9:1<=c) (l0:c<=8) (l:az (hy isRow) a j) (l1: ∀m∈a,m.length<=100000) (a14:a.length<=100000):
  AC Tryz.prog 302 [.J j e,.bG 155 [dU y c] []] T λu f=>match(et dT c W a []).1 with
   | .error v=>bB f y V (et dT c W a []).2/\Ext y V T f/\v≠0/\u= .aK [.J [] .nil,.v (.int .i64 v)]
   | .ok bI=> ∃d h,az bu bI d/\u= .aK [h,.v (.int .i64 0)]/\dq T f y V (et dT c W a []).2 37 (flat d) h/\(bI= []->h= .J [] .nil):=by
 refine bd hm Rz a9a ?_;have w: ∀N,(R.agg N).cells=N:=λ_=>rfl;have A:=(aW (M:= .nil) (e6:= .nil) (h4:= .nil) bj).len;have O:=l.len;have l2:gf Tryz.prog 155=true:=a9e;have a15:=bR.J (s:=T) (o:=e) (l.cells λ_ _=>hy.cells);refine aj @O ?_;refine cr (λk f=> ∃(b:Nat) (g:ag) (z:List ay) (d:List R) (h:R),b<=a.length/\et dT c g (a.drop b) z=et dT c W a []/\az bu z d/\z.length=b/\dq T f y V g 37 (flat d) h/\(z= []->h= .J [] .nil)/\
   k 0= .J j e/\k 1= .bG 155 [dU y c] []/\k 6=h/\k 11= .J j e/\k 12= .v (.int .i64 a.length)/\k 13= .v (.int .i64 b))
  (λk _=>match k 13 with| .v (.int _ l3)=>a.length - l3.toNat| _=>0) ⟨0,W,[],[],.J [] .nil,a8Z,rfl,trivial,rfl,dq.nil k8,λ_=>rfl,?_⟩ ?_
 .exact cm @O
 rintro k B ⟨b,g,z,d,h,a16,D,n,l4,H,l5,E,F,G,L,P,S⟩;by_cases Q:(b:Int)<a.length
 .have X:a[b]? =some a[b]:=a4w a8Z;have Y:a.drop b=a[b]::a.drop (b+1):=a4V a8Z;have Z:=l1 _ (a4Z (n:=b) a8Z);rw[Y,et]at D;clear Y;generalize a[b]'a8Z=m at X D Z;obtain⟨a18,l6,q,I,rfl,j9⟩:=l.get X;obtain⟨a19,l7,l8⟩:=(bR.J (s:=B) (o:=e) (l.cells λ_ _=>hy.cells)).get b _ l6;have k0:=l8.ld B U.a1 false 1 a8Z (by simp[R.cells]);have l9:aX false 1 (R.J q I).cells= .J q I:=rfl;rw[l9]at k0;refine aj (cV @E @F @G @L @P @S @Q @l7 @k0) ?_;refine fF l2 (xD B y V g H.gq m q (.J q I) c k9 l0 j9 (bR.J (j9.cells λ_ _=>isRow.cells)) Z) ?_;rintro u a27 ⟨k1,n0,s⟩;have k2:=H.step n0 k1;generalize a29:dv g c (dT m)=n1 at*;obtain⟨res,n2⟩:=n1;simp only at D k1 s k2;obtain⟨C,o,p,r,v,k3,x⟩:=s.shape;have k4:=aW (M:=o) (e6:=p) (h4:=r) k3;have i:=k4.len;have K:putAt (ab aA .nil .nil .nil) 0 (ab C o p r)=ab C o p r:=cB bj k3;subst x;refine aj (gj @E @F @G @L @P @S @cn @w @A @i @K) ?_;refine aM λa30 n3=> ?_;have M:=k2.mono (U.af (Y:= .cells (ab C o p r)) U.a1 n3);cases res with
  |error a34=>obtain⟨n4,x⟩:=s;simp only[R.aK.injEq,a6R,R.v.injEq,Value.int.injEq,true_and,and_true]at x;obtain⟨_,rfl⟩:=x;rw[<-D];refine aj (kZ @E @F @G @L @P @S @cn @w @A @i @K @U.set_set @n4) ?_;exact⟨_,U.a1,M.gq,M.ext⟩
  |ok k5=>
   obtain⟨n5,n9,a00,a01,a02,x⟩:=s;simp only[R.aK.injEq,a6R,R.v.injEq,Value.int.injEq,true_and,and_true,R.agg.injEq]at x;obtain⟨x,rfl⟩:=x;obtain⟨a03,a04,a05,a06⟩:=M;refine aj (fu @E @F @G @L @P @S @cn @w @A @i @K @U.set_set @U.ah k4.t37) ?_;refine eP (by simp[aS,R.cells,i]) a9a λa36 a07=> ?_;have a08:=au.mono a04 (U.af (Y:= .cells (flat [R.agg (ab C o p r)])) U.a1 a07);have a09:az bu (z++ [k5]) (d++ [R.agg (ab C o p r)]):=n.snoc ⟨n5,n9,a00,a01,a02,by rw[x]⟩;have k6:(flat d).length=z.length*37:=by rw[db (n.cells λ_ _=>bu.cells),n.len]
   have t:(flat [R.agg (ab C o p r)]).length=1*37:=by simp[flat,R.cells,i]
   refine aj (bs @E @F @G @L @P @S) ?_;refine fg a08 a8Z (og t) t (by rw[k6,t];omega) (by rw[k6,t];omega) λa10 a38 k7=> ?_;have a11:flat d++flat [R.agg (ab C o p r)]=flat (d++ [R.agg (ab C o p r)]):=by simp[flat]
   rw[a11]at k7;refine aj (bs @E @F @G @L @P @S) ?_;exact⟨⟨b+1,n2,z++ [k5],_,a10,a8Z,D,a09,by simp[l4],⟨a03,k7,a05,a06⟩,(λa13=>by simp at a13),a9a⟩,a8Z⟩
 .obtain rfl:b=a.length:=a8Z;rw[a7I,et]at D;rw[<-D];refine aj (c6 @E @F @G @L @P @S @Q) ?_;exact⟨_,U.a1,d,h,n,rfl,H,l5⟩
def oo (a:ag) (b:Nat) (c:List (List Int)):Except Int (List ay)×ag:=et dT b a (a6.chunks c) []
def DM (T:U) (y V:Nat) (W:ag) (k8:bB T y V W) (a:List (List (ay))) (j:List R) (e:Own) (c:Nat) (k9:1<=c) (l0:c<=8) (l:az (hy bu) a j) (l1: ∀m∈a,m.length<=100000) (a14:a.length<=100000):
  AC Tryz.prog 244 [.J j e,.bG 243 [dU y c] []] T λu f=>match(et ej c W a []).1 with
   | .error v=>bB f y V (et ej c W a []).2/\Ext y V T f/\v≠0/\u= .aK [.J [] .nil,.v (.int .i64 v)]
   | .ok bI=> ∃d h,az bu bI d/\u= .aK [h,.v (.int .i64 0)]/\dq T f y V (et ej c W a []).2 37 (flat d) h/\(bI= []->h= .J [] .nil):=by
 refine bd hm Qj a9a ?_;have w: ∀N,(R.agg N).cells=N:=λ_=>rfl;have A:=(aW (M:= .nil) (e6:= .nil) (h4:= .nil) bj).len;have O:=l.len;have l2:gf Tryz.prog 243=true:=a9e;have a15:=bR.J (s:=T) (o:=e) (l.cells λ_ _=>hy.cells);refine aj @O ?_;refine cr (λk f=> ∃(b:Nat) (g:ag) (z:List ay) (d:List R) (h:R),b<=a.length/\et ej c g (a.drop b) z=et ej c W a []/\az bu z d/\z.length=b/\dq T f y V g 37 (flat d) h/\(z= []->h= .J [] .nil)/\
   k 0= .J j e/\k 1= .bG 243 [dU y c] []/\k 6=h/\k 11= .J j e/\k 12= .v (.int .i64 a.length)/\k 13= .v (.int .i64 b))
  (λk _=>match k 13 with| .v (.int _ l3)=>a.length - l3.toNat| _=>0) ⟨0,W,[],[],.J [] .nil,a8Z,rfl,trivial,rfl,dq.nil k8,λ_=>rfl,?_⟩ ?_
 .exact cm @O
 rintro k B ⟨b,g,z,d,h,a16,D,n,l4,H,l5,E,F,G,L,P,S⟩;by_cases Q:(b:Int)<a.length
 .have X:a[b]? =some a[b]:=a4w a8Z;have Y:a.drop b=a[b]::a.drop (b+1):=a4V a8Z;have Z:=l1 _ (a4Z (n:=b) a8Z);rw[Y,et]at D;clear Y;generalize a[b]'a8Z=m at X D Z;obtain⟨a18,l6,q,I,rfl,j9⟩:=l.get X;obtain⟨a19,l7,l8⟩:=(bR.J (s:=B) (o:=e) (l.cells λ_ _=>hy.cells)).get b _ l6;have k0:=l8.ld B U.a1 false 1 a8Z (by simp[R.cells]);have l9:aX false 1 (R.J q I).cells= .J q I:=rfl;rw[l9]at k0;refine aj (cV @E @F @G @L @P @S @Q @l7 @k0) ?_;refine fF l2 (DC B y V g H.gq m q (.J q I) c k9 l0 j9 (bR.J (j9.cells λ_ _=>bu.cells)) Z) ?_;rintro u a27 ⟨k1,n0,s⟩;have k2:=H.step n0 k1;generalize a29:dv g c (ej m)=n1 at*;obtain⟨res,n2⟩:=n1;simp only at D k1 s k2;obtain⟨C,o,p,r,v,k3,x⟩:=s.shape;have k4:=aW (M:=o) (e6:=p) (h4:=r) k3;have i:=k4.len;have K:putAt (ab aA .nil .nil .nil) 0 (ab C o p r)=ab C o p r:=cB bj k3;subst x;refine aj (gj @E @F @G @L @P @S @cn @w @A @i @K) ?_;refine aM λa30 n3=> ?_;have M:=k2.mono (U.af (Y:= .cells (ab C o p r)) U.a1 n3);cases res with
  |error a34=>obtain⟨n4,x⟩:=s;simp only[R.aK.injEq,a6R,R.v.injEq,Value.int.injEq,true_and,and_true]at x;obtain⟨_,rfl⟩:=x;rw[<-D];refine aj (kZ @E @F @G @L @P @S @cn @w @A @i @K @U.set_set @n4) ?_;exact⟨_,U.a1,M.gq,M.ext⟩
  |ok k5=>
   obtain⟨n5,n9,a00,a01,a02,x⟩:=s;simp only[R.aK.injEq,a6R,R.v.injEq,Value.int.injEq,true_and,and_true,R.agg.injEq]at x;obtain⟨x,rfl⟩:=x;obtain⟨a03,a04,a05,a06⟩:=M;refine aj (fu @E @F @G @L @P @S @cn @w @A @i @K @U.set_set @U.ah k4.t37) ?_;refine eP (by simp[aS,R.cells,i]) a9a λa36 a07=> ?_;have a08:=au.mono a04 (U.af (Y:= .cells (flat [R.agg (ab C o p r)])) U.a1 a07);have a09:az bu (z++ [k5]) (d++ [R.agg (ab C o p r)]):=n.snoc ⟨n5,n9,a00,a01,a02,by rw[x]⟩;have k6:(flat d).length=z.length*37:=by rw[db (n.cells λ_ _=>bu.cells),n.len]
   have t:(flat [R.agg (ab C o p r)]).length=1*37:=by simp[flat,R.cells,i]
   refine aj (bs @E @F @G @L @P @S) ?_;refine fg a08 a8Z (og t) t (by rw[k6,t];omega) (by rw[k6,t];omega) λa10 a38 k7=> ?_;have a11:flat d++flat [R.agg (ab C o p r)]=flat (d++ [R.agg (ab C o p r)]):=by simp[flat]
   rw[a11]at k7;refine aj (bs @E @F @G @L @P @S) ?_;exact⟨⟨b+1,n2,z++ [k5],_,a10,a8Z,D,a09,by simp[l4],⟨a03,k7,a05,a06⟩,(λa13=>by simp at a13),a9a⟩,a8Z⟩
 .obtain rfl:b=a.length:=a8Z;rw[a7I,et]at D;rw[<-D];refine aj (c6 @E @F @G @L @P @S @Q) ?_;exact⟨_,U.a1,d,h,n,rfl,H,l5⟩
def Yz (h:U) (c k:Nat) (d:ag) (C:bB h c k d) (a:List (List (ay))) (p:List R) (r:Own) (b:Nat) (D:1<=b) (E:b<=8) (F:az (hy bu) a p) (G: ∀L∈a,L.length<=100000) (P:a.length<=100000):
  AC Tryz.prog 244 [.J p r,.bG 243 [dU c b] []] h λx o=>bB o c k (et ej b d a []).2/\Ext c k h o/\Yw (et ej b d a []).1 x:=by
 refine(DM h c k d C a p r b D E F G P).view λx o y=> ?_;generalize et ej b d a []=S at*;obtain⟨res,m⟩:=S;cases res with
 |error n=>obtain⟨T,V,W,rfl⟩:=y;exact⟨_,o,View.refl,T,V,W,rfl⟩
 |ok bI=>obtain⟨e,q,z,rfl,f,_⟩:=y;obtain⟨g,i,j,l⟩:=f.ui z;exact⟨_,g,View.aK (a:= []) i,j,l,e,.any,z,rfl⟩
def jN (a:ag) (b:Nat) (c:List (ay)):Except Int (List ay)×ag:=et ej b a (a6.chunks c) []
theorem qG {b:Type}{c:List b->c3}{d:Nat}: ∀ {gs:List (List b)}{S S':ag}{acc ks:List ay},et c d S gs acc=(.ok ks,S')->ks.length=acc.length+gs.length
 | [],S,S',acc,ks,a=>by
  grind[et,Prod.mk.inj,Except.ok.inj]
 |h::gs,S,S',acc,ks,a=>by
  rw[et]at a;split at a
  .simp_all
  .have:=qG a;rw[this];simp;omega
def iD (c:Nat):Nat->ag->List ay->Except Int ay×ag
 |0,a,_=>(.error 1,a)
 |d+1,a,bI=>
  if 1<bI.length then match jN a c bI with
   |(.error h,b)=>(.error h,b)
   |(.ok up,b)=>iD c d b up
  else(.ok (bI.headD aA),a)
def YA (k:U) (c o:Nat) (g:ag) (H:bB k c o g) (d:List ay) (i:List R) (k4:Own) (b:Nat) (n5:1<=b) (n9:b<=8) (a00:az bu d i) (a30:d.length<=100000):
  AC Tryz.prog 157 [dU c b,.J i k4] k λk5 h=>bB h c o (iD b (d.length+1) g d).2/\Ext c o k h/\ha (iD b (d.length+1) g d).1 k5:=by
 refine bd hm NN a9a ?_;have T: ∀k6,(R.agg k6).cells=k6:=λ_=>rfl;have I:=(aW (M:= .nil) (e6:= .nil) (h4:= .nil) bj).len;have K: ∀E V:R,List.take 2 [E,V]= [E,V]:=λ_ _=>rfl;have M: ∀E V,aX true 2 [E,V]= .agg [E,V]:=λ_ _=>rfl;refine aj @T ?_;refine aM λj k7=> ?_;refine aj (c2 @T @cn) ?_;refine aM λF q=> ?_;have k8:j≠F:=by rintro rfl;rw[U.ah]at q;cases q
 have N:k F=none:=by rw[U.ao _ _ (a4F k8)]at q;exact q
 obtain⟨p,s⟩: ∃p:U,p=(k.set j (.cells [.ptr c 0,.v (.int .i64 (b))])).set F (.cells (ab aA .nil .nil .nil)):=⟨_,rfl⟩;have k9:k.sub p:=by rw[s];exact U.af (U.af U.a1 k7) N
 have aI:p F=some (.cells (ab aA .nil .nil .nil)):=by rw[s,U.ah]
 have c2:p j=some (.cells [.ptr c 0,.v (.int .i64 (b))]):=by rw[s,U.ao _ _ k8,U.ah]
 have G:=H.cC N;have l0:=H.cC k7;have l1:=(aW (M:= .nil) (e6:= .nil) (h4:= .nil) bj).t37;have l2:putAt (ab aA .nil .nil .nil) 0 (ab aA .nil .nil .nil)=ab aA .nil .nil .nil:=cB bj bj;have O: ∀(h) (l3),Ext c o p h->Ext c o k (h.set F l3):=λh l3 Q=>((Ext.of k9).trans Q).set N;simp -dsimp -implicitDefEqProofs (disch:=first|omega|assumption|(simp only[bk,Nat.reduceAdd];try omega)) only[go_sem,simprocAttr,-List.reduceReplicate,T,cn];rw[show(k.set j (.cells (dU c b).cells)).set F (.cells (List.replicate 32 (R.v (.int .u8 0))++ [R.J [] .nil,.J [] .nil]++ [R.v (.int .i64 0),.v (.int .i64 0)]++ [R.J [] .nil]))=p by rw[s,<-cn];rfl];refine cr (λW h=> ∃(e:Nat) (r:ag) (a:List ay) (t:List R) (u:Own),iD b e r a=iD b (d.length+1) g d/\a.length<e/\e<=100001/\az bu a t/\bB h c o r/\Ext c o p h/\W 1= .J t u/\W 2= .ptr j 0/\W 4= .ptr F 0)
  (λW _=>match W 1 with| .J i _=>i.length| _=>0) ⟨d.length+1,g,d,i,k4,rfl,a8Z,a8Z,a00,H.mono k9,Ext.refl,?_⟩ ?_
 .exact mT
 rintro W l ⟨e,r,a,t,u,x,a34,a36,v,X,m,L,P,S⟩;have w:=v.len;have Y:=m _ _ l0.1 l0.2 c2;have l4:=m _ _ G.1 G.2 aI;obtain⟨Z,rfl⟩: ∃Z,e=Z+1:=⟨e - 1,a8Z⟩;rw[iD]at x;by_cases A:(1:Int)<a.length
 .rw[if_pos a8Z]at x;refine aj (bt @L @P @S @w @A (U.ae Y) @K @M) ?_;refine ai (xB a.length a8Z l) ?_;rintro _ l ⟨rfl,rfl⟩;refine aj (bt @L @P @S @w @A (U.ae Y) @K @M) ?_;have l5:a6.bU a.length<=100000:=by unfold a6.bU;omega
  refine ai (DL a t u (a6.bU a.length) l v a8Z l5) ?_;rintro _ a01 ⟨j9,gs,a02,rfl,a03⟩;have a04:=j9 _ _ Y;refine aj (bs @L @P @S (U.ae a04) @K @M) ?_;have k0:=nk (g:=a6.bU a.length) (l:=a);refine ai (Yz a01 c o r (X.mono j9) _ gs a02 b n5 n9 a03 (λa05 a06=>by have:=k0.2 a05 a06;omega) (by rw[k0.1];exact l5)) ?_;rintro k5 a38 ⟨n,a07,y⟩;have l6:jN r b a=et ej b r (a6.eU (a6.bU a.length) a) []:=rfl;rw[<-l6]at n y;have l7:=λB a08 Q=>qG (c:=ej) (d:=b) (gs:=a6.eU (a6.bU a.length) a) (S:=r) (S':=B) (acc:= []) (ks:=a08) Q;rw[<-l6]at l7;have k1:=m.trans ((Ext.of j9).trans a07);have a09:=k1 _ _ G.1 G.2 aI;generalize jN r b a=a10 at*;obtain⟨res,B⟩:=a10;cases res with
  |error a42=>obtain⟨l8,rfl⟩:=y;simp only at x n;rw[<-x];refine aj (cf @L @P @S @l8 @cn @T (U.aJ a09) @I @l1 @l2) ?_;exact⟨_,U.a1,n.set G,O _ _ k1,l8,rfl⟩
  |ok up=>
   obtain⟨a11,a13,l9,rfl⟩:=y;have n0:=l7 B up rfl;rw[k0.1]at n0;have a43:up.length<a.length:=by rw[n0];unfold a6.bU;simp;omega
   have a47:=l9.len;simp only at x n;refine aj (aH @L @P @S) ?_;exact⟨⟨Z,B,up,a11,a13,x,a8Z,a8Z,l9,n,k1,rfl⟩,a8Z⟩
 .rw[if_neg a8Z]at x;rw[<-x];by_cases k2:(a.length:Int)=0
  .have:a= []:=a4B a8Z;subst this;refine aj (gU @L @P @S @w @A @k2 @cn @T (U.aJ l4) @I @l1 @l2) ?_;exact⟨_,U.a1,X.set G,O _ _ m,bj,me,.nil,.nil,.nil,rfl⟩
  .have n1:a[0]? =some a[0]:=a4w a8Z;have a14:a.headD aA=a[0]'a8Z:=by cases a with|nil=>simp at k2|cons E V=>rfl
   rw[a14];generalize a[0]'a8Z=f at n1;obtain⟨E,a15,k3,a16,z,C,D,rfl⟩:=v.get n1;obtain⟨a48,n2,n3⟩:=(bR.J (s:=l) (o:=u) (v.cells λ_ _=>bu.cells)).get 0 _ a15;have y:=aW (M:=z) (e6:=C) (h4:=D) k3;have a18:=y.len;have a19:(R.agg (ab f z C D)).cells=ab f z C D:=rfl;rw[a19]at n3;have n4:=n3.ld l U.a1 true 37 a8Z (by rw[y.len];omega);rw[show aX true 37 (ab f z C D)= .agg (ab f z C D) by rw[aX,if_pos rfl,y.t37]]at n4;have a27:((0:Nat):Int)=0:=rfl;rw[a27]at n2;have a29:putAt (ab aA .nil .nil .nil) 0 (ab f z C D)=ab f z C D:=cB bj k3;refine aj (fu @L @P @S @w @A @k2 @n2 @n4 @T (U.aJ l4) @I @a18 @a29 y.t37) ?_;exact⟨_,U.a1,X.set G,O _ _ m,k3,a16,z,C,D,rfl⟩
end Go.Proofs.YtlgnfcaolejgeaaGreat
namespace Go.bx
open Go
variable{g A e0:List R}{e i v O b8 j0:Nat}
theorem pn {a:List R}{v:Nat} (b:g.take e=a) (c:A.length=v) (d:e0.length=i) (h:e+v+i<=g.length):
  (putAt (putAt g (e+v) e0) e A).take (e+v+i)=a++(A++e0)/\(putAt (putAt g e A) (e+v) e0).take (e+v+i)=a++(A++e0):=by
 have k:a.length=e:=by rw[<-b,a4z];omega
 constructor
 .have o:(g.take (e+v)).length=e+v:=by rw[a4z];omega
  grind[putAt,List.append_assoc,Nat.min_eq_left,List.drop_left',List.take_left',List.length_append]
 grind[putAt,List.take_left',List.length_append,List.append_assoc]
variable{e2:IntKind}
theorem oq (k:e<=O) (o:O<=b8): ∃v,cg i (.an j0 O b8 i) (some (.v (.int e2 (e:Int)))) none none=some v/\fb v=some (.v (.int .i64 ((O - e:Nat):Int)))/\
  ∀(c:U) (a b:List R),c j0=some (.cells a)->O*i<=a.length->a.take (O*i)=b->bN c i v=some (O - e,b.drop (e*i)):=by
 by_cases p:e<b8
 .refine⟨_,gk k o p,rfl,λc a b d r h=> ?_⟩;have x:e*i+(O - e)*i=O*i:=by rw[<-a5F];congr 1;omega
  simp only[bN,U.ae d];grind
 .obtain rfl:e=O:=a8Z;obtain rfl:e=b8:=a8Z;refine⟨_,tM rfl,by simp[fb],λc a b d r h=> ?_⟩;have:b.drop (e*i)= []:=a5k (by rw[<-h,a4z];omega);rw[this,a6O];rfl
theorem DN {a:Nat}{b:IntKind} (c:b8<=e) (d:e<=O): ∃v,cg i (.an j0 a O i) (some (.v (.int e2 (b8:Int)))) (some (.v (.int b (e:Int)))) none=some v:=by simp_all [cg,cE,Go.bx.intOf]
theorem DO {a b:Nat}{c d:IntKind} (h:j0<=e) (k:e<=i) (o:i<=b8): ∃v,cg O (.an a b b8 O) (some (.v (.int e2 (j0:Int)))) (some (.v (.int c (e:Int)))) (some (.v (.int d (i:Int))))=some v:=by simp_all [cg,cE,Go.bx.intOf]
variable{f t e4:U}
theorem au.first (c:au f t e g (.an v O b8 e)) (d:i<=O):au f t e (g.take (i*e)) (.an v i b8 e):=by
 obtain⟨h,a⟩:=c;rcases a with ⟨_,a|a⟩|⟨y,z,C,k,b,o,p,r,D,E,F,x⟩
 .cases a
 .cases a
 simp only[R.an.injEq,and_true]at b;obtain⟨rfl,rfl,rfl⟩:=b;have G:i*e<=O*e:=a4L _ d;exact⟨h,.inr ⟨v,i,b8,k,rfl,o,p,r,by grind,by simp_all,a8Z,x⟩⟩
theorem au.an {o p:U}{k:Nat}{a:List R}{r:R} (y:au o p k a r) (z:a≠ []): ∃d b c h,r= .an d b c k/\o d=none/\p d=some (.cells h)/\h.length=c*k/\h.take (b*k)=a/\a.length=b*k/\b<=c/\c<=maxLen:=by
 rcases y.2 with ⟨x,_⟩|x
 .trivial
 .exact x
variable{n b3:R}{Y:bq}
theorem au.add (o:au t f i g n) (E:f e=some Y) (p: ∀a b c,n= .an a b c i->a≠e):au (t.set e Y) f i g n:=by
 obtain⟨r,d⟩:=o;refine⟨λx F h=> ?_,?_⟩
 .by_cases y:x=e;grind[U.ah]
  .rw[U.ao _ _ y]at h;exact r _ _ h
 .rcases d with d|⟨a,b,c,z,k,C,D⟩
  .exact .inl d
  .exact .inr ⟨a,b,c,z,k,by rw[U.ao _ _ (p _ _ _ k)];exact C,D⟩
variable{s a7:R -> U -> Prop}
theorem uj {a:cy s} (b:f O=some (.cells g)) (c:g.length=b8*e) (d:bN f e n=some (v,A)) (h:i+v<=b8) (k:(i+v)*j0<=140737488355328) (o:i+v<=9223372036854775807)
  (p:s (.an O (i+v) b8 e) (f.set O (.cells (putAt g (i*e) A)))):jG e j0 f (.an O i b8 e) n (bO s a):=by
 simp_all [jG,vI,bO]
end Go.bx
namespace Go.Proofs.YtlgnfcaolejgeaaGreat
open Go Go.bx
theorem YB (z o:U) (c:List R) (C:R) (D:au z o 1 c C) (a:Nat) (E:a<c.length) (u:c.length<=100000):
  AC Tryz.prog 249 [C,.v (.int .i64 (a:Int)),.v (.int .i64 ((a:Int)+1))] o λT V=>au z V 1 (c.take a++c.drop (a+1)) T:=by
 obtain⟨d,b,h,F,rfl,G,L,P,W,v,p,e⟩:=D.an (λf=>by rw[f]at E;simp at E);refine bd hm Qs a9a ?_;have w:b=c.length:=a8Z;have g:(a)+1=((a+1:Nat):Int):=a8Z;rw[g];obtain⟨A,i⟩:=DO (O:=1) (a:=d) (b:=b) (j0:=a) (e:=a+1) (e2:= .i64) (c:= .i64) (d:= .i64) a8Z a8Z p;have j:cg 1 (.an d b h 1) none (some (.v (.int .i64 (a)))) none=some (.an d a h 1):=hL a8Z;obtain⟨B,l,_,r⟩:=oq (i:=1) (j0:=d) (e:=a+1) (e2:= .i64) a8Z p;have r:=r o F c L (by rw[P];omega) W;have m: ¬(a)=((a+1:Nat):Int):=a8Z;refine dB (aI @i @j @l @m) ?_;refine uj L P r a8Z a8Z a8Z ?_;have n:a+(b -(a+1))=b - 1:=a8Z;rw[n,a5n];have H:(c.drop ((a+1)*1)).length=b -(a+1):=by rw[a4N];omega
 obtain⟨k,x⟩: ∃k,k=putAt F a (c.drop ((a+1)*1)):=⟨_,rfl⟩;have y:k.length=h:=by rw[x,eH _ _ _ a8Z];omega
 have q:k.take (b - 1)=c.take a++c.drop (a+1):=by rw[x,putAt];grind
 rw[<-x];have s:(o.set d (.cells k)) d=some (.cells k):=U.ah _ _ _;have S:cg 1 (.an d (b - 1) h 1) (some (.v (.int .i64 ((b - 1:Nat))))) (some (.v (.int .i64 ((b))))) none=some (.bA d ((b - 1)*1) (b -(b - 1)) (h -(b - 1)) 1):=Ce a8Z p a8Z;have t:=wW (e:=1) (O:=b -(b - 1)) (v:=b - 1) (b8:=h -(b - 1)) (A:= [R.J [] .nil]) s (by rw[y];omega);rw[a5n]at S;refine dB (aH @S @t @U.set_set) ?_;refine⟨_,U.a1,U.af D.1 G,.inr ⟨d,b - 1,h,_,rfl,G,U.ah _ _ _,?_,?_,?_,a8Z,e⟩⟩
 .rw[eH _ _ _ (by rw[kS,y];simp;omega),y,a5n]
 .rw[putAt,a5n,a4J,a5Y (by rw[a4z];omega),a5L,a6H,q]
 grind
theorem YC (l o:U) (d:List R) (H:R) (y:au l o 1 d H) (O:d≠ []) (a:Nat) (l1:a<=d.length) (l2:d.length<=100000) (k:R) (z:Nat) (m:l z=some (.cells [k])):
  AC Tryz.prog 239 [H,.v (.int .i64 (a:Int)),.an z 1 1 1] o λQ G=>au l G 1 (d.take a++k::d.drop a) Q:=by
 obtain⟨c,b,h,x,rfl,n,D,q,s,l3,X,Y⟩:=y.an O;refine bd hm Qa a9a ?_;have l4:b=d.length:=a8Z;have L:=y.1 _ _ m;have I:c≠z:=by rintro rfl;rw[n]at m;cases m
 have W:((1:Nat):Int)=1:=rfl;obtain⟨l5,e,_,K⟩:=oq (i:=1) (j0:=c) (e:=a) (e2:= .i64) a8Z X;have t: ∀G:U,G z=some (.cells [k])->bN G 1 (.an z 1 1 1)=some (1,[k]):=λG y=>by simp[bN,U.ae y]
 by_cases c1:(a:Int)=b
 .have Z:=eq_true c1;refine dB (aH @e @Z @W) ?_;refine fg y a8Z (t o L) rfl (by grind) (by grind) λl6 G l7=> ?_;refine Ci ?_;grind[U.a1,List.take_of_length_le,List.drop_eq_nil_of_le]
 have l8:a<b:=a8Z;have j9:=K o x d D a8Z s;rw[a5n]at j9;have M:(d.drop a).length=b - a:=by rw[a4N];omega
 by_cases c2:(h)<(b:Int)+1
 .have f:cg 1 (.an c b h 1) none (some (.v (.int .i64 (a)))) none=some (.an c a h 1):=hL a8Z;have N:(b)+1 -(a)=((b+1 - a:Nat):Int):=a8Z;refine dB (bs @e @c1 @W @c2 @f @N) ?_;refine wY D q a8Z a8Z a8Z λp C k0 g i k1 k2=> ?_;have k3:a+(b+1 - a)=b+1:=a8Z;rw[k3]at i k2|-;have k4:p≠c:=by rintro rfl;rw[g]at D;cases D
  have k5:p≠z:=by rintro rfl;rw[g]at L;cases L
  obtain⟨E,k6⟩: ∃E,E=x.take (a*1)++(List.replicate (b+1 - a) [R.J [] .nil]).flatten++k0:=⟨_,rfl⟩;have k7:E.length=C:=by grind[List.length_append,kS,List.length_take]
  have u:E.take a=d.take a:=by grind
  rw[<-k6];have V:cg 1 (.an p (b+1) C 1) (some (.v (.int .i64 (a)))) none none=some (.bA p (a*1) (b+1 - a) (C - a) 1):=gk a8Z i a8Z;have F:cg 1 (.an p (b+1) C 1) (some (.v (.int .i64 ((a)+1)))) none none=some (.bA p ((a+1)*1) (b+1 -(a+1)) (C -(a+1)) 1):=by rw[show(a)+1=((a+1:Nat):Int) by omega];exact gk a8Z i a8Z
  rw[a5n]at V F;rw[a8F]at F;have v:(o.set p (.cells E)) z=some (.cells [k]):=by rw[U.ao _ _ (a4F k5)];exact L
  have P:=hn (O:=a) (j0:=C - a) (i:=b+1 - a) (t _ v) (U.ah o p (.cells E)) a8Z;have w: [k].take ((b+1 - a)*1)= [k]:=a4x a9b;rw[w]at P;obtain⟨r,S⟩: ∃r,r=putAt E a [k]:=⟨_,rfl⟩;have A:r.length=C:=by rw[S,eH _ _ _ a9b,k7]
  rw[<-S]at P;have k8:(o.set p (.cells r)) c=some (.cells x):=by rw[U.ao _ _ (a4F k4)];exact D
  have j:=K _ x d k8 a8Z s;rw[a5n]at j;have T:=hn (O:=a+1) (j0:=C -(a+1)) (i:=b - a) j (U.ah o p (.cells r)) a8Z;have B:(d.drop a).take ((b - a)*1)=d.drop a:=a4x a8Z;rw[B]at T;refine dB (gj @e @c1 @W @c2 @f @N @V @F @P @T @U.set_set) ?_;refine⟨_,U.a1,U.af y.1 (U.bF y.1 g),.inr ⟨p,b+1,C,_,rfl,U.bF y.1 g,U.ah _ _ _,?_,?_,?_,i,k1⟩⟩
  .rw[eH _ _ _ a8Z,A,a5n]
  .have:=(pn (A:= [k]) (v:=1) u rfl M a8Z).2;rw[show(b+1)*1=a+1+(b - a) by omega,S];exact this
  grind
 .have f:cg 1 (.an c b h 1) none (some (.v (.int .i64 ((b)+1)))) none=some (.an c (b+1) h 1):=by rw[show(b)+1=((b+1:Nat):Int) by omega];exact hL a8Z
  have V:cg 1 (.an c (b+1) h 1) (some (.v (.int .i64 (a)))) none none=some (.bA c (a*1) (b+1 - a) (h - a) 1):=gk a8Z a8Z a8Z;have F:cg 1 (.an c (b+1) h 1) (some (.v (.int .i64 ((a)+1)))) none none=some (.bA c ((a+1)*1) (b+1 -(a+1)) (h -(a+1)) 1):=by rw[show(a)+1=((a+1:Nat):Int) by omega];exact gk a8Z a8Z a8Z
  rw[a5n]at V F;rw[a8F]at F;have k9:x≠ []:=by rintro rfl;simp at q;omega
  have l0:kQ (.an z 1 1 1) (.bA c (a+1) (b - a) (h -(a+1)) 1) o=some (.v (.bool false)):=wX rfl rfl (a4F I) (qo L a9a) (qo D k9);have j:bN o 1 (.bA c a (b+1 - a) (h - a) 1)=some (b+1 - a,(x.drop a).take (b+1 - a)):=by simp only[bN,U.ae D,a5n];grind
  have T:=hn (O:=a+1) (j0:=h -(a+1)) (i:=b - a) j D a8Z;have B:((x.drop a).take (b+1 - a)).take ((b - a)*1)=d.drop a:=by rw[a5L,<-s,a5P];congr 1;omega
  rw[B]at T;obtain⟨r,S⟩: ∃r,r=putAt x (a+1) (d.drop a):=⟨_,rfl⟩;rw[<-S]at T;have A:r.length=x.length:=by rw[S,eH _ _ _ a8Z]
  have v:(o.set c (.cells r)) z=some (.cells [k]):=by rw[U.ao _ _ (a4F I)];exact L
  have P:=hn (O:=a) (j0:=h - a) (i:=b+1 - a) (t _ v) (U.ah o c (.cells r)) a8Z;have w: [k].take ((b+1 - a)*1)= [k]:=a4x a9b;rw[w]at P;refine dB (gj @e @c1 @W @c2 @f @V @F @l0 @T @P @U.set_set) ?_;refine⟨_,U.a1,U.af y.1 n,.inr ⟨c,b+1,h,_,rfl,n,U.ah _ _ _,?_,?_,?_,a8Z,Y⟩⟩
  .rw[eH _ _ _ a9b,A,q]
  .have u:x.take a=d.take a:=by grind
   have:=(pn (A:= [k]) (v:=1) u rfl M a8Z).1;grind
  grind
end Go.Proofs.YtlgnfcaolejgeaaGreat
namespace Go.bx
open Go
variable{f t e4:U}{e i v O b8 j0:Nat}{Y:bq}
theorem U.sA (a:f e=some Y):f.set e Y=f:=by grind[U.ah,U.ao]
variable{e2:IntKind}{g A e0:List R}
def uk (k:i<=O) (h:O<=b8) (o:g.length=e): ∃v,cg e (.an j0 O b8 e) (some (.v (.int e2 (i:Int)))) none none=some v/\
  ∀(b:U) (a:List R),b j0=some (.cells a)->a.length=b8*e-> ∃c,kP e g v b=some (b.set j0 (.cells c))/\c.length=a.length/\c.take (i*e)=a.take (i*e):=by
 by_cases p:i<b8
 .refine⟨_,gk k h p,λb a d r=> ?_⟩;have x:i*e+(O - i)*e=O*e:=by rw[<-a5F];congr 1;omega
  have y:O*e<=b8*e:=a4L _ h;have z:i*e<=a.length:=a8Z;refine⟨_,wW d a8Z,?_,?_⟩
  .rw[eH _ _ _ (by rw[kS,o];omega)]
  .rw[putAt,a4J,a5Y (by rw[a4z];omega),a5L,a6H]
 .obtain rfl:i=O:=a8Z;obtain rfl:i=b8:=a8Z;exact⟨_,tM rfl,λb a d r=>⟨a,by rw[Wg,U.sA d],rfl,rfl⟩⟩
end Go.bx
namespace Go.Proofs.YtlgnfcaolejgeaaGreat
open Go Go.bx
theorem DP (l6 O r:U) (x F:List R) (k5 v:R) (o b a c:Nat) (k6:Int) (l7:k6=(c:Int)) (C:au O r 37 x k5) (k7:x.length=o*37) (l8:au l6 O 37 F v) (S:F.length=b*37) (a36:0<b) (a38:a<c) (a42:c<=o) (a43:o<=100000) (a47:b<=100000):
  AC Tryz.prog 242 [k5,.v (.int .i64 (a:Int)),.v (.int .i64 k6),v] r λl9 e=>au O e 37 (x.take (a*37)++(F++x.drop (c*37))) l9:=by
 subst l7;obtain⟨h,n0,p,z,rfl,T,E,q,Q,a48,X,Y⟩:=C.an (λZ=>by rw[Z]at k7;simp at k7;omega);obtain⟨V,n1,k8,s,rfl,a52,j9,n2,a56,a57,a61,a62⟩:=l8.an (λZ=>by rw[Z]at S;simp at S;omega);obtain rfl:o=n0:=a8Z;obtain rfl:b=n1:=a8Z;have G:=C.1 _ _ j9;have k9:h≠V:=by rintro rfl;rw[T]at j9;cases j9
 have j: ∀e:U,e V=some (.cells s)->bN e 37 (.an V b k8 37)=some (b,F):=λe C=>by
  simp only[bN,U.ae C];grind
 refine bd hm Bo a9a ?_;obtain⟨a63,l⟩:=DN (i:=37) (j0:=h) (a:=o) (O:=p) (b8:=a) (e:=c) (e2:= .i64) (b:= .i64) a8Z a8Z;have m: ¬(a:Int)=c:=a8Z;have n:cg 37 (.an h o p 37) none (some (.v (.int .i64 (a)))) none=some (.an h a p 37):=hL a8Z;have l0:(List.replicate 32 (R.v (.int .u8 0))++ [R.J [] .nil,.J [] .nil]++ [R.v (.int .i64 0),.v (.int .i64 0)]++ [R.J [] .nil]).length=37:=a9a;have t:(x.take (a*37)).length=a*37:=by rw[a4z];omega
 by_cases c1:(c:Int)=o
 .have n3:=eq_true c1;obtain rfl:c=o:=a8Z;have n4:x.drop (c*37)= []:=a5k a8Z;rw[n4,a5B];refine dB (aI @l @m @n3 @n) ?_;by_cases aH:a+b<c
  .refine uj E q (j r G) a8Z a8Z a8Z ?_;obtain⟨k,y⟩: ∃k,k=putAt z (a*37) F:=⟨_,rfl⟩;have f:k.length=z.length:=by rw[y,eH _ _ _ a8Z]
   rw[<-y];obtain⟨n5,cd,ca⟩:=uk (j0:=h) (i:=a+b) (e2:= .i64) a8Z X l0;obtain⟨g,k0,n9,l1⟩:=ca (r.set h (.cells k)) k (U.ah _ _ _) a8Z;have k1:((a+b:Nat))<(c:Int):=a8Z;refine dB (aI @k1 @cd @k0 @U.set_set) ?_;refine⟨_,U.a1,U.af C.1 T,.inr ⟨h,a+b,p,_,rfl,T,U.ah _ _ _,a8Z,?_,by rw[a4y,t];omega,a8Z,Y⟩⟩;grind[putAt,List.take_left',List.length_append,List.length_take]
  .refine fg (C.first a8Z) a8Z (j r G) S (by rw[t];omega) (by rw[t];omega) λa65 e l2=> ?_;obtain⟨a00,a01,a68,a02⟩:=l2.src;rw[a4y,t,S]at a01;obtain rfl:a00=a+b:=a8Z;have k1: ¬((a+b:Nat))<(c:Int):=a8Z;refine dB (c2 @a02 @k1) ?_;exact⟨_,U.a1,l2⟩
 have a69:c<o:=a8Z;obtain⟨a03,u,w,l3⟩:=oq (i:=37) (j0:=h) (e2:= .i64) a8Z X;have k2:(x.drop (c*37)).length=(o - c)*37:=by rw[a4N];omega
 obtain⟨d,a71⟩: ∃a04,a04=a+b+(o - c):=⟨_,rfl⟩;have a73:(a)+(b)+((o - c:Nat))=(d:Int):=a8Z;have A:(a)+(b)=((a+b:Nat):Int):=a8Z;have B:((a+b:Nat))+((o - c:Nat))=(d:Int):=a8Z;by_cases c2:(p)<(d:Int)
 .have l4:(d) -(a)=((d - a:Nat):Int):=a8Z;refine dB (cf @l @m @c1 @n @u @w @A @B @c2 @l4) ?_;refine wY E q a8Z a8Z a8Z λD L a05 H I a06 a07=> ?_;have a08:a+(d - a)=d:=a8Z;rw[a08]at I a07|-;have a09:D≠h:=by rintro rfl;rw[H]at E;cases E
  have a10:D≠V:=by rintro rfl;rw[H]at G;cases G
  obtain⟨P,a11⟩: ∃P,P=z.take (a*37)++(List.replicate (d - a) (List.replicate 32 (R.v (.int .u8 0))++ [R.J [] .nil,.J [] .nil]++ [R.v (.int .i64 0),.v (.int .i64 0)]++ [R.J [] .nil])).flatten++a05:=⟨_,rfl⟩;have a13:P.length=L*37:=by grind[List.length_append,kS,List.length_take]
  have K:P.take (a*37)=x.take (a*37):=by grind
  rw[<-a11];have M:cg 37 (.an D d L 37) (some (.v (.int .i64 (a)))) none none=some (.bA D (a*37) (d - a) (L - a) 37):=gk a8Z I a8Z;have N:cg 37 (.an D d L 37) (some (.v (.int .i64 ((a+b:Nat))))) none none=some (.bA D ((a+b)*37) (d -(a+b)) (L -(a+b)) 37):=gk a8Z I a8Z;have k3:(r.set D (.cells P)) V=some (.cells s):=by rw[U.ao _ _ (a4F a10)];exact G
  have i:=hn (O:=a*37) (j0:=L - a) (i:=d - a) (j _ k3) (U.ah r D (.cells P)) a8Z;rw[a4x a8Z]at i;obtain⟨k,y⟩: ∃k,k=putAt P (a*37) F:=⟨_,rfl⟩;have f:k.length=P.length:=by rw[y,eH _ _ _ a8Z]
  rw[<-y]at i;have a14:(r.set D (.cells k)) h=some (.cells z):=by rw[U.ao _ _ (a4F a09)];exact E
  have l5:=hn (O:=(a+b)*37) (j0:=L -(a+b)) (i:=d -(a+b)) (l3 _ z x a14 a8Z Q) (U.ah r D (.cells k)) a8Z;rw[a4x a8Z]at l5;refine dB (p2 @l @m @c1 @n @u @w @A @B @c2 @l4 @M @N @i @l5 @U.set_set) ?_;refine⟨_,U.a1,U.af C.1 (U.bF C.1 H),.inr ⟨D,d,L,_,rfl,U.bF C.1 H,U.ah _ _ _,?_,?_,?_,I,a06⟩⟩
  .rw[eH _ _ _ a8Z,f,a13]
  .have:=(pn K S k2 a8Z).2;rw[show d*37=a*37+b*37+(o - c)*37 by omega,y,show(a+b)*37=a*37+b*37 by omega];exact this
  grind
 have M:cg 37 (.an h o p 37) none (some (.v (.int .i64 (d)))) none=some (.an h d p 37):=hL a8Z;have N:cg 37 (.an h d p 37) (some (.v (.int .i64 (a)))) none none=some (.bA h (a*37) (d - a) (p - a) 37):=gk a8Z a8Z a8Z;have i:cg 37 (.an h d p 37) (some (.v (.int .i64 ((a+b:Nat))))) none none=some (.bA h ((a+b)*37) (d -(a+b)) (p -(a+b)) 37):=gk a8Z a8Z a8Z;have K:z.take (a*37)=x.take (a*37):=by grind
 by_cases aH:((a+b:Nat))<=(c:Int)
 .have cd:=hn (O:=a*37) (j0:=p - a) (i:=d - a) (j r G) E a8Z;rw[a4x a8Z]at cd;obtain⟨k,y⟩: ∃k,k=putAt z (a*37) F:=⟨_,rfl⟩;have f:k.length=z.length:=by rw[y,eH _ _ _ a8Z]
  have a74:(k.drop (c*37)).take ((o - c)*37)=x.drop (c*37):=by
   have a15:(z.take (a*37)++F).length=(a+b)*37:=by grind
   rw[y,putAt,show c*37=(a+b)*37+(c*37 -(a+b)*37) by omega,<-a5l,a7u a15,a5l,<-Q,a5P];congr 1
   .omega
   .congr 1;omega
  rw[<-y]at cd;have a81:cg 37 (.an h o p 37) (some (.v (.int .i64 (c)))) none none=some (.bA h (c*37) (o - c) (p - c) 37):=gk a8Z a8Z a8Z;have a16:bN (r.set h (.cells k)) 37 (.bA h (c*37) (o - c) (p - c) 37)=some (o - c,x.drop (c*37)):=by simp only[bN,U.ae (U.ah r h (.cells k))];grind
  have ca:=hn (O:=(a+b)*37) (j0:=p -(a+b)) (i:=d -(a+b)) a16 (U.ah r h (.cells k)) a8Z;rw[a4x a8Z,U.set_set]at ca;obtain⟨g,k4⟩: ∃g,g=putAt k ((a+b)*37) (x.drop (c*37)):=⟨_,rfl⟩;have a83:g.length=z.length:=by rw[k4,eH _ _ _ a8Z,f]
  rw[<-k4]at ca;obtain⟨n5,a18,a19⟩:=uk (j0:=h) (i:=d) (e2:= .i64) a8Z X l0;obtain⟨W,k0,n9,l1⟩:=a19 (r.set h (.cells g)) g (U.ah _ _ _) a8Z;have a27:a03= .bA h (c*37) (o - c) (p - c) 37:=by grind
  subst a27;refine dB (wU @l @m @c1 @n @u @w @A @B @c2 @aH @M @N @i @cd @ca @a18 @k0 @U.set_set) ?_;refine⟨_,U.a1,U.af C.1 T,.inr ⟨h,d,p,_,rfl,T,U.ah _ _ _,a8Z,?_,?_,a8Z,Y⟩⟩
  .rw[l1,k4,y,show d*37=a*37+b*37+(o - c)*37 by omega,show(a+b)*37=a*37+b*37 by omega];exact(pn K S k2 a8Z).2
  grind
 .have a29:z≠ []:=by rintro rfl;simp at q;omega
  have a30:s≠ []:=by rintro rfl;simp at n2;omega
  have a34:kQ (.bA h ((a+b)*37) (d -(a+b)) (p -(a+b)) 37) (.an V b k8 37) r=some (.v (.bool false)):=wX rfl rfl k9 (qo E a29) (qo G a30);have cd:=hn (O:=(a+b)*37) (j0:=p -(a+b)) (i:=d -(a+b)) (l3 r z x E a8Z Q) E a8Z;rw[a4x a8Z]at cd;obtain⟨k,y⟩: ∃k,k=putAt z ((a+b)*37) (x.drop (c*37)):=⟨_,rfl⟩;have f:k.length=z.length:=by rw[y,eH _ _ _ a8Z]
  rw[<-y]at cd;have k3:(r.set h (.cells k)) V=some (.cells s):=by rw[U.ao _ _ (a4F k9)];exact G
  have ca:=hn (O:=a*37) (j0:=p - a) (i:=d - a) (j _ k3) (U.ah r h (.cells k)) a8Z;rw[a4x a8Z,U.set_set]at ca;refine dB (mU @l @m @c1 @n @u @w @A @B @c2 @aH @M @N @i @a34 @cd @ca @U.set_set) ?_;refine⟨_,U.a1,U.af C.1 T,.inr ⟨h,d,p,_,rfl,T,U.ah _ _ _,?_,?_,?_,a8Z,Y⟩⟩
  .rw[eH _ _ _ a8Z,f,q]
  .rw[y,show d*37=a*37+b*37+(o - c)*37 by omega,show(a+b)*37=a*37+b*37 by omega];exact(pn K S k2 a8Z).1
  grind
theorem YD (L r:U) (k:List R) (P:R) (c a b:Nat) (S:Int) (n:S=(b:Int)) (D:au L r 37 k P) (T:k.length=c*37) (k3:a<b) (k4:b<=c) (k5:c<=100000):
  AC Tryz.prog 242 [P,.v (.int .i64 (a:Int)),.v (.int .i64 S),.J [] .nil] r λq z=>au L z 37 (k.take (a*37)++k.drop (b*37)) q:=by
 subst n;obtain⟨d,s,h,p,rfl,C,x,V,t,k6,E,e⟩:=D.an (λu=>by rw[u]at T;simp at T;omega);obtain rfl:c=s:=a8Z;have f: ∀z:U,bN z 37 (.J [] .nil)=some (0,[]):=λz=>rfl;refine bd hm Bo a9a ?_;obtain⟨k7,g⟩:=DN (i:=37) (j0:=d) (a:=c) (O:=h) (b8:=a) (e:=b) (e2:= .i64) (b:= .i64) a8Z a8Z;have i: ¬(a:Int)=b:=a8Z;have j:cg 37 (.an d c h 37) none (some (.v (.int .i64 (a)))) none=some (.an d a h 37):=hL a8Z;have l:(List.replicate 32 (R.v (.int .u8 0))++ [R.J [] .nil,.J [] .nil]++ [R.v (.int .i64 0),.v (.int .i64 0)]++ [R.J [] .nil]).length=37:=a9a;have v:(k.take (a*37)).length=a*37:=by rw[a4z];omega
 by_cases c1:(b:Int)=c
 .have w:=eq_true c1;obtain rfl:b=c:=a8Z;have A:k.drop (b*37)= []:=a5k a8Z;rw[A,a5B];refine dB (aI @g @i @w @j) ?_;refine uj x V (f r) a8Z a8Z a8Z ?_;have F:putAt p (a*37) []=p:=by simp[putAt]
  rw[F,U.sA x];obtain⟨B,cd,ca⟩:=uk (j0:=d) (i:=a) (e2:= .i64) a8Z E l;obtain⟨y,G,H,I⟩:=ca r p x V;have K:(a)<(b:Int):=a8Z;refine dB (aI @a6w @K @cd @G) ?_;refine⟨_,U.a1,U.af D.1 C,.inr ⟨d,a,h,_,rfl,C,U.ah _ _ _,a8Z,?_,v,a8Z,e⟩⟩;grind
 have k8:b<c:=a8Z;obtain⟨M,N,O,Q⟩:=oq (i:=37) (j0:=d) (e2:= .i64) a8Z E;have k9:(k.drop (b*37)).length=(c - b)*37:=by rw[a4N];omega
 obtain⟨o,l0⟩: ∃X,X=a+(c - b):=⟨_,rfl⟩;have Y:(a)+((c - b:Nat))=(o:Int):=a8Z;have c2: ¬(h)<(o:Int):=a8Z;have Z:cg 37 (.an d c h 37) none (some (.v (.int .i64 (o)))) none=some (.an d o h 37):=hL a8Z;have j9:cg 37 (.an d o h 37) (some (.v (.int .i64 (a)))) none none=some (.bA d (a*37) (o - a) (h - a) 37):=gk a8Z a8Z a8Z;have l1:p.take (a*37)=k.take (a*37):=by grind
 have aH:(a)<=(b:Int):=a8Z;have F:putAt p (a*37) ([])=p:=by simp[putAt]
 have cd:=hn (O:=a*37) (j0:=h - a) (i:=o - a) (f r) x a8Z;rw[a8L,F,U.sA x]at cd;have l2:cg 37 (.an d c h 37) (some (.v (.int .i64 (b)))) none none=some (.bA d (b*37) (c - b) (h - b) 37):=gk a8Z a8Z a8Z;have k0:M= .bA d (b*37) (c - b) (h - b) 37:=by simp_all
 subst k0;have ca:=hn (O:=a*37) (j0:=h - a) (i:=o - a) (Q r p k x a8Z t) x a8Z;rw[a4x a8Z]at ca;obtain⟨y,m⟩: ∃y,y=putAt p (a*37) (k.drop (b*37)):=⟨_,rfl⟩;have l3:y.length=p.length:=by rw[m,eH _ _ _ a8Z]
 rw[<-m]at ca;obtain⟨B,k1,k2⟩:=uk (j0:=d) (i:=o) (e2:= .i64) a8Z E l;obtain⟨W,G,H,I⟩:=k2 (r.set d (.cells y)) y (U.ah _ _ _) a8Z;have l4:(([]:List R).length:Int)=0:=rfl;refine dB (mU @g @i @c1 @j @N @O @Int.add_zero @Y @c2 @aH @Z @j9 @cd @ca @k1 @G @U.set_set) ?_;refine⟨_,U.a1,U.af D.1 C,.inr ⟨d,o,h,_,rfl,C,U.ah _ _ _,a8Z,?_,?_,a8Z,e⟩⟩;grind[putAt,List.take_left',List.length_append];grind
end Go.Proofs.YtlgnfcaolejgeaaGreat
namespace Go.bx
open Go
structure jO (c:U) (k:Nat) (a:R) (n:Nat) (us:List R):Prop where
 src: ∀b,c.sub b->bN b k a=some (n,us)
 len:fb a=some (.v (.int .i64 (n:Int)))
 one:a.cells= [a]
 full:us.length=n*k
variable{f t e4:U}{g A e0:List R}{e i v O b8 j0:Nat}
def jO.mono {a:R} (b:jO f e a i g) (c:f.sub t):jO t e a i g:=⟨λd h=>b.src d (U.ar c h),b.len,b.one,b.full⟩
theorem jO.J {s:U}{b:Nat}{a:List R}{o:Own} (c:aS b a):jO s b (.J a o) a.length (flat a):=⟨λk _=>by
 have:=a4O.2 λd h=>decide_eq_true (c d h);simp only[bN,this,if_true],rfl,rfl,db c⟩
variable{n b3:R}
theorem au.aj (b:au t f e g n) (k:0<e): ∃a,g.length=a*e/\jO f e n a g:=by
 obtain⟨a,c,_,d⟩:=b.src;refine⟨a,c,λo h=> ?_,d,?_,c⟩
 .obtain⟨p,r,x,_⟩:=(au.mono b h).src;grind
 .rcases b.2 with ⟨_,rfl|rfl⟩|⟨y,a,z,C,rfl,_⟩<;>rfl
variable{s a7:R -> U -> Prop}{b5:FuncId}{m:Program}
theorem AC.nm (h:View f n t b3) (k:AC m b5 (g++b3::A) t s):AC m b5 (g++n::A) f s:=by
 refine k.pre λC o p a r=> ?_;have x:=a.2 g.length n a9a;obtain⟨y,b,D⟩:=h p o _ r x;refine⟨y,?_,b⟩;have c:=a.mono b.le;refine⟨by rw[c.1];simp,λd z E=> ?_⟩;by_cases F:d=g.length;simp_all
 .refine c.2 d z ?_;grind
end Go.bx
namespace Go.Proofs.YtlgnfcaolejgeaaGreat
open Go Go.bx
theorem YE (a:Nat) (C:a<=100000000) (d:U):
  AC Tryz.prog 354 [.J [] .nil,.v (.int .i64 (a:Int))] d λr x=>au d x 1 [] r:=by
 refine bd hm Su a9a ?_;have h: ¬(a:Int)<0:=a8Z;have k:(a:Int) -(0 - 0)=a:=a8Z;have o:cg 1 (.J [] .nil) none (some (.v (.int .i64 0))) none=some (.J [] .nil):=wV;by_cases c1:(0:Int)<a
 .refine dB (bm @h @k @c1 @o @a8n) ?_;refine Ch a8Z a8Z a8Z λb c D p E y F=> ?_;have z:cg 1 (.an b a c 1) none (some (.v (.int .i64 0))) none=some (.an b 0 c 1):=hL (v:=0) a8Z;refine dB @z ?_;refine⟨_,U.a1,U.af U.a1 p,.inr ⟨b,0,c,_,rfl,p,U.ah _ _ _,?_,a9a,a9a,a8Z,y⟩⟩;simp_all
 .refine dB (bm @h @k @c1 @o @a8n) ?_;exact⟨_,U.a1,au.nil U.a1⟩
def YF (d:U) (h k:R) (D:Own) (o r:Nat) (V i:List R) (z:jO d 1 h o V) (C:jO d 1 k r i) (k2:o<=100000) (k3:r<=100000):
  AC Tryz.prog 342 [.J [h,k] D] d λB b=>au d b 1 (V++i) B:=by
 refine bd hm Sh a9a ?_;have H:=z.len;have I:=C.len;have u:bR d 1 (.J [h,k] D) [h,k]:=bR.J λk4 v=>by
  simp only[a4T,a5W,or_false]at v;rcases v with rfl|rfl
  .rw[z.one];rfl
  .rw[C.one];rfl
 have W:(([h,k].length):Int)=2:=rfl;obtain⟨K,e,M⟩:=u.get 0 h rfl;obtain⟨N,f,O⟩:=u.get 1 k rfl;have w: ∀b,d.sub b->dn false 1 b K=some h:=λb j=>by rw[M.ld b j false 1 a8Z (by rw[z.one];simp),z.one];rfl
 have A: ∀b,d.sub b->dn false 1 b N=some k:=λb j=>by rw[O.ld b j false 1 a8Z (by rw[C.one];simp),C.one];rfl
 have Q:((0:Nat):Int)=0:=rfl;have X:((1:Nat):Int)=1:=rfl;rw[Q]at e;rw[X]at f;have Y:=w d U.a1;have Z:=A d U.a1;have bm: ¬(o:Int)<0:=a8Z;have bs: ¬(o)+(r:Int)<0:=a8Z;refine dB @W ?_;refine cr (λa b=>b=d/\a 0= .J [h,k] D/\a 9= .J [h,k] D/\a 10= .v (.int .i64 2)/\((a 11= .v (.int .i64 0)/\a 3= .v (.int .i64 0))\/(a 11= .v (.int .i64 1)/\a 3= .v (.int .i64 o))\/(a 11= .v (.int .i64 2)/\a 3= .v (.int .i64 ((o)+(r))))))
  (λa _=>match a 11 with| .v (.int _ l)=>2 - l.toNat| _=>0) ⟨rfl,?_⟩ ?_
 .refine dB @W ?_;simp
 rintro a m ⟨rfl,E,F,G,n⟩;rcases n with ⟨x,p⟩|⟨x,p⟩|⟨x,p⟩
 .refine dB (cf @E @F @G @x @p @e @Y @H @bm @a8j) ?_;simp
 .refine dB (cV @E @F @G @x @p @f @Z @I @bs) ?_;simp
 .have j9:(o)+(r)=((o+r:Nat):Int):=a8Z;rw[j9]at p;simp -dsimp -implicitDefEqProofs (disch:=first|omega|assumption|(simp only[bk,Nat.reduceAdd];try omega)) only[go_sem,simprocAttr,-List.reduceReplicate,↓eI,E,F,G,x,p];refine ai (YE (o+r) a8Z _) ?_;intro k5 k6 k0;simp -dsimp -implicitDefEqProofs (disch:=first|omega|assumption|(simp only[bk,Nat.reduceAdd];try omega)) only[go_sem,simprocAttr,-List.reduceReplicate,↓eI,E,F,G,x,p,W];refine cr (λa b=>a 25= .J [h,k] D/\a 26= .v (.int .i64 2)/\((a 27= .v (.int .i64 0)/\au m b 1 [] (a 6))\/(a 27= .v (.int .i64 1)/\au m b 1 V (a 6))\/(a 27= .v (.int .i64 2)/\au m b 1 (V++i) (a 6))))
   (λa _=>match a 27 with| .v (.int _ l)=>2 - l.toNat| _=>0) ?_ ?_
  .simp -dsimp -implicitDefEqProofs (disch:=first|omega|assumption|(simp only[bk,Nat.reduceAdd];try omega)) only[go_sem,simprocAttr,-List.reduceReplicate,↓eI,E,F,G,x,p,W];exact .inl k0
  rintro a g ⟨L,P,n⟩;have S:=z.full;have q:=C.full;rcases n with ⟨y,c⟩|⟨y,c⟩|⟨y,c⟩
  .have T:=w g c.1;generalize s:a 6=ei at c;simp -dsimp -implicitDefEqProofs (disch:=first|omega|assumption|(simp only[bk,Nat.reduceAdd];try omega)) only[go_sem,simprocAttr,-List.reduceReplicate,↓eI,L,P,y,e,T,s];refine fg c a8Z (z.src g c.1) S (by rw[a4G,S];omega) (by rw[a4G,S];omega) λk1 b t=> ?_;simp -dsimp -implicitDefEqProofs (disch:=first|omega|assumption|(simp only[bk,Nat.reduceAdd];try omega)) only[go_sem,simprocAttr,-List.reduceReplicate,↓eI,L,P,y,e,T];exact .inr (.inl t)
  .have T:=A g c.1;generalize s:a 6=ei at c;simp -dsimp -implicitDefEqProofs (disch:=first|omega|assumption|(simp only[bk,Nat.reduceAdd];try omega)) only[go_sem,simprocAttr,-List.reduceReplicate,↓eI,L,P,y,f,T,s];refine fg c a8Z (C.src g c.1) q (by rw[S,q];omega) (by rw[S,q];omega) λk1 b t=> ?_;simp -dsimp -implicitDefEqProofs (disch:=first|omega|assumption|(simp only[bk,Nat.reduceAdd];try omega)) only[go_sem,simprocAttr,-List.reduceReplicate,↓eI,L,P,y,f,T];exact .inr (.inr t)
  .refine dB (aH @L @P @y) ?_;exact⟨_,U.a1,c⟩
def YG (a:Nat) (D:a<=100000000) (d:U):
  AC Tryz.prog 355 [.J [] .nil,.v (.int .i64 (a:Int))] d λr x=>au d x 37 [] r:=by
 refine bd hm Sw a9a ?_;have h: ¬(a:Int)<0:=a8Z;have k:(a:Int) -(0 - 0)=a:=a8Z;have o:cg 37 (.J [] .nil) none (some (.v (.int .i64 0))) none=some (.J [] .nil):=wV;by_cases c1:(0:Int)<a
 .refine dB (bm @h @k @c1 @o @a8n) ?_;refine Ch a8Z a8Z a8Z λb c E p F y z=> ?_;have C:cg 37 (.an b a c 37) none (some (.v (.int .i64 0))) none=some (.an b 0 c 37):=hL (v:=0) a8Z;refine dB @C ?_;refine⟨_,U.a1,U.af U.a1 p,.inr ⟨b,0,c,_,rfl,p,U.ah _ _ _,?_,a9a,a9a,a8Z,y⟩⟩;rw[a4y,kS,z];simp;omega
 .refine dB (bm @h @k @c1 @o @a8n) ?_;exact⟨_,U.a1,au.nil U.a1⟩
def YH (d:U) (h k:R) (D:Own) (o r:Nat) (V i:List R) (z:jO d 37 h o V) (C:jO d 37 k r i) (k2:o<=100000) (k3:r<=100000):
  AC Tryz.prog 343 [.J [h,k] D] d λB b=>au d b 37 (V++i) B:=by
 refine bd hm Sj a9a ?_;have H:=z.len;have I:=C.len;have u:bR d 1 (.J [h,k] D) [h,k]:=bR.J λk4 v=>by
  simp only[a4T,a5W,or_false]at v;rcases v with rfl|rfl
  .rw[z.one];rfl
  .rw[C.one];rfl
 have W:(([h,k].length):Int)=2:=rfl;obtain⟨K,e,M⟩:=u.get 0 h rfl;obtain⟨N,f,O⟩:=u.get 1 k rfl;have w: ∀b,d.sub b->dn false 1 b K=some h:=λb j=>by rw[M.ld b j false 1 a8Z (by rw[z.one];simp),z.one];rfl
 have A: ∀b,d.sub b->dn false 1 b N=some k:=λb j=>by rw[O.ld b j false 1 a8Z (by rw[C.one];simp),C.one];rfl
 have Q:((0:Nat):Int)=0:=rfl;have X:((1:Nat):Int)=1:=rfl;rw[Q]at e;rw[X]at f;have Y:=w d U.a1;have Z:=A d U.a1;have bm: ¬(o:Int)<0:=a8Z;have bs: ¬(o)+(r:Int)<0:=a8Z;refine dB @W ?_;refine cr (λa b=>b=d/\a 0= .J [h,k] D/\a 9= .J [h,k] D/\a 10= .v (.int .i64 2)/\((a 11= .v (.int .i64 0)/\a 3= .v (.int .i64 0))\/(a 11= .v (.int .i64 1)/\a 3= .v (.int .i64 o))\/(a 11= .v (.int .i64 2)/\a 3= .v (.int .i64 ((o)+(r))))))
  (λa _=>match a 11 with| .v (.int _ l)=>2 - l.toNat| _=>0) ⟨rfl,?_⟩ ?_
 .refine dB @W ?_;simp
 rintro a m ⟨rfl,E,F,G,n⟩;rcases n with ⟨x,p⟩|⟨x,p⟩|⟨x,p⟩
 .refine dB (cf @E @F @G @x @p @e @Y @H @bm @a8j) ?_;simp
 .refine dB (cV @E @F @G @x @p @f @Z @I @bs) ?_;simp
 .have j9:(o)+(r)=((o+r:Nat):Int):=a8Z;rw[j9]at p;simp -dsimp -implicitDefEqProofs (disch:=first|omega|assumption|(simp only[bk,Nat.reduceAdd];try omega)) only[go_sem,simprocAttr,-List.reduceReplicate,↓eI,E,F,G,x,p];refine ai (YG (o+r) a8Z _) ?_;intro k5 k6 k0;simp -dsimp -implicitDefEqProofs (disch:=first|omega|assumption|(simp only[bk,Nat.reduceAdd];try omega)) only[go_sem,simprocAttr,-List.reduceReplicate,↓eI,E,F,G,x,p,W];refine cr (λa b=>a 25= .J [h,k] D/\a 26= .v (.int .i64 2)/\((a 27= .v (.int .i64 0)/\au m b 37 [] (a 6))\/(a 27= .v (.int .i64 1)/\au m b 37 V (a 6))\/(a 27= .v (.int .i64 2)/\au m b 37 (V++i) (a 6))))
   (λa _=>match a 27 with| .v (.int _ l)=>2 - l.toNat| _=>0) ?_ ?_
  .simp -dsimp -implicitDefEqProofs (disch:=first|omega|assumption|(simp only[bk,Nat.reduceAdd];try omega)) only[go_sem,simprocAttr,-List.reduceReplicate,↓eI,E,F,G,x,p,W];exact .inl k0
  rintro a g ⟨L,P,n⟩;have S:=z.full;have q:=C.full;rcases n with ⟨y,c⟩|⟨y,c⟩|⟨y,c⟩
  .have T:=w g c.1;generalize s:a 6=ei at c;simp -dsimp -implicitDefEqProofs (disch:=first|omega|assumption|(simp only[bk,Nat.reduceAdd];try omega)) only[go_sem,simprocAttr,-List.reduceReplicate,↓eI,L,P,y,e,T,s];refine fg c a8Z (z.src g c.1) S (by rw[a4G,S];omega) (by rw[a4G,S];omega) λk1 b t=> ?_;simp -dsimp -implicitDefEqProofs (disch:=first|omega|assumption|(simp only[bk,Nat.reduceAdd];try omega)) only[go_sem,simprocAttr,-List.reduceReplicate,↓eI,L,P,y,e,T];exact .inr (.inl t)
  .have T:=A g c.1;generalize s:a 6=ei at c;simp -dsimp -implicitDefEqProofs (disch:=first|omega|assumption|(simp only[bk,Nat.reduceAdd];try omega)) only[go_sem,simprocAttr,-List.reduceReplicate,↓eI,L,P,y,f,T,s];refine fg c a8Z (C.src g c.1) q (by rw[S,q];omega) (by rw[S,q];omega) λk1 b t=> ?_;simp -dsimp -implicitDefEqProofs (disch:=first|omega|assumption|(simp only[bk,Nat.reduceAdd];try omega)) only[go_sem,simprocAttr,-List.reduceReplicate,↓eI,L,P,y,f,T];exact .inr (.inr t)
  .refine dB (aH @L @P @y) ?_;exact⟨_,U.a1,c⟩
def fL (k a:U) (b c:Nat) (d:Except Int (List ay)×ag) (o:R):Prop:=
 match d.1 with
 | .error p=>bB a b c d.2/\Ext b c k a/\p≠0/\o= .aK [.J [] .nil,.v (.int .i64 p)]
 | .ok bI=> ∃r h,az bu bI r/\o= .aK [h,.v (.int .i64 0)]/\dq k a b c d.2 37 (flat r) h/\(bI= []->h= .J [] .nil)
theorem fL.base {d h k:U}{b c:Nat}{o:Except Int (List ay)×ag}{p:R} (a:fL h k b c o p) (r:Ext b c d h):fL d k b c o p:=by
 unfold fL at a|-;split at a
 .exact⟨a.1,r.trans a.2.1,a.2.2⟩
 grind[dq.base]
variable{n b3:R}{f t e4:U}{e i v O b8 j0:Nat}
theorem fL.shape {a:Except Int (List ay)×ag} (d:fL f t e i a n): ∃b c,n= .aK [b,.v (.int .i64 c)]:=by grind[fL]
def YI (b:U) (d k:Nat) (h:ag) (E:bB b d k h) (a:List (List Int)) (o:List R) (p:Own) (c:Nat) (F:1<=c) (G:c<=8) (r:az isRow a o) (L:a.length<=100000):
  AC Tryz.prog 238 [.J o p,.bG 155 [dU d c] []] b λx P=>fL b P d k (oo h c a) x:=by
 refine bd hm Q8 a9a ?_;have S:=r.len;refine aj @S ?_;refine ai (xB a.length a8Z b) ?_;rintro _ b ⟨rfl,rfl⟩;refine bT ?_;have y:a6.bU a.length<=100000:=by unfold a6.bU;omega
 refine ai (Yx a o p (a6.bU a.length) b r L y) ?_;rintro _ T ⟨z,gs,V,rfl,W⟩;refine bT ?_;have C:=nk (g:=a6.bU a.length) (l:=a);refine ai (Yy T d k h (E.mono z) _ gs V c F G W (λe f=>by have:=C.2 e f;omega) (by rw[C.1];exact y)) ?_;intro x i g;have D:=fL.base (o:=oo h c a) g (Ext.of z);obtain⟨j,l,rfl⟩:=D.shape;refine bT ?_;exact⟨_,U.a1,D⟩
def DQ (d p:U) (b h:Nat) (k:ag) (D:bB d b h k) (c:List (List Int)) (o:List R) (r:R) (E:au d p 1 (flat o) r) (a:Nat) (F:1<=a) (G:a<=8) (x:az isRow c o) (L:c.length<=100000):
  AC Tryz.prog 238 [r,.bG 155 [dU b a] []] p λy z=>fL d z b h (oo k a c) y:=by
 obtain⟨P,S,C⟩:=au.DH E x;refine AC.nm (g:= []) S ?_;exact(YI P b h k (D.mono C) c o .any a F G x L).mono λy z T=>fL.base T (Ext.of C)
def YJ (b:U) (d k:Nat) (h:ag) (E:bB b d k h) (a:List (ay)) (o:List R) (p:Own) (c:Nat) (F:1<=c) (G:c<=8) (r:az bu a o) (L:a.length<=100000):
  AC Tryz.prog 241 [.J o p,.bG 243 [dU d c] []] b λx P=>fL b P d k (jN h c a) x:=by
 refine bd hm Qe a9a ?_;have S:=r.len;refine aj @S ?_;refine ai (xB a.length a8Z b) ?_;rintro _ b ⟨rfl,rfl⟩;refine bT ?_;have y:a6.bU a.length<=100000:=by unfold a6.bU;omega
 refine ai (DL a o p (a6.bU a.length) b r L y) ?_;rintro _ T ⟨z,gs,V,rfl,W⟩;refine bT ?_;have C:=nk (g:=a6.bU a.length) (l:=a);refine ai (DM T d k h (E.mono z) _ gs V c F G W (λe f=>by have:=C.2 e f;omega) (by rw[C.1];exact y)) ?_;intro x i g;have D:=fL.base (o:=jN h c a) g (Ext.of z);obtain⟨j,l,rfl⟩:=D.shape;refine bT ?_;exact⟨_,U.a1,D⟩
def DR (d p:U) (b h:Nat) (k:ag) (D:bB d b h k) (c:List (ay)) (o:List R) (r:R) (E:au d p 37 (flat o) r) (a:Nat) (F:1<=a) (G:a<=8) (x:az bu c o) (L:c.length<=100000):
  AC Tryz.prog 241 [r,.bG 243 [dU b a] []] p λy z=>fL d z b h (jN k a c) y:=by
 obtain⟨P,S,C⟩:=au.ui E x;refine AC.nm (g:= []) S ?_;exact(YJ P b h k (D.mono C) c o .any a F G x L).mono λy z T=>fL.base T (Ext.of C)
def DS: ∀(a:List ay) (b:gL),(a.foldl ep b).size=b.size+(a.map (·.size)).sum
 | [],b=>by simp
 |c::a,b=>by rw[a5C,DS a];simp[ep];omega
def xJ: ∀(b:List (List Int×Bool)) (a:gL),(b.foldl dK a).size=a.size
 | [],a=>rfl
 |c::b,a=>by rw[a5C,xJ b];unfold dK;split<;>rfl
def xK (a:c3):(eC a).size=a.rows.length+(a.kids.map (·.size)).sum:=by unfold eC;rw[DS,xJ]
structure po (d:Nat) (k:ay) (n:c3):Prop where
 ok:dS d n=true
 eq:k=eS n
 size:k.size=n.rows.length+(n.kids.map (·.size)).sum
 o4:k.size<=1048576
variable{w j2:ay}{b9:c3}
def um (a:fH e b9=some w):po e w b9:=by
 unfold fH at a;split at a
 .rename_i b;split at a
  .cases a
  .rename_i c;obtain rfl:=a4v a;exact⟨b,rfl,xK b9,by show(eC b9).size<= _;omega⟩
 .cases a
variable{H:ag}
def sB (a:iC H e w=some b9):po e w b9/\(b9.kind=2\/b9.kind=3):=by
 unfold iC at a;split at a
 .cases a
 .rename_i d hm;split at a
  .rename_i b;obtain rfl:=a4v a;refine⟨?_,b⟩;unfold fk at hm;split at hm
   .cases hm
   .split at hm
    .cases hm
    .split at hm
     .rename_i c;obtain rfl:=a4v hm;exact um c
     .cases hm
  .cases a
theorem po.leaf (b:po e w b9) (c:b9.kind=2):1<=b9.rows.length/\b9.rows.length<=4/\b9.kids= []/\(∀a∈b9.rows,a.1.length=e/\a.2=true):=by have:=b.ok;simp_all [dS]
theorem po.inner (k:po e w b9) (h:b9.kind=3):b9.rows= []/\2<=b9.kids.length/\b9.kids.length<=4/\(∀a∈b9.kids,a.key.length=e/\a≠aA/\fw e a=true/\1<=a.size/\a.size<w.size):=by
 have d:=k.ok;unfold dS at d;have x: ¬b9.kind=1:=by rw[h];decide
 have y: ¬b9.kind=2:=by rw[h];decide
 rw[if_neg x,if_neg y,if_pos h]at d;simp only[a4A,a4O,decide_eq_true_eq,a6d,decide_eq_false_iff_not]at d;obtain⟨⟨_,z⟩,⟨⟨C,D⟩,E⟩,o⟩:=d;have p:=a4B C;have F: ∀a∈b9.kids,1<=a.size:=λa b=>by
  simp_all [fw]
 refine⟨p,D,E,λa b=>⟨(o a b).1,(o a b).2,z a b,F a b,?_⟩⟩;have r:=k.size;rw[p]at r;simp only[a4G]at r;have G: ∀(c:List ay),(∀a∈c,1<=a.size)->(c.length:Int)<=(c.map (·.size)).sum:=by
  intro c
  induction c with
  |nil=>intro _;simp
  |cons L c ih=>grind
 obtain⟨P,S,T⟩:=a7a b;grind
def gr (d:Nat) (b:List Int):Nat->ag->ay->Except Int (List ay)×ag
  |0,c,_=>(.error 21,c)
  |k+1,c,o=>match iC c d o with
    |none=>(.error 21,c)
    |some a=>
      if a.kind=2 then
        (if kx (a.rows.map Prod.fst) b=true then(.error 8,c)
         else oo c d ((a.rows.map Prod.fst).take (eW (a.rows.map Prod.fst) b)++b::(a.rows.map Prod.fst).drop (eW (a.rows.map Prod.fst) b)))
      else match a.kids[hx b a]? with
        |none=>(.error 21,c)
        |some p=>match gr d b k c p with
          |(.error r,h)=>(.error r,h)
          |(.ok x,h)=>jN h d (a.kids.take (hx b a)++(x++a.kids.drop (hx b a+1)))
theorem xL (b:List Int): ∀(a:List (List Int)),a≠ []->a6.cS bC b a<a.length
 | [],c=>absurd rfl c
 | [_],_=>by simp[a6.cS]
 | _::d::h,_=>by
  have:=xL b (d::h) a9a;grind[a6.cS,List.length_cons]
theorem xM (p:Nat) (r:List Int): ∀(d:Nat) (c h:ag) (k:ay) (b:List ay),gr p r d c k=(.ok b,h)->1<=b.length/\b.length<=3
 |0,c,h,k,b,a=>by rw[gr]at a;simp_all
 |d+1,c,h,k,b,a=>by
  rw[gr]at a;split at a
  .simp_all
  rename_i P y;obtain⟨x,z⟩:=sB y;split at a
  .rename_i o;obtain⟨C,D,_⟩:=x.leaf o;split at a
   .simp_all
   .have:=qG a;rw[this];simp only[a4G,a4W,a6.chunks,(nk).1,a6.bU,a4y,a4C,a4z,a4N,a4I];omega
  .rename_i o;obtain⟨_,C,D,_⟩:=x.inner (z.resolve_left o);split at a
   .simp_all
   .rename_i E S;split at a
    .simp_all
    .rename_i F G L;have ih:=xM p r d c G E F L;have:=qG a;rw[this];simp only[a4G,a4W,a6.chunks,(nk).1,a6.bU,a4y,a4z,a4N];omega
theorem YK (D m:Nat) (p:List Int) (E:Own) (x:Nat) (n0:1<=x) (n1:x<=8): ∀(S:Nat) (T:U) (F:ag) (z:ay) (n q s:Own),bB T D m F->z.sum.length=32->z.cz->0<S->z.size<S->
  AC Tryz.prog 156 [dU D x,.agg (ab z n q s),.J (ad p) E] T λZ a99=>fL T a99 D m (gr x p S F z) Z:=by
 intro S
 induction S with
 |zero=>intro T F z n q s f n2 a18 b59 b00;omega
 |succ S ih=>
 intro T F z n q s f n2 a18 b60 b00;refine bd hm NL a9a ?_;have h: ∀a19,(R.agg a19).cells=a19:=λ_=>rfl;have B: ∀d b c C y a27:R,putAt [d,b,c] 0 [C,y,a27]= [C,y,a27]:=λ_ _ _ _ _ _=>rfl;have G: ∀d b c,aX true 3 [d,b,c]= .agg [d,b,c]:=λ_ _ _=>rfl;have g: ∀d b,aX true 2 [d,b]= .agg [d,b]:=λ_ _=>rfl;have i: ∀d b:R,List.take 2 [d,b]= [d,b]:=λ_ _=>rfl;have V: ∀d b c:R,List.take 3 [d,b,c]= [d,b,c]:=λ_ _ _=>rfl;have H: ∀d b c:R,[d,b,c].length=3:=λ_ _ _=>rfl;have b01: ∀d b c:R,aX false 1 [d,b,c]=d:=λ_ _ _=>rfl;have a29: ∀d b c:R,aX false 1 ([d,b,c].drop 2)=c:=λ_ _ _=>rfl;have a30:=aW (M:=n) (e6:=q) (h4:=s) n2;have a34:=a30.len;refine aj @h ?_;refine aM λdf a36=> ?_;refine aj (c2 @h @a34) ?_;refine aM λek k7=> ?_;have n3:df≠ek:=by rintro rfl;rw[U.ah]at k7;cases k7
 have b02:T ek=none:=by rw[U.ao _ _ (a4F n3)]at k7;exact k7
 obtain⟨I,k8⟩: ∃I:U,I=(T.set df (.cells [.ptr D 0,.v (.int .i64 (x))])).set ek (.cells (ab z n q s)):=⟨_,rfl⟩;have j9:T.sub I:=by rw[k8];exact U.af (U.af U.a1 a36) b02
 have aI:I ek=some (.cells (ab z n q s)):=by rw[k8,U.ah]
 have aH:I df=some (.cells [.ptr D 0,.v (.int .i64 (x))]):=by rw[k8,U.ao _ _ n3,U.ah]
 refine aj (bt @h @a34 @U.ao @n3 @U.ah a30.t37 @i @g) ?_;rw[<-k8];refine ai (xF I D m F (f.mono j9) z n q s n2 a18 x n0 n1) ?_;rintro Z n4 ⟨k9,l0⟩;obtain⟨a38,k⟩: ∃a38,a38=gr x p (S+1) F z:=⟨_,rfl⟩;rw[<-k];rw[gr]at k;cases n5:iC F x z with
 |none=>rw[n5]at l0 k;obtain rfl:=l0;simp only at k;subst k;simp -dsimp -implicitDefEqProofs (disch:=first|omega|assumption|(simp only[bk,Nat.reduceAdd];try omega)) only[go_sem,simprocAttr,-List.reduceReplicate,h,B,H];refine aM λK M=> ?_;refine aj (bm @h @B @H @G @U.set_set) ?_;have a42:=U.ar (U.ar j9 k9) (U.af (Y:= .cells [.v (.int .u8 0),.J [] .nil,.J [] .nil]) U.a1 M);exact⟨_,U.a1,f.mono a42,Ext.of a42,a9d,rfl⟩
 |some a=>
  rw[n5]at l0 k;simp only at k;obtain⟨C,y,rfl,b03⟩:=l0;obtain⟨a43,b04⟩:=sB n5;simp -dsimp -implicitDefEqProofs (disch:=first|omega|assumption|(simp only[bk,Nat.reduceAdd];try omega)) only[go_sem,simprocAttr,-List.reduceReplicate,h,B,H];refine aM λK M=> ?_;obtain⟨L,l1⟩: ∃L:U,L=n4.set K (.cells [.v (.int .u8 (a.kind.toNat)),C,y]):=⟨_,rfl⟩;have n9:n4.sub L:=by rw[l1];exact U.af U.a1 M
  have bt:L K=some (.cells [.v (.int .u8 (a.kind.toNat)),C,y]):=by rw[l1,U.ah]
  have a47:=iA a.kind 2 a8Z;simp only[a7y]at a47;rw[show UInt8.ofNat 2=2 from rfl]at a47;refine aj (c6 @h @B @H @G @U.set_set @U.ah @b01) ?_;rw[U.set_set,<-l1];obtain⟨b05,l2,P,a00,l3,a48,j,b06,b07⟩:=b03;have b08:fX n4 a C y l2 P:=⟨a48,j,(bR.dR a00 a8Z rfl (a48.cells λ_ _=>de.cells)).mono l3.1,bR.dR l3 a8Z rfl (j.cells λ_ _=>bu.cells),b06,b07⟩;have k0:=b08.mono n9;have a52:=(f.mono (U.ar j9 k9)).cC M;have a56:=f.cC a36;have l4:=U.ar j9 (U.ar k9 n9);have a57:=n9 _ _ (k9 _ _ aH);have a61:=f.mono l4;by_cases N:a.kind=2
  .rw[if_pos N]at k;have a01:((a.kind.toNat:Int)=2)=True:=by rw[N];simp
   refine aj (c6 @h @B @H @G (U.ae bt) @a01 @V) ?_;refine ai (xE a l2 P C y L k0) ?_;rintro d t ⟨b09,a62,u⟩;have b10:=bR.dR u a8Z rfl (a62.cells λ_ _=>isRow.cells);refine aj @h ?_;have b61:(a.rows.map Prod.fst).length=a.rows.length:=a4I _;obtain⟨b11,b12,_,_⟩:=a43.leaf N;generalize b13:a.rows.map Prod.fst=k1 at*;refine ai (DF k1 b09 d p E t a62 b10 a8Z) ?_;rintro _ t ⟨rfl,b62,rfl⟩;have b14:=u.1 _ _ bt;have a02:=u.1 _ _ a57;generalize eW k1 p=o at*;cases a63:kx k1 p with
   |true=>rw[if_pos a63]at k;subst k;refine aj @h ?_;exact⟨_,U.a1,a61.mono u.1,Ext.of (U.ar l4 u.1),a9d,rfl⟩
   |false=>
    rw[if_neg (by simp[a63])]at k;have b15:nW 1 U.emp [R.J (ad p) E] (bO (λ_ _=>True) ())=True:=eq_true (eP (by simp[aS,R.cells]) a9a λ_ _=>trivial);refine aj (cV @h (U.ae b14) (U.ae a02) @G @g @i @V @b15 @rL) ?_;refine ai (xE a l2 P C y t (k0.mono u.1)) ?_;rintro a4 b63 ⟨a03,k2,k3⟩;have b16:=k3.1 _ _ a02;refine aj (bs @h (U.ae b16) @G @g @i @V) ?_;rw[b13]at k2;refine eP (by simp[aS,R.cells]) a9a λa04 a65=> ?_;have b17:flat [R.J (ad p) E]= [R.J (ad p) E]:=rfl;rw[b17,a5T];have W:=au.new (ob:= .cells [R.J (ad p) E]) k3 a65;have b18:=U.bF k3.1 a65;rw[nj k2]at W;obtain⟨r,l⟩: ∃r:U,r=t.set a04 (.cells [R.J (ad p) E]):=⟨_,rfl⟩;have a68:t.sub r:=by rw[l];exact U.af U.a1 b18
    have b19:r a04=some (.cells [R.J (ad p) E]):=by rw[l,U.ah]
    rw[<-l]at W;have b64:=k2.len;have l5:=a68 _ _ a02;have a05:=W.1 _ _ l5;refine aj (bs @h (U.ae a05) @G @g @i @V) ?_;refine ai (YC r _ a03 a4 W (by grind) o a8Z a8Z _ a04 b19) ?_;intro ds a06 v;have b20:=v.1 _ _ l5;have l6:az isRow (k1.take o++p::k1.drop o) (a03.take o++R.J (ad p) E::a03.drop o):=(k2.take o).append ⟨⟨E,rfl⟩,k2.drop o⟩;rw[<-nj l6]at v;refine aj (bs @h (U.ae b20) @G @g @i @V) ?_;have a69:=U.ar l4 (U.ar u.1 a68);refine ai (DQ r a06 D m F (f.mono a69) _ _ ds v x n0 n1 l6 a9b) ?_;intro Z b21 w;rw[<-k]at w;obtain⟨b22,b23,rfl⟩:=w.shape;refine aj @h ?_;exact⟨_,U.a1,fL.base w (Ext.of a69)⟩
  .have l5:=b04.resolve_left N;rw[if_neg N]at k;have a01: ¬(a.kind.toNat:Int)=2:=λe=>N (by simp_all);refine aj (c6 @h @B @H @G (U.ae bt) @a01 @V) ?_;refine ai (DE a l2 P C y p E L k0) ?_;rintro _ L ⟨rfl,rfl⟩;obtain⟨b65,b11,b12,b24⟩:=a43.inner l5;have a07:hx p a<a.kids.length:=by grind[xL,List.length_map]
   generalize hx p a=o at*;have a08:=a4w a07;have a71:a.kids[o]'a07∈a.kids:=a4Z _;rw[a08]at k;simp only at k;generalize a.kids[o]'a07=c at a08 a71 k;obtain⟨b66,b25,a73,b26,O,Q,X,rfl⟩:=k0.kids.get a08;obtain⟨_,_,_,b67,b68⟩:=b24 c a71;obtain⟨Y,l7⟩: ∃Y:U,Y=b05.set K (.cells [.v (.int .u8 (a.kind.toNat)),C,y]):=⟨_,rfl⟩;have l8:=au.new (ob:= .cells [.v (.int .u8 (a.kind.toNat)),C,y]) l3 M;rw[<-l1,<-l7]at l8;have b27:=U.bF l3.1 M;have a74:=U.ar j9 a00.1;have a81:T.sub Y:=by rw[l7];exact U.af a74 (U.bF a74 b27)
   have b28:Y K=some (.cells [.v (.int .u8 (a.kind.toNat)),C,y]):=by rw[l7,U.ah]
   have a05:Y df=some (.cells [.ptr D 0,.v (.int .i64 (x))]):=by
    have:df≠K:=by grind
    rw[l7,U.ao _ _ this];exact a00.1 _ _ aH
   have b29:=dq.of l8 (f.mono a81) Ext.refl;obtain⟨b69,b30,a83⟩:=k0.gT.get o _ b25;have a84:=aW (M:=O) (e6:=Q) (h4:=X) a73;have b31:(R.agg (ab c O Q X)).cells=ab c O Q X:=rfl;rw[b31]at a83;have a86:=a83.ld L U.a1 true 37 a8Z (by rw[a84.len];omega);rw[show aX true 37 (ab c O Q X)= .agg (ab c O Q X) by rw[aX,if_pos rfl,a84.t37]]at a86;refine aj (cf @h (U.ae bt) (U.ae a57) @G @g @i @V @a29 @b30 @a86) ?_;refine ai (ih L F c O Q X a61 a73 b26 a8Z a8Z) ?_;intro Z t a09;have a88:=λk4 k5 e=>xM x p S F k4 c k5 e;generalize gr x p S F c=b32 at k a09 a88;obtain⟨res,k4⟩:=b32;cases res with
   |error b70=>obtain⟨l9,b33,a89,rfl⟩:=a09;simp only at k l9;subst k;refine aj (c2 @h @a89) ?_;exact⟨_,U.a1,l9,(Ext.of l4).trans b33,a89,rfl⟩
   |ok k5=>
    obtain⟨k6,b71,a10,rfl,⟨b72,a11,a13,a90⟩,_⟩:=a09;obtain⟨b73,b74⟩:=a88 k4 k5 rfl;simp only at k a13;have b34:=a10.len;have b35:(flat k6).length=k5.length*37:=by rw[db (a10.cells λ_ _=>bu.cells),b34]
    have b36:(flat P).length=a.kids.length*37:=by rw[db (j.cells λ_ _=>bu.cells),j.len]
    obtain⟨A,a92,a94,a14,rfl,a95,b37,b38,b39,b40,b41,b42⟩:=au.an a11 (by grind);have b43:=a90.trans (Ext.of a11.1);have l9:=a13.mono a11.1;obtain⟨b44,k3,b45,b46⟩:=b29.step b43 l9;have a15:=a13.cC a95;have b47:L A=none:=by
     cases b48:L A with
     |none=>rfl
     |some b75=>have:=a90 _ _ a15.1 a15.2 b48;rw[a95]at this;cases this
    have b49: ∀b a96 a97,y= .an b a96 a97 37->b≠A:=by
     rintro b a96 a97 rfl rfl;rcases l8.2 with ⟨_,e|e⟩|⟨b76,_,_,_,e,_,b77,_⟩
     .cases e
     .cases e
     simp_all
    obtain⟨r,l⟩: ∃r:U,r=b44.set A (.cells a14):=⟨_,rfl⟩;have W:=au.add k3 b37 b49;rw[<-l]at W;have b50:r A=some (.cells a14):=by rw[l,U.ah]
    have b51:au (λ_=>none) r 37 (flat k6) (.an A a92 a94 37):=⟨(λ_ _ e=>by cases e),.inr ⟨A,a92,a94,a14,rfl,rfl,b50,b38,b39,b40,b41,b42⟩⟩;have b52:bB r D m k4:=by rw[l];exact b45.set a15
    have b53:=U.bF l8.1 b47;have a16:Ext D m Y r:=by rw[l];exact b46.set b53
    have b54:=a16 _ _ a52.1 a52.2 b28;have a98:=a16 _ _ a56.1 a56.2 a05;have b55:=W.1 _ _ b54;have b56:=W.1 _ _ a98;simp -dsimp -implicitDefEqProofs (disch:=first|omega|assumption|(simp only[bk,Nat.reduceAdd];try omega)) only[go_sem,simprocAttr,-List.reduceReplicate,h,U.ae b55,U.ae b56,G,g,i,V,a29];refine ai (DP _ r t (flat P) (flat k6) y _ a.kids.length k5.length o (o+1) _ rfl W b36 b51 b35 a8Z a8Z a8Z a8Z a8Z) ?_;intro ds a06 v;have b57:=v.1 _ _ a98;have b58:(flat P).take (o*37)++(flat k6++(flat P).drop ((o+1)*37))=flat (P.take o++(k6++P.drop (o+1))):=by rw[(fU o (j.cells λ_ _=>bu.cells)).2,(fU (o+1) (j.cells λ_ _=>bu.cells)).1];simp[flat]
    rw[b58]at v;have l6:=(j.take o).append (a10.append (j.drop (o+1)));refine aj (bs @h (U.ae b57) @G @g @i @V) ?_;refine ai (DR r a06 D m k4 b52 _ _ ds v x n0 n1 l6 a9b) ?_;intro Z b21 w;rw[<-k]at w;obtain⟨b22,b23,rfl⟩:=w.shape;refine aj @h ?_;exact⟨_,U.a1,fL.base w ((Ext.of a81).trans a16)⟩
def jd (a:Nat) (d:List Int) (h:ag) (b:ay):Except Int ay×ag:=
 if b=aA then dv h a (dT [d])
 else match gr a d (b.size.toNat+1) h b with
  |(.error k,c)=>(.error k,c)
  |(.ok bI,c)=>iD a (bI.length+1) c bI
variable{g A e0:List R}{M e6 h4:Own}
def qB.lt (a:qB w M e6 h4 g):g.length=37/\g.take 37=g:=⟨a.len,a.t37⟩
def YL (C:U) (d h:Nat) (x:ag) (W:bB C d h x) (b:ay) (G L P:Own) (n:b.sum.length=32) (M:b.cz) (c:List Int) (S:Own) (a:Nat) (q:1<=a) (s:a<=8) (a04:c.length=a):
  AC Tryz.prog 85 [.ptr d 0,.agg (ab b G L P),.J (ad c) S,.v (.int .i64 (a:Int))] C λk N=>bB N d h (jd a c x b).2/\Ext d h C N/\ha (jd a c x b).1 k:=by
 have a05:=(aW (M:=G) (e6:=L) (h4:=P) n).lt;have a06:=(aW (M:= .nil) (e6:= .nil) (h4:= .nil) bj).lt;have a07:=cn;have t:=λO Q X Y u=>cB (a:= .nil) (b:= .nil) (c:= .nil) (w:=O) (M:=Q) (e6:=X) (h4:=Y) bj u;have a08:=t aA .nil .nil .nil bj;generalize l0:ab aA .nil .nil .nil=v at*;obtain⟨Z,p⟩: ∃Z,jd a c x b=Z:=⟨_,rfl⟩;rw[p];unfold jd at p;have a09:qF (a) [c]=true:=by simp[qF];omega
 have j9:az isRow [c] [R.J (ad c) S]:=⟨⟨S,rfl⟩,trivial⟩;have k0:aS 1 [R.J (ad c) S]:=by simp[aS,R.cells]
 refine aN hm LH ?_;refine bp λhb l1=> ?_;refine cW λT w _ _=> ?_;refine tV λl2 l3 _ _ _ _=> ?_;generalize e:((C.set hb _).set T _).set l2 _=D;have k1:C.sub D:=by subst e;exact aR
 have bm:D hb=some (.cells (ab b G L P)):=by subst e;exact aR
 have bt:D T=some (.cells v):=by subst e;exact aR
 clear e;have E:=W.cC w;have a10:= @U.set_set;refine lX (DB a [c] _ _ D j9 (bR.J k0) a9a) ?_;refine bp λk2 f=> ?_;have a11:=U.gW f bm;obtain⟨z,A⟩: ∃z,D.set k2 (.cells [.ptr d 0,.v (.int .i64 (a))])=z:=⟨_,rfl⟩;have g:D.sub z:=by rw[<-A];exact U.af U.a1 f
 have cf:z k2=some (.cells [.ptr d 0,.v (.int .i64 (a))]):=by rw[<-A,U.ah]
 have l4:=U.ae cf;have a13:=rd g bm;have i:=U.ar k1 g;have k3:=W.cC (U.bF k1 f);have k4: ∀(y) (r) (res) (k),bB r d h y->Ext d h z r->ha res k-> ∃o F,o.length=37/\o.take 37=o/\putAt v 0 o=o/\k= .aK [.agg o,.v (.int .i64 F)]/\ee r T=some v/\bB (r.set T (.cells o)) d h y/\Ext d h C (r.set T (.cells o)):=by intro y r res k j k5 l5;obtain⟨O,Q,X,Y,F,B,rfl⟩:=l5.shape;exact⟨_,F,(aW B).len,(aW B).t37,t _ _ _ _ B,rfl,U.aJ (k5 _ _ E.1 E.2 (g _ _ bt)),j.set E,((Ext.of i).trans k5).set w⟩
 refine lX (nh b G L P z n M) ?_;clear l1 f l3 A t;refine aG (λH=> ?_) λH=> ?_
 .rw[if_pos H]at p;refine jI λa14 l6=> ?_;have j:=U.af (Y:= .buf 1 1 1) (U.a1) l6;refine cl (xD _ d h x (W.mono (U.ar i j)) [c] _ _ a q s j9 (bR.J k0) a9a) ?_;rintro k r ⟨l,m,V⟩;rw[p]at l V;obtain⟨o,F,l7,l8,l9,rfl,n0,I,sC⟩:=k4 _ r _ k l ((Ext.of j).trans m) V;refine aa ?_;exact⟨_,U.a1,I,sC⟩
 rw[if_neg H]at p;refine cl (YK d h c S a q s (b.size.toNat+1) z x b G L P (W.mono i) n M a8Z a8Z) ?_;intro k r K;have k6:=λy n1 u=>xM a c (b.size.toNat+1) x y b n1 u;generalize gr a c (b.size.toNat+1) x b=n2 at K k6 p;obtain⟨res,y⟩:=n2;cases res with
 |error F=>obtain⟨l,m,n3,rfl⟩:=K;subst p;have a15:=U.aJ (m _ _ E.1 E.2 (g _ _ bt));refine aa ?_;exact⟨_,U.a1,l.set E,((Ext.of i).trans m).set w,n3,by rw[l0]⟩
 |ok bI=>
  obtain⟨n4,a16,k7,rfl,k8,_⟩:=K;obtain⟨_,a18⟩:=k6 y bI rfl;have l4:=U.ae (k8.ext _ _ k3.1 k3.2 cf);obtain⟨n5,n9,a00,a01⟩:=k8.ui k7;refine cl (AC.nm (g:= [_]) n9 (YA n5 d h y a00 bI n4 .any a q s k7 a8Z)) ?_;rintro k a02 ⟨k9,a03,V⟩
  dsimp only at p
  rw[p]at k9 V;obtain⟨o,F,l7,l8,l9,rfl,n0,I,sC⟩:=k4 _ a02 _ k k9 (a01.trans a03) V;refine aa ?_;exact⟨_,U.a1,I,sC⟩
end Go.Proofs.YtlgnfcaolejgeaaGreat
namespace Go.bx
open Go
variable{n b3:R}{f t e4:U}{g A e0:List R}{e i v O b8 j0:Nat}
theorem au.emp (b:au e4 f e g n) (k: ∀a c d,n= .an a c d e->t a=f a):au (λ_=>none) t e g n:=by
 refine⟨(λ_ _ b=>by cases b),?_⟩;rcases b.2 with h|⟨a,c,d,o,rfl,p,r,x⟩
 .exact .inl h
 grind
theorem au.put {a:R} (h:au t f e (flat g) (.an v O b8 e)) (z:0<e) (d:aS e g) (C:g[i]? =some n) (o:a.cells.length=e):
  ∃b,f v=some (.cells b)/\i*e+e<=b.length/\O=g.length/\au t (f.set v (.cells (putAt b (i*e) a.cells))) e (flat (g.set i a)) (.an v O b8 e):=by
 obtain⟨D,c⟩:=h;rcases c with ⟨_,c|c⟩|⟨W,j,l,b,p,r,E,F,G,m,x,L⟩
 .cases c
 .cases c
 simp only[R.an.injEq,and_true]at p;obtain⟨rfl,rfl,rfl⟩:=p;have y:=(a4E.1 C).1;have q:=db d;have P:O=g.length:=a6S z a8Z;subst P;have s:i*e+e<=g.length*e:=by rw[<-a8T];exact a4L _ y
 have u:g.length*e<=b8*e:=a4L _ x;refine⟨b,E,a8Z,rfl,U.af D r,.inr ⟨v,g.length,b8,_,rfl,r,U.ah _ _ _,by rw[eH _ _ _ a8Z];exact F,?_,?_,x,L⟩⟩
 .have k:g.set i a=g.take i++a::g.drop (i+1):=by rw[a5N,if_pos y]
  have S:flat (g.take i++a::g.drop (i+1))=(flat g).take (i*e)++a.cells++(flat g).drop ((i+1)*e):=by rw[(fU i d).2,(fU (i+1) d).1];simp[flat]
  rw[k,S,putAt,o,<-G];have w:(b.take (i*e)++a.cells).length=i*e+e:=by grind
  grind[List.take_append,List.take_of_length_le,Nat.min_eq_left,List.drop_take,Nat.succ_mul]
 .have T:aS e (g.set i a):=λk V=>by
   rcases a6F V with h|rfl
   .exact d k h
   .exact o
  rw[db T,a7v]
end Go.bx
namespace Go.Proofs.YtlgnfcaolejgeaaGreat
open Go Go.bx
structure hZ where
 leaf:Bool
 rows:List (List Int)
 kids:List ay
structure iE (a:U) (x:hZ) (d h:R) (b c:List R):Prop where
 r:az isRow x.rows b
 k:az bu x.kids c
 aj:bR a 1 d b
 uo:bR a 37 h c
 ot:jO a 1 d x.rows.length b
 jP:jO a 37 h x.kids.length (flat c)
 kt:x.rows.length<=1000
 iw:x.kids.length<=1000
def iE.mono {c d:U}{h:hZ}{k o:R}{p r:List R} (a:iE c h k o p r) (b:c.sub d):iE d h k o p r:=⟨a.r,a.k,a.aj.mono b,a.uo.mono b,a.ot.mono b,a.jP.mono b,a.kt,a.iw⟩
variable{n b3:R}{f t e4:U}{g A e0:List R}
theorem iE.of {s:U}{a:hZ} (b:az isRow a.rows g) (c:az bu a.kids A) (d:au f s 1 (flat g) n) (h:au t s 37 (flat A) b3) (o:a.rows.length<=1000) (p:a.kids.length<=1000):iE s a n b3 g A:=by obtain⟨r,x,k⟩:=d.aj a8Z;obtain⟨y,z,C⟩:=h.aj a8Z;rw[nj b]at x k;rw[db (c.cells λ_ _=>bu.cells)]at z;have:=b.len;have:=c.len;obtain rfl:r=a.rows.length:=a8Z;obtain rfl:y=a.kids.length:=a8Z;exact⟨b,c,bR.dR d a8Z rfl (b.cells λ_ _=>isRow.cells),bR.dR h a8Z rfl (c.cells λ_ _=>bu.cells),k,C,o,p⟩
def hc (a:c3):hZ:=⟨decide (a.kind=2),a.rows.map Prod.fst,a.kids⟩
def ky (b:ag) (c:Nat) (a d:hZ):Except Int (List ay)×ag:=if a.leaf=true then oo b c (a.rows++d.rows)else jN b c (a.kids++d.kids)
theorem YM (d:U) (r T:Nat) (V:ag) (B:bB d r T V) (a b:hZ) (W e D f g:R) (X Y Z j9:List R) (k:iE d a W e X Y) (o:iE d b f g Z j9) (k5:D.cells= [D]) (p:Nat) (H:1<=p) (I:p<=8):
  AC Tryz.prog 313 [dU r p,.agg [.v (.bool a.leaf),W,e],.agg [D,f,g]] d λs k0=>fL d k0 r T (ky V p a b) s:=by
 refine bd hm RL a9a ?_;have c: ∀K,(R.agg K).cells=K:=λ_=>rfl;have i: ∀a b:R,List.take 2 [a,b]= [a,b]:=λ_ _=>rfl;have j: ∀a b,aX true 2 [a,b]= .agg [a,b]:=λ_ _=>rfl;have M: ∀a b z:R,aX false 1 [a,b,z]=a:=λ_ _ _=>rfl;have N: ∀a b z:R,aX false 1 ([a,b,z].drop 1)=b:=λ_ _ _=>rfl;have O: ∀a b z:R,aX false 1 ([a,b,z].drop 2)=z:=λ_ _ _=>rfl;refine aj @c ?_;refine aM λdf k6=> ?_;refine aj @c ?_;refine aM λek l=> ?_;have E:df≠ek:=by rintro rfl;rw[U.ah]at l;cases l
 have k7:d ek=none:=by rw[U.ao _ _ (a4F E)]at l;exact l
 refine aj @c ?_;refine aM λhb m=> ?_;have t:ek≠hb:=by rintro rfl;rw[U.ah]at m;cases m
 have u:df≠hb:=by rintro rfl;rw[U.ao _ _ E,U.ah]at m;cases m
 have k8:d hb=none:=by simp_all [U.ao,a4F]
 obtain⟨C,x⟩: ∃C:U,C=((d.set df (.cells [.ptr r 0,.v (.int .i64 (p))])).set ek (.cells [.v (.bool a.leaf),W,e])).set hb (.cells [D,f,g]):=⟨_,rfl⟩;have Q:d.sub C:=by grind[U.af,U.a1]
 have aH:C df=some (.cells [.ptr r 0,.v (.int .i64 (p))]):=by rw[x,U.ao _ _ u,U.ao _ _ E,U.ah]
 have aI:C ek=some (.cells [.v (.bool a.leaf),W,e]):=by rw[x,U.ao _ _ t,U.ah]
 have bm:C hb=some (.cells [D,f,g]):=by rw[x,U.ah]
 unfold ky;have k9:=k.kt;have l0:=o.kt;have l1:=k.iw;have l2:=o.iw;cases n:a.leaf with
 |true=>rw[n]at aI x;refine aj (cf @c @U.ao @E @u @t @U.ah @M @N @O @n) ?_;rw[<-x];refine dc U.a1 (by intro k1 F;simp only[a4T,a5W,or_false]at F;rcases F with rfl|rfl;(·rw[k.ot.one];rfl);(·rw[o.ot.one];rfl)) λv G L=> ?_;have h:=U.ar Q L.sub;have P:=L.sub _ _ aH;simp -dsimp -implicitDefEqProofs (disch:=first|omega|assumption|(simp only[bk,Nat.reduceAdd];try omega)) only[go_sem,simprocAttr,-List.reduceReplicate,c,U.ae P,j,i];refine ai (YF G _ _ v _ _ _ _ (k.ot.mono h) (o.ot.mono h) a8Z a8Z) ?_;intro ds w y;have A:=y.1 _ _ P;have q:=k.r.append o.r;rw[<-nj q]at y;simp -dsimp -implicitDefEqProofs (disch:=first|omega|assumption|(simp only[bk,Nat.reduceAdd];try omega)) only[go_sem,simprocAttr,-List.reduceReplicate,c,U.ae A,j,i];refine ai (DQ G w r T V (B.mono h) _ _ ds y p H I q (by rw[a4y];omega)) ?_;intro s k2 S;obtain⟨k3,k4,rfl⟩:=S.shape;refine aj @c ?_;exact⟨_,U.a1,fL.base S (Ext.of h)⟩
 |false=>rw[n]at aI x;refine aj (cf @c @U.ao @E @u @t @U.ah @M @N @O @n) ?_;rw[<-x];refine dc U.a1 (by intro k1 F;simp only[a4T,a5W,or_false]at F;rcases F with rfl|rfl;(·rw[k.jP.one];rfl);(·rw[o.jP.one];rfl)) λv G L=> ?_;have h:=U.ar Q L.sub;have P:=L.sub _ _ aH;simp -dsimp -implicitDefEqProofs (disch:=first|omega|assumption|(simp only[bk,Nat.reduceAdd];try omega)) only[go_sem,simprocAttr,-List.reduceReplicate,c,U.ae P,j,i];refine ai (YH G _ _ v _ _ _ _ (k.jP.mono h) (o.jP.mono h) a8Z a8Z) ?_;intro ds w y;have A:=y.1 _ _ P;have q:=k.k.append o.k;rw[<-oR]at y;simp -dsimp -implicitDefEqProofs (disch:=first|omega|assumption|(simp only[bk,Nat.reduceAdd];try omega)) only[go_sem,simprocAttr,-List.reduceReplicate,c,U.ae A,j,i];refine ai (DR G w r T V (B.mono h) _ _ ds y p H I q (by rw[a4y];omega)) ?_;intro s k2 S;obtain⟨k3,k4,rfl⟩:=S.shape;refine aj @c ?_;exact⟨_,U.a1,fL.base S (Ext.of h)⟩
def jQ (d:ag) (k:Nat) (h:List ay) (a:Nat) (b:hZ):Except Int (List ay)×ag:=
 if 2<=b.rows.length+b.kids.length then
  match mg d k b.leaf b.rows b.kids with
  |(.error o,c)=>(.error o,c)
  |(.ok r,c)=>(.ok (h.set a r),c)
 else match h[if a=0 then 1 else a - 1]? with
  |none=>(.error 21,d)
  |some x=>match iC d k x with
   |none=>(.error 21,d)
   |some p=>match ky d k (if a=0 then b else hc p) (if a=0 then hc p else b)with
    |(.error o,c)=>(.error o,c)
    |(.ok y,c)=>(.ok (h.take (a - 1)++(y++h.drop (a - 1+2))),c)
def YN (k b:U) (c d:Nat) (h:Except Int (List ay)×ag) (o:R):Prop:=
 match h.1 with
 | .error p=>bB b c d h.2/\Ext c d k b/\p≠0/\ ∃a,o= .aK [a,.v (.int .i64 p)]/\a.cells= [a]
 | .ok bI=> ∃r a,az bu bI r/\o= .aK [a,.v (.int .i64 0)]/\dq k b c d h.2 37 (flat r) a
theorem az.set {c:Type}{d:c->R->Prop}: ∀ {k:List c}{o:List R}{p:c}{r:R} (b:Nat),az d k o->d p r->az d (k.set b p) (o.set b r)
 | [],[],_,_,_,a,_=>a
 | _:: _,_:: _,_,_,0,a,h=>⟨h,a.2⟩
 | _:: _,_:: _,_,_,b+1,a,h=>⟨a.1,az.set b a.2 h⟩
variable{e i v O b8 j0:Nat}{H:ag}
theorem DT {h:ag}{b c:hZ}{d:List ay} (a:ky H e b c=(.ok d,h)) (o:b.rows.length<=1000/\c.rows.length<=1000/\b.kids.length<=1000/\c.kids.length<=1000):d.length<=501:=by
 unfold ky at a;split at a
 .rename_i k;have:=qG a;rw[this];simp only[a4G,a4W,a6.chunks,(nk).1,a6.bU,a4y];omega
 .rename_i k;have:=qG a;rw[this];simp only[a4G,a4W,a6.chunks,(nk).1,a6.bU,a4y];omega
def bu.c {a:List ay} (b:az bu a g):aS 37 g:=b.cells λ_ _=>bu.cells
def Ext.no (b:Ext i v f t) (a:e≠i/\e≠v) (c:t e=none):f e=none:=by
 cases d:f e with
 |none=>rfl
 |some h=>have:=b _ _ a.1 a.2 d;rw[c]at this;cases this
theorem YO (V C r:U) (D E:Nat) (I W:ag) (d k:List ay) (h:List R) (x e:Nat) (F:R) (G:dq V C D E I 37 (flat h) (.an x d.length e 37)) (c:az bu d h) (K:fL C r D E (.ok k,W) (.aK [F,.v (.int .i64 0)])) (b a:Nat) (y:Int) (f:y=(a:Int)) (g:b<a) (i:a<=d.length) (l1:d.length<=1000) (l2:k.length<=501):
  AC Tryz.prog 242 [.an x d.length e 37,.v (.int .i64 (b:Int)),.v (.int .i64 y),F] r λM N=> ∃j,az bu (d.take b++(k++d.drop a)) j/\dq V N D E W 37 (flat j) M:=by
 obtain⟨o,F,L,P,⟨l3,S,l,m⟩,O⟩:=K;simp only[R.aK.injEq,a6R,and_true]at P;subst P;have l4:=c.len;have Q:=L.len;have l5:=db (bu.c c);have X:(flat o).length=k.length*37:=by rw[db (bu.c L),Q]
 have Y: ∃n,C x=some (.cells n):=by obtain⟨_,Z,_⟩:=G;obtain⟨_,_,_,n,P,_,q,_⟩:=Z.an (by grind);simp_all
 obtain⟨j9,s,t,u⟩:=G.step (m.trans (Ext.of S.1)) (l.mono S.1);by_cases v:k= []
 .subst v;obtain rfl:=O rfl;refine(YD _ r (flat h) _ d.length b a y f s a8Z g i a8Z).mono λds k0 p=> ?_;rw[(fU b (bu.c c)).2,(fU a (bu.c c)).1,<-oR]at p;exact⟨_,(c.take b).append (c.drop a),_,p,t,u⟩
 have l6:=a5E.2 v;obtain⟨z,w,A,B,rfl,H,k1,k2,k3,k4,k5,k6⟩:=au.an S (by grind);have T:=l.cC H;have k7:=m.no T H;obtain⟨l7,l8⟩:=Y;have l9:x≠z:=by grind
 have k8:=au.add s k1 (by simp_all);have k9:au (λ_=>none) (j9.set z (.cells B)) 37 (flat o) (.an z w A 37):=⟨(λ_ _ q=>by cases q),.inr ⟨z,w,A,B,rfl,rfl,U.ah _ _ _,k2,k3,k4,k5,k6⟩⟩;refine(DP _ _ r (flat h) (flat o) _ _ d.length k.length b a y f k8 a8Z k9 X a8Z g i a8Z a8Z).mono λds k0 p=> ?_;have l0:(flat h).take (b*37)++(flat o++(flat h).drop (a*37))=flat (h.take b++(o++h.drop a)):=by rw[(fU b (bu.c c)).2,(fU a (bu.c c)).1];simp[flat]
 rw[l0]at p;exact⟨_,(c.take b).append (L.append (c.drop a)),_,p,t.set T,u.set (G.ext.no T k7)⟩
theorem YP (H I:U) (D W:Nat) (y:ag) (k8:bB H D W y) (z:List ay) (K:List R) (a11:R) (k9:au H I 37 (flat K) a11) (S:az bu z K) (b:hZ) (E F:R) (a13 a14:List R) (T:iE I b E F a13 a14) (b40:2<=z.length) (a92:z.length<=1000) (a:Nat) (b41:a<z.length) (d:Nat) (l0:1<=d) (l1:d<=8):
  AC Tryz.prog 250 [dU D d,a11,.v (.int .i64 (a:Int)),.agg [.v (.bool b.leaf),E,F]] I λl l2=>YN H l2 D W (jQ y d z a b) l:=by
 have b42:=S.len;have a94:=k8.mono k9.1;have b43:=db (bu.c S);obtain⟨l3,a95,a15,b44,rfl,b45,b46,a16,a96,a97,m,b47⟩:=au.an k9 (by grind);obtain rfl:a95=z.length:=a8Z;have b48:=T.kt;have b49:=T.iw;have b50:=(aW (M:= .nil) (e6:= .nil) (h4:= .nil) bj).len;obtain⟨a18,h⟩: ∃a18,jQ y d z a b=a18:=⟨_,rfl⟩;rw[h];rw[jQ]at h;clear a16 a96 a97;refine aN hm Qu ?_;refine bp λek a19=> ?_;refine cW λa27 a29 _ _=> ?_;have M:=U.af (Y:= .cells [.v (.bool b.leaf),E,F]) (U.af (Y:= .cells [.ptr D 0,.v (.int .i64 (d))]) (U.a1) a19) a29;obtain⟨C,N⟩: ∃C:U,(I.set ek (.cells [.ptr D 0,.v (.int .i64 (d))])).set a27 (.cells [.v (.bool b.leaf),E,F])=C:=⟨_,rfl⟩;rw[N]at M|-;have aI:C ek=some (.cells [.ptr D 0,.v (.int .i64 (d))]):=by rw[<-N,U.ao _ _ a9c,U.ah]
 have c6:C a27=some (.cells [.v (.bool b.leaf),E,F]):=by rw[<-N,U.ah]
 have a98:=U.ae aI;have a99:=U.ae c6;clear N a19 a29;have l4:=au.mono k9 M;have a30:=dq.of l4 k8 Ext.refl;have n:=T.mono M;have l5:=a94.mono M;refine lX (Yu (.v (.bool b.leaf)) E F _ _ T.ot.one T.jP.one rfl T.ot.len T.jP.len a8Z a8Z C) ?_;refine aG (λa34=> ?_) λa34=> ?_
 .rw[if_pos a8Z]at h;refine cl (DD C D W y l5 b.leaf b.rows a13 E b.kids a14 F d l0 l1 n.r n.aj a8Z n.k n.uo a8Z) ?_;rintro l l6 ⟨a36,b00,O⟩;generalize mg y d b.leaf b.rows b.kids=l7 at*;obtain⟨res,q⟩:=l7
  dsimp only at a36 O
  obtain⟨Q,o,p,r,b01,l8,rfl⟩:=O.shape;have b02:=(aW (M:=o) (e6:=p) (h4:=r) l8).len;have b51:=(aW (M:=o) (e6:=p) (h4:=r) l8).t37;have b52:putAt (ab aA .nil .nil .nil) 0 (ab Q o p r)=ab Q o p r:=cB bj l8;have b53:=cn;generalize ab aA .nil .nil .nil=b54 at*;refine aa ?_;refine bp λb55 b03=> ?_;obtain⟨b04,b05,a38,a42⟩:=dq.mono (a30.step b00 a36) (U.af (Y:= .cells (ab Q o p r)) U.a1 b03);obtain⟨b56,b06,b57,-,l9⟩:=au.put (a:= .agg (ab Q o p r)) b05 a8Z (bu.c S) (a4w (show a<K.length by omega)) b02;have b58:cL 37 (.an l3 z.length a15 37) (.v (.int .i64 (a)))=some (.ptr l3 (a*37)):=by simp_all [jz]
  have b59:=U.aJ b06;have b07:=a42.trans (Ext.of l9.1);refine aa ?_;refine⟨_,U.a1,?_⟩;subst h;cases res with
  |error b60=>obtain⟨n0,x⟩:=O;simp only[R.aK.injEq,a6R,R.v.injEq,Value.int.injEq,true_and,and_true]at x;obtain⟨_,rfl⟩:=x;exact⟨a38.mono l9.1,b07,n0,_,rfl,rfl⟩
  |ok b61=>obtain⟨b08,b09,b10,b11,b12,x⟩:=O;simp only[R.aK.injEq,a6R,R.v.injEq,Value.int.injEq,true_and,and_true,R.agg.injEq]at x;obtain⟨x,rfl⟩:=x;exact⟨_,_,az.set a S ⟨b08,b09,b10,b11,b12,by rw[x]⟩,rfl,⟨b04,l9,a38,a42⟩⟩
 rw[if_neg a8Z]at h;have b62:max ((a:Int) - 1) 0=((a - 1:Nat)):=a8Z;obtain⟨e,f⟩: ∃e,(if a=0 then 1 else a - 1)=e:=⟨_,rfl⟩;rw[f]at h;refine o3 [1,2,4,7,12] (λ_:Unit=> [(13,.v (.int .i64 (e)))]) (λ_ l2=>l2=C) (λk=> ?_) (λk=> ?_) ?_
 .rw[if_pos (by have:=of_decide_eq_true k;omega)]at f;subst f;exact aR
 .rw[if_neg (by have:=of_decide_eq_false k;omega)]at f;subst f;exact aR
 rintro _ C rfl b13;have b14:e<z.length:=by rw[<-f];split<;>omega
 have n1:=a4w b14;rw[n1]at h
 dsimp only at h
 generalize z[e]=G at*;obtain⟨b63,a43,a47,b15,o,p,r,rfl⟩:=S.get n1;obtain⟨b16,b17,n2⟩:=(bR.dR l4 a8Z rfl (bu.c S)).get e _ a43;have a48:=aW (M:=o) (e6:=p) (h4:=r) a47;change ng C b16 (ab G o p r)at n2;have a52:=n2.ld C U.a1 true 37 a8Z (by rw[a48.len];omega);rw[show aX true 37 (ab G o p r)= .agg (ab G o p r) by rw[aX,if_pos rfl,a48.t37]]at a52;refine cl (xF C D W y l5 G o p r a47 b15 d l0 l1) ?_;rintro l a56 ⟨a57,x⟩;cases n3:iC y d G with
 |none=>rw[n3]at x h;obtain rfl:=x;subst h;refine aa ?_;refine bp λn4 X=> ?_;have a61:=λG=>U.ar l4.1 (U.ar a57 (U.af (Y:=G) U.a1 X));exact⟨_,U.a1,k8.mono (a61 _),Ext.of (a61 _),a9d,_,rfl,rfl⟩
 |some c=>
 rw[n3]at x h
 dsimp only at h
 obtain⟨Y,g,rfl,b18⟩:=x;obtain⟨b19,b64⟩:=sB n3;obtain⟨b65,b66,b67⟩:=lb b19.ok;clear a52 b17 n2 a98 a99 a34 a43 n1;refine aa ?_;refine bp λn4 X=> ?_;obtain⟨s,n5⟩: ∃s,a56.set n4 (.cells [.v (.int .u8 (c.kind.toNat)),Y,g])=s:=⟨_,rfl⟩;have n9:a56.sub s:=by rw[<-n5];exact U.af U.a1 X
 have fu:s n4=some (.cells [.v (.int .u8 (c.kind.toNat)),Y,g]):=by rw[<-n5,U.ah]
 have a00:=U.ar a57 n9;obtain⟨b68,a62,a63,b20,a01,a65,Z,b21,b22⟩:=b18;have a68:=fX.mono ⟨a65,Z,(bR.dR b20 a8Z rfl (a65.cells λ_ _=>de.cells)).mono a01.1,bR.dR a01 a8Z rfl (bu.c Z),b21,b22⟩ n9;have m:=rd a00 c6;have b23:=U.ae fu;have b69:= @rL;refine cl (xG c a62 a63 Y g s a68) ?_;rintro _ j9 ⟨a69,b70,rfl,b24,a71⟩;clear n5 X;have t:=a71.1;have u:=t _ _ (a00 _ _ c6);have m:=U.ae u;refine aa ?_;refine bp λw a02=> ?_;have b71:=U.gW a02 u;refine cW λA a03 _ _=> ?_;have b72:=U.gW a03 u;have b25:= @U.set_set;obtain⟨V,k0⟩: ∃V,(j9.set w (.cells [.v (.bool (decide (c.kind=2))),a69,g])).set A (.cells [.v (.bool b.leaf),E,F])=V:=⟨_,rfl⟩;have L:j9.sub V:=by rw[<-k0];exact U.af (U.af U.a1 a02) a03
 have lW:V w=some (.cells [.v (.bool (decide (c.kind=2))),a69,g]):=by rw[<-k0,U.ao _ _ a9c,U.ah]
 have mU:V A=some (.cells [.v (.bool b.leaf),E,F]):=by rw[<-k0,U.ah]
 have a73:=U.ar a00 t;have a74:=n.mono a73;have a81:=au.mono a01 (U.ar n9 t);have k1:(hc c).rows.length<=1000/\(hc c).kids.length<=1000:=by simp[hc];omega
 refine aa ?_;clear b25 m;refine o3 [1,4,12,16,17] (λ_:Unit=> []) (λ_ P=>j9.sub P/\ ∃k2 k3 B k4 k5 a04 a05 a06 a07,P w=some (.cells [.v (.bool (if a=0 then b else hc c).leaf),k2,k3])/\P A=some (.cells [B,k4,k5])/\B.cells= [B]/\iE P (if a=0 then b else hc c) k2 k3 a04 a05/\iE P (if a=0 then hc c else b) k4 k5 a06 a07) (λk=> ?_) (λk=> ?_) ?_
 .have k:=of_decide_eq_true k;have k:a=0:=a8Z;simp only[if_pos k];have m:=rd L u;have b23:=rd (U.ar t L) fu;refine cl (xG c a62 a63 Y g V (a68.mono (U.ar t L))) ?_;rintro _ l6 ⟨b73,b74,rfl,b26,i⟩;have m:=rd i.1 (L _ _ u);have b75:=U.aJ (i.1 _ _ lW);have b76: ∀a83,ee (l6.set w a83) A=some [.v (.bool b.leaf),E,F]:=λa83=>U.aJ (by rw[U.ao _ _ a9c];exact i.1 _ _ mU);have k6: ∀G a84,j9.sub ((l6.set w G).set A a84):=λG a84 b77 v a08=>by
   rw[U.ao _ _ (U.gW a03 a08),U.ao _ _ (U.gW a02 a08)];exact i.1 _ _ (L _ _ a08)
  refine aa ?_;refine⟨(),_,_,_,_,_,_,_,_,_,rfl,rfl,rfl,a74.mono (k6 _ _),iE.of b26 Z (au.emp i ?_) (au.mono a81 (k6 _ _)) k1.1 k1.2⟩;rintro b27 b78 b79 rfl;have a86:V b27=none:=by
   rcases i.2 with ⟨_,j|j⟩|⟨b80,_,_,_,j,b81,_⟩
   .cases j
   .cases j
   simp_all
  rw[U.ao _ _ (U.gW a86 mU).symm,U.ao _ _ (U.gW a86 lW).symm]
 .have k:=of_decide_eq_false k;have k: ¬a=0:=a8Z;simp only[if_neg k];refine aa ?_;subst k0;exact⟨(),_,_,_,_,_,_,_,_,_,rfl,rfl,rfl,iE.of b24 Z (a71.mono L) (a81.mono L) k1.1 k1.2,a74.mono L⟩
 rintro _ P ⟨k6,k2,k3,B,k4,k5,a04,a05,a06,a07,lW,mU,b28,b29,b30⟩ b13;have b31:(if a=0 then b else hc c).rows.length<=1000/\(if a=0 then hc c else b).rows.length<=1000/\(if a=0 then b else hc c).kids.length<=1000/\(if a=0 then hc c else b).kids.length<=1000:=by split<;>omega
 have b32:=λq k7 j=>DT (H:=y) (h:=q) (e:=d) (d:=k7) j b31;generalize (if a=0 then b else hc c)=a88 at*;generalize (if a=0 then hc c else b)=a89 at*;have a09:=U.ar a73 k6;have a16:=rd a09 aI;have b82:=U.ae lW;have b83:=U.ae mU;refine cl (YM P D W y (l5.mono a09) a88 a89 k2 k3 B k4 k5 a04 a05 a06 a07 b29 b30 b28 d l0 l1) ?_;intro l b33 a10;generalize ky y d a88 a89=l7 at*;obtain⟨res,q⟩:=l7;have a90:=dq.mono a30 a09;cases res with
 |error b01=>obtain⟨b34,b35,n0,rfl⟩:=a10;subst h;refine aa ?_;exact⟨_,U.a1,b34,a90.ext.trans b35,n0,_,rfl,rfl⟩
 |ok k7=>obtain⟨_,a3,_,rfl,_⟩:=id a10;have b36:=b32 q k7 rfl;have b37:((a - 1:Nat))+2=((a - 1+2:Nat):Int):=rfl;refine cl (YO H P b33 D W y q z k7 K l3 a15 a3 a90 S a10 (a - 1) (a - 1+2) _ b37 a8Z a8Z a92 b36) ?_;rintro l b84 ⟨b85,b38,b39⟩;subst h;refine aa ?_;exact⟨_,U.a1,_,_,b38,rfl,b39⟩
end Go.Proofs.YtlgnfcaolejgeaaGreat
set_option maxHeartbeats 1000000
namespace Go.bx
open Go
variable{n b3:R}{f t e4:U}{g A e0:List R}{e i v O b8 j0:Nat}
theorem au.o4 (x:au t f e g n): ∃d:U,au d f e g n/\d.sub f/\t.sub d/\ ∀a,(∀b h k,n= .an b h k e->b≠a)->d a=f a:=by
 obtain⟨p,o⟩:=x;rcases o with o|⟨b,h,k,y,rfl,z,C,D⟩
 .exact⟨f,⟨U.a1,.inl o⟩,U.a1,p,λ_ _=>rfl⟩
 .have r:(f.del b).sub f:=λa E c=>by
   grind[U.il,U.eG]
  refine⟨f.del b,⟨r,.inr ⟨b,h,k,y,rfl,U.il _ _,C,D⟩⟩,r,λa E c=> ?_,λa c=>U.eG _ (a4F (c _ _ _ rfl))⟩;have F:a≠b:=by rintro rfl;rw[z]at c;cases c
  rw[U.eG _ F];exact p _ _ c
theorem au.own (c:au f t i g (.an e v O i)):f e=none/\ ∃b,t e=some (.cells b):=by
 rcases c.2 with ⟨_,a|a⟩|⟨d,h,k,b,o,p,r,_⟩
 .cases a
 .cases a
 simp_all
end Go.bx
namespace Go.Proofs.YtlgnfcaolejgeaaGreat
open Go Go.bx
def ia (d:Nat) (c:List Int):Nat->ag->ay->Except Int hZ×ag
  |0,b,_=>(.error 21,b)
  |p+1,b,r=>match iC b d r with
    |none=>(.error 21,b)
    |some a=>
      if a.kind=2 then
        (if kx (a.rows.map Prod.fst) c=true then(.ok ⟨true,(a.rows.map Prod.fst).take (eW (a.rows.map Prod.fst) c)++(a.rows.map Prod.fst).drop (eW (a.rows.map Prod.fst) c+1),a.kids⟩,b)
         else(.error 9,b))
      else match a.kids[hx c a]? with
        |none=>(.error 21,b)
        |some x=>match ia d c p b x with
          |(.error h,k)=>(.error h,k)
          |(.ok y,k)=>match jQ k d a.kids (hx c a) y with
            |(.error h,o)=>(.error h,o)
            |(.ok bI,o)=>(.ok ⟨false,a.rows.map Prod.fst,bI⟩,o)
def YQ (x c:U) (d h:Nat) (k:Except Int hZ×ag) (o:R):Prop:=
 bB c d h k.2/\Ext d h x c/\match k.1 with
 | .error p=>p≠0/\ ∃y a b,o= .aK [.agg [y,a,b],.v (.int .i64 p)]
 | .ok r=> ∃a b z C,o= .aK [.agg [.v (.bool r.leaf),a,b],.v (.int .i64 0)]/\iE c r a b z C
variable{e i v O b8 j0:Nat}{H:ag}
theorem YR {h:ag}{c d:List ay}{b:hZ} (a:jQ H e c i b=(.ok d,h)) (o:c.length<=4) (p:b.rows.length<=1000/\b.kids.length<=1000):d.length<=1000:=by
 unfold jQ at a;split at a;grind
 .rename_i r;split at a
  .simp_all
  .split at a
   .simp_all
   .rename_i x k;obtain⟨y,z,C⟩:=lb (sB k).1.ok;grind[Prod.mk.inj,Except.ok.inj,DT,hc,List.length_append,List.length_take,List.length_drop]
theorem YS (D S:Nat) (G:List Int) (a38:Own) (E:Nat) (a96:1<=E) (a97:E<=8): ∀(l:Nat) (e:U) (m:ag) (f:ay) (l5 l6 l7:Own),bB e D S m->f.sum.length=32->f.cz->0<l->f.size<l->
  AC Tryz.prog 160 [dU D E,.agg (ab f l5 l6 l7),.J (ad G) a38] e λl8 b25=>YQ e b25 D S (ia E G l m f) l8:=by
 intro l
 induction l with
 |zero=>intros;omega
 |succ l ih=>
 intro e m f l5 l6 l7 L a98 b26 b61 b62;have l9:=(aW (M:=l5) (e6:=l6) (h4:=l7) a98).lt;have b27:= @U.set_set;have b63:= @rL;obtain⟨a99,b⟩: ∃a99,ia E G (l+1) m f=a99:=⟨_,rfl⟩;rw[b];rw[ia]at b;refine aN hm NT ?_;refine bp λdf b00=> ?_;refine cW λek b28 _ _=> ?_;refine hp λei O _ _ _ _=> ?_;generalize w:((e.set df _).set ek _).set ei _=n0;have n1:e.sub n0:=by subst w;exact aR
 have aH:n0 df=some (.cells [.ptr D 0,.v (.int .i64 (E))]):=by subst w;exact aR
 have bs:n0 ei=some (.cells [.v (.bool false),.J [] .nil,.J [] .nil]):=by subst w;exact aR
 clear w;have b01:=L.cC b00;have z:=L.cC O;refine cl (xF n0 D S m (L.mono n1) f l5 l6 l7 a98 b26 E a96 a97) ?_;rintro l8 a42 ⟨a43,n2⟩;have k2:=a43 _ _ bs;have b02:=U.ar n1 a43;clear b00 b28;cases a47:iC m E f with
 |none=>rw[a47]at n2 b;obtain rfl:=n2;subst b;refine aa ?_;refine bp λn3 k3=> ?_;have b03:=λb29=>U.ar b02 (U.af (Y:=b29) U.a1 k3);have b30:=U.gW k3 k2;have k4: ∀k,ee (a42.set n3 k) ei=some [.v (.bool false),.J [] .nil,.J [] .nil]:=λk=>U.aJ (by rw[U.ao _ _ b30];exact k2);refine aa ?_;exact⟨_,U.a1,(L.mono (b03 _)).set z,(Ext.of (b03 _)).set O,a9d,_,_,_,rfl⟩
 |some p=>
  rw[a47]at n2 b
  dsimp only at b
  obtain⟨n4,x,rfl,b64,b04,n5,k5,n,b05,Q,b31,b32⟩:=n2;obtain⟨b06,b33⟩:=sB a47;obtain⟨b65,b66,b67⟩:=lb b06.ok;refine aa ?_;refine bp λn3 k3=> ?_;obtain⟨k6,a48⟩: ∃k6,a42.set n3 (.cells [.v (.int .u8 (p.kind.toNat)),n4,x])=k6:=⟨_,rfl⟩;have A:a42.sub k6:=by rw[<-a48];exact U.af U.a1 k3
  have bt:k6 n3=some (.cells [.v (.int .u8 (p.kind.toNat)),n4,x]):=by rw[<-a48,U.ah]
  have b07:=fX.mono ⟨b05,Q,(bR.dR k5 a8Z rfl (b05.cells λ_ _=>de.cells)).mono n.1,bR.dR n a8Z rfl (bu.c Q),b31,b32⟩ A;have a52:=U.ae bt;refine cl (xG p b04 n5 n4 x k6 b07) ?_;rintro _ b08 ⟨P,a56,rfl,q,B⟩;clear a48 k3 a52;refine aa ?_;refine bp λF k7=> ?_;obtain⟨C,n9⟩: ∃C,b08.set F (.cells [.v (.bool (decide (p.kind=2))),P,x])=C:=⟨_,rfl⟩;rw[b27,n9];have g:b08.sub C:=by rw[<-n9];exact U.af U.a1 k7
  have cf:C F=some (.cells [.v (.bool (decide (p.kind=2))),P,x]):=by rw[<-n9,U.ah]
  clear n9;have H:=B.1;have a00:=U.ar b02 A;have X:=U.ar a00 (U.ar H g);have a01:=U.ar A (U.ar H g);have a57:=U.bF (U.ar a00 H) k7;have T:=L.cC a57;have a02:=a01 _ _ k2;have a61:=a01 _ _ (a43 _ _ aH);have a62:=U.gW k7 (H _ _ (A _ _ k2));have k8:=U.ae cf;have k4:=U.aJ a02;have a03: ∀a c d,x= .an a c d 37->a≠D/\a≠S/\a≠ei/\a≠F/\a≠df:=by
   rintro a c d rfl;obtain⟨h,a63,y⟩:=n.own;have a65:=k5.1 _ _ bs;have a68:=k5.1 _ _ aH;have I:=(L.mono (U.ar n1 k5.1)).cC h;refine⟨I.1,I.2,?_,?_,?_⟩
   .rintro rfl;rw[a65]at h;cases h
   .rintro rfl;rw[H _ _ (A _ _ y)]at k7;cases k7
   .rintro rfl;rw[a68]at h;cases h
  have a04: ∀a c d,P= .an a c d 1->a≠D/\a≠S/\a≠ei/\a≠F/\ ∀K Y Z,x= .an K Y Z 37->K≠a:=by
   rintro a c d rfl;obtain⟨h,a63,y⟩:=B.own;have I:=(L.mono a00).cC h;refine⟨I.1,I.2,?_,?_,?_⟩
   .rintro rfl;rw[A _ _ k2]at h;cases h
   grind
   .rintro K Y Z rfl rfl;obtain⟨_,b68,r⟩:=n.own;rw[A _ _ r]at h;cases h
  refine aG (λk9=> ?_) λk9=> ?_
  .rw[if_pos k9]at b;have b69:(p.rows.map Prod.fst).length=p.rows.length:=a4I _;generalize b34:p.rows.map Prod.fst=l0 at*;refine cl (DF l0 a56 P G a38 C q ((bR.dR B a8Z rfl (q.cells λ_ _=>isRow.cells)).mono g) a8Z) ?_;rintro _ C ⟨rfl,b70,rfl⟩;have b35:kx l0 G=true->eW l0 G<l0.length:=λo=>by
    grind[kx,List.getElem?_eq_some_iff]
   generalize eW l0 G=V at*;refine aa ?_;refine aG (λa05=> ?_) λa05=> ?_
   .rw[if_neg (by simp[a05])]at b;subst b;exact⟨_,U.a1,(L.mono X).set z,(Ext.of X).set O,a9d,_,_,_,rfl⟩
   .rw[if_pos a05]at b;have b71:=b35 a05;obtain⟨b36,b09,b72,_,b37⟩:=au.o4 (au.mono B g);rw[nj q]at b09;have b73:=q.len;refine cl (YB b36 C a56 P b09 V a8Z a8Z) ?_;intro a5 s M;have b10:=(q.take V).append (q.drop (V+1));rw[<-nj b10]at M;have a06: ∀i k,C i=some k->(∀a c d,P= .an a c d 1->a≠i)->s i=some k:=λi k o b38=>M.1 _ _ (by rw[b37 i b38];exact o);have a07:=a06 _ _ cf λa c d o=>(a04 a c d o).2.2.2.1;have a08:=a06 _ _ a02 λa c d o=>(a04 a c d o).2.2.1;have t:e.sub s:=λi k l1=>a06 i k (X _ _ l1) (by
     rintro a c d rfl rfl;have:=B.own.1;rw[a00 _ _ l1]at this;cases this)
    have b74:=fI M;obtain⟨W,j⟩: ∃W,(s.set F (.cells [.v (.bool true),a5,x])).set ei (.cells [.v (.bool true),a5,x])=W:=⟨_,rfl⟩;have k4: ∀k,ee (s.set F k) ei=some [.v (.bool false),.J [] .nil,.J [] .nil]:=λk=>U.aJ (by rw[U.ao _ _ a62];exact a08);have b11:=U.aJ a07;have b12:W.read ei=some [.v (.bool true),a5,x]:=U.ae (by rw[<-j,U.ah]);clear b34 k8;refine aa ?_;refine⟨W,U.a1,?_⟩;subst b;refine⟨by rw[<-j];exact((L.mono t).set T).set z,by rw[<-j];exact((Ext.of t).set a57).set O,a5,x,_,n5,rfl,iE.of b10 Q (au.emp M ?_) (au.emp n ?_) a9b a9b⟩
    .rintro a c d rfl;have l2:=M.own.1;have h:a≠F:=by grind
     have y:a≠ei:=by grind
     rw[<-j,U.ao _ _ y,U.ao _ _ h]
    .rintro a c d rfl;obtain⟨_,a63,r⟩:=n.own;have u:=a03 _ _ _ rfl;rw[<-j,U.ao _ _ u.2.2.1,U.ao _ _ u.2.2.2.1,r];exact a06 _ _ (a01 _ _ r) λK Y Z o=>a4F ((a04 K Y Z o).2.2.2.2 _ _ _ rfl)
  .rw[if_neg k9]at b;rw[decide_eq_false k9]at cf k8;have b75:=q.len;have a52:=rd (U.ar H g) bt;refine cl (DE p b04 n5 n4 x G a38 C (b07.mono (U.ar H g))) ?_;rintro _ C ⟨rfl,rfl⟩;obtain⟨-,a65,a68,I⟩:=b06.inner (b33.resolve_left k9);have a09:hx G p<p.kids.length:=by grind[xL,List.length_map]
   generalize hx G p=V at*;have a69:=a4w a09;have b13:p.kids[V]'a09∈p.kids:=a4Z _;rw[a69]at b;simp only at b;generalize p.kids[V]'a09=j9 at a69 b13 b;obtain⟨b76,b39,b14,b40,h,y,r,rfl⟩:=Q.get a69;obtain⟨_,_,_,b77,b78⟩:=I j9 b13;have b15:=au.mono n a01;obtain⟨b41,b42,b79,_,l3⟩:=b15.o4;have b16:e.sub b41:=λi k l1=>by
    rw[l3 i (by
     rintro a c d rfl rfl;have:=n.own.1;rw[k5.1 _ _ (n1 _ _ l1)]at this;cases this)]
    exact X _ _ l1
   have b17:=(l3 _ λa c d o=>(a03 a c d o).2.2.2.1).trans cf;have b18:=(l3 _ λa c d o=>(a03 a c d o).2.2.1).trans a02;have b80:=(l3 _ λa c d o=>(a03 a c d o).2.2.2.2).trans a61;have b43:=L.mono X;have a71:=U.ae a61;obtain⟨b44,b45,a73⟩:=(bR.dR b15 a8Z rfl (bu.c Q)).get V _ b39;have b19:=aW (M:=h) (e6:=y) (h4:=r) b14;change ng C b44 (ab j9 h y r)at a73;have b20:=a73.ld C U.a1 true 37 a8Z (by rw[b19.len];omega);rw[show aX true 37 (ab j9 h y r)= .agg (ab j9 h y r) by rw[aX,if_pos rfl,b19.t37]]at b20;refine aa ?_;refine cl (ih C m j9 h y r b43 b14 b40 a8Z a8Z) ?_;intro l8 s k0;generalize ia E G l m j9=a74 at k0 b;obtain⟨res,a81⟩:=a74;obtain⟨a10,t,k0⟩:=k0
   dsimp only at a10 k0 b
   have a08:=t _ _ z.1 z.2 a02;have a07:=t _ _ T.1 T.2 cf;have b21:=t _ _ b01.1 b01.2 a61;clear a71 a52 k8 b20 b45 a73;cases res with
   |error b46=>obtain⟨a83,a,a11,a13,rfl⟩:=k0;subst b;refine aa ?_;refine bp λa14 v=> ?_;have b47:=U.gW v a08;have k4: ∀k,ee (s.set a14 k) ei=some [.v (.bool false),.J [] .nil,.J [] .nil]:=λk=>U.aJ (by rw[U.ao _ _ b47];exact a08);have b22:=a10.cC v;have w:=(Ext.of X).trans t;refine aa ?_;exact⟨_,U.a1,(a10.set b22).set z,(w.set (w.no b22 v)).set O,a83,_,_,_,rfl⟩
   |ok a15=>
    obtain⟨a11,a13,b48,b49,rfl,a84⟩:=k0
    dsimp only at b
    refine aa ?_;refine bp λa14 v=> ?_;obtain⟨W,j⟩: ∃W,s.set a14 (.cells [.v (.bool a15.leaf),a11,a13])=W:=⟨_,rfl⟩;have a16:s.sub W:=by rw[<-j];exact U.af U.a1 v
    have b50:W.read a14=some [.v (.bool a15.leaf),a11,a13]:=U.ae (by rw[<-j,U.ah]);have k8:=rd a16 a07;have a71:=rd a16 b21;have b81:=U.gW v a07;have b82:=U.gW v b21;have b51:=dq.mono ((dq.of b42 (L.mono b16) Ext.refl).step t a10) a16;obtain⟨b23,M,b52,a18⟩:=b51;refine cl (YP b23 W D S a81 b52 p.kids n5 x M Q a15 a11 a13 b48 b49 (a84.mono a16) a65 a8Z V a09 E a96 a97) ?_;intro l8 N l9;clear j v b50 k8 a71;have a19:=λl4 a86 o=>YR (H:=a81) (h:=l4) (e:=E) (i:=V) (d:=a86) o a68 ⟨a84.kt,a84.iw⟩;generalize jQ a81 E p.kids V a15=a74 at b l9 a19;obtain⟨res,l4⟩:=a74;have a27: ∀(a29),bB N D S l4->Ext D S b23 N->N ei=some (.cells [.v (.bool false),.J [] .nil,.J [] .nil])/\N F=some (.cells [.v (.bool false),P,x])/\
      ∃k1:U,(N.set F (.cells [.v (.bool false),P,a29])).set ei (.cells [.v (.bool false),P,a29])=k1/\k1.read ei=some [.v (.bool false),P,a29]/\bB k1 D S l4/\Ext D S e k1:=by
     intro a29 h y;have r:=a18.trans y;exact⟨r _ _ z.1 z.2 b18,r _ _ T.1 T.2 b17,_,rfl,U.ae (U.ah _ _ _),(h.set T).set z,((((Ext.of b16).trans r).set a57).set O)⟩
    cases res with
    |error b46=>
     obtain⟨b24,b53,a83,a30,rfl,b54⟩:=l9
     dsimp only at b b24
     subst b;obtain⟨a88,a89,k1,a90,b12,a92,a94⟩:=a27 a30 b24 b53;have k4: ∀k,ee (N.set F k) ei=some [.v (.bool false),.J [] .nil,.J [] .nil]:=λk=>U.aJ (by rw[U.ao _ _ a62];exact a88);have b11:=U.aJ a89;clear a19 a27;refine aa ?_;exact⟨_,U.a1,a92,a94,a83,_,_,_,rfl⟩
    |ok a86=>
     obtain⟨b55,a30,b56,rfl,a34⟩:=l9;have b57:=a19 l4 a86 rfl
     dsimp only at b a34
     subst b;obtain⟨a88,a89,k1,a90,b12,a92,a94⟩:=a27 a30 a34.gq a34.ext;have k4: ∀k,ee (N.set F k) ei=some [.v (.bool false),.J [] .nil,.J [] .nil]:=λk=>U.aJ (by rw[U.ao _ _ a62];exact a88);have b11:=U.aJ a89;obtain⟨b83,a36,b84,a95⟩:=a34;have b54:=fI a36;clear a19 a27;refine aa ?_;have b58:=a18.trans (a95.trans (Ext.of a36.1));refine⟨_,U.a1,a92,a94,P,a30,a56,b55,rfl,iE.of q b56 (au.emp (au.mono B g) ?_) (au.emp a36 ?_) a9b b57⟩
     .rintro a c d rfl;have u:=a04 _ _ _ rfl;obtain⟨_,a63,r⟩:=B.own;rw[<-a90,U.ao _ _ u.2.2.1,U.ao _ _ u.2.2.2.1,g _ _ r];exact b58 _ _ u.1 u.2.1 (by rw[l3 _ (λK Y Z o=>u.2.2.2.2 K Y Z o)];exact g _ _ r)
     .rintro a c d rfl;have l2:=a36.own.1;have b59:=a95 _ _ T.1 T.2 (a18 _ _ T.1 T.2 b17);have b60:=a95 _ _ z.1 z.2 (a18 _ _ z.1 z.2 b18);have h:a≠F:=by rintro rfl;rw[b59]at l2;cases l2
      have y:a≠ei:=by rintro rfl;rw[b60]at l2;cases l2
      rw[<-a90,U.ao _ _ y,U.ao _ _ h]
def lk (d:Nat) (k:List Int) (h:ag) (c:ay):Except Int ay×ag:=
 if c=aA then(.error 9,h)
 else match ia d k (c.size.toNat+1) h c with
  |(.error o,b)=>(.error o,b)
  |(.ok a,b)=>
   if a.leaf=true/\a.rows.length=0 then(.ok aA,b)
   else if a.leaf=false/\a.kids.length=1 then(.ok (a.kids.headD aA),b)
   else mg b d a.leaf a.rows a.kids
def YT (V:U) (x W:Nat) (L:ag) (H:bB V x W L) (c:ay) (e f g:Own) (I:c.sum.length=32) (k3:c.cz) (o:List Int) (n:Own) (b:Nat) (k4:1<=b) (k5:b<=8) (a13:o.length=b):
  AC Tryz.prog 87 [.ptr x 0,.agg (ab c e f g),.J (ad o) n,.v (.int .i64 (b:Int))] V λK k6=>bB k6 x W (lk b o L c).2/\Ext x W V k6/\ha (lk b o L c).1 K:=by
 have a14:=(aW (M:=e) (e6:=f) (h4:=g) I).lt;have a15:=(aW (M:= .nil) (e6:= .nil) (h4:= .nil) bj).lt;have a16:=cn;have M:=λN d h k i=>cB (a:= .nil) (b:= .nil) (c:= .nil) (w:=N) (M:=d) (e6:=h) (h4:=k) bj i;have a18:=M aA .nil .nil .nil bj;generalize O:ab aA .nil .nil .nil=k7 at*;obtain⟨k8,a⟩: ∃k8,lk b o L c=k8:=⟨_,rfl⟩;rw[a];unfold lk at a;have a19:qF (b) [o]=true:=by simp[qF];omega
 refine aN hm LL ?_;refine bp λhb n2=> ?_;refine cW λQ P _ _=> ?_;refine tV λn3 a27 _ _ _ _=> ?_;generalize y:((V.set hb _).set Q _).set n3 _=E;have q:V.sub E:=by subst y;exact aR
 have bm:E hb=some (.cells (ab c e f g)):=by subst y;exact aR
 have bt:E Q=some (.cells k7):=by subst y;exact aR
 clear y;have k9:=H.mono q;have r:=H.cC P;have l0:=U.ae bm;have X:=U.aJ bt;have n4:= @U.set_set;refine lX (DB b [o] [.J (ad o) n] _ E ⟨⟨n,rfl⟩,trivial⟩ (bR.J (by simp[aS,R.cells])) a9a) ?_;refine lX (nh c e f g E I k3) ?_;refine aG (λY=> ?_) λY=> ?_
 .rw[if_pos Y]at a;subst a;exact⟨_,U.a1,k9.set r,(Ext.of q).set P,a9d,by rw[O]⟩
 rw[if_neg Y]at a;refine bp λl1 s=> ?_;have a29:=U.gW s bm;obtain⟨j,z⟩: ∃j,E.set l1 (.cells [.ptr x 0,.v (.int .i64 (b))])=j:=⟨_,rfl⟩;have t:E.sub j:=by rw[<-z];exact U.af U.a1 s
 have cf:j l1=some (.cells [.ptr x 0,.v (.int .i64 (b))]):=by rw[<-z,U.ah]
 have l2:=U.ae cf;have l0:=rd t bm;refine cl (YS x W o n b k4 k5 (c.size.toNat+1) j L c e f g (k9.mono t) I k3 a8Z a8Z) ?_;intro K Z C;generalize ia b o (c.size.toNat+1) L c=n5 at C a;obtain⟨res,n9⟩:=n5;obtain⟨u,j9,C⟩:=C
 dsimp only at u C a
 have v:=j9 _ _ r.1 r.2 (t _ _ bt);have l3:=H.cC (U.bF q s);have a00:=j9 _ _ l3.1 l3.2 cf;have y:=(Ext.of (U.ar q t)).trans j9;clear z l2 l0;cases res with
 |error a01=>obtain⟨a02,a30,w,l,rfl⟩:=C;subst a;refine aa ?_;refine bp λA S=> ?_;have l4:=u.cC S;have a03:=U.gW S v;have X: ∀l5,ee (Z.set A l5) Q=some k7:=λl5=>U.aJ (by rw[U.ao _ _ a03];exact v);refine aa ?_;exact⟨_,U.a1,(u.set l4).set r,(y.set (y.no l4 S)).set P,a02,by rw[O]⟩
 |ok T=>
  obtain⟨w,l,a04,a05,rfl,p⟩:=C
  dsimp only at a
  refine aa ?_;refine bp λA S=> ?_;obtain⟨F,B⟩: ∃F,Z.set A (.cells [.v (.bool T.leaf),w,l])=F:=⟨_,rfl⟩;have D:Z.sub F:=by rw[<-B];exact U.af U.a1 S
  have a34:F.read A=some [.v (.bool T.leaf),w,l]:=U.ae (by rw[<-B,U.ah]);have l2:=rd D a00;have X:=U.aJ (D _ _ v);have k0:=u.mono D;have k1:=y.trans (Ext.of D);have a36:=p.ot.len;have a38:=p.jP.len;have a42:=p.kt;have a43:=p.iw;rw[n4,B];clear S s n2 B;refine aG (λG=> ?_) λG=> ?_
  all_goals refine aG (λc2=> ?_) λc2=> ?_
  .rw[if_pos ⟨G,a8Z⟩]at a;subst a;exact⟨_,U.a1,k0.set r,k1.set P,bj,me,.nil,.nil,.nil,by rw[O]⟩
  rotate_left
  .obtain⟨m,l6⟩:=a6x.1 (show T.kids.length=1 by omega);rw[if_neg (by simp[G]),if_pos ⟨G,a8Z⟩,l6]at a;subst a;obtain⟨a47,a06,k2,a07,d,h,k,rfl⟩:=p.k.get (show T.kids[0]? =some m by rw[l6];rfl);obtain⟨l7,l8,l9⟩:=(p.uo.mono D).get 0 _ a06;have z:=aW (M:=d) (e6:=h) (h4:=k) k2;change ng F l7 (ab m d h k)at l9;have l8:cL 37 l (.v (.int .i64 0))=some l7:=l8;have a08:=l9.ld F U.a1 true 37 a8Z (by rw[z.len];omega);rw[show aX true 37 (ab m d h k)= .agg (ab m d h k) by rw[aX,if_pos rfl,z.t37]]at a08;have a09:=M m d h k k2;have z:=z.lt;refine aa ?_;exact⟨_,U.a1,k0.set r,k1.set P,k2,a07,d,h,k,rfl⟩
  all_goals
   rw[if_neg (by rintro⟨i,a10⟩;first|omega|simp[G]at i),if_neg (by rintro⟨i,a10⟩;first|omega|simp[G]at i),G]at a;subst a;refine cl (DD F x W n9 k0 _ T.rows a04 w T.kids a05 l b k4 k5 p.r (p.aj.mono D) a8Z p.k (p.uo.mono D) a8Z) ?_;rintro K a48 ⟨a11,n0,C⟩;have X:=U.aJ (n0 _ _ r.1 r.2 (D _ _ v));obtain⟨N,d,h,k,a01,n1,rfl⟩:=C.shape;have a52:=(aW (M:=d) (e6:=h) (h4:=k) n1).lt;have a09:=M N d h k n1;refine aa ?_;exact⟨_,U.a1,a11.set r,(k1.trans n0).set P⟩
end Go.Proofs.YtlgnfcaolejgeaaGreat
namespace Go.bx
open Go
end Go.bx
namespace Go.Proofs.YtlgnfcaolejgeaaGreat
open Go Go.bx
inductive qH where
 |row (r:List Int)
 |hd (k:ay)
def YU (h:qH) (b:R):Prop:=
 match h with
 | .row c=>c≠ []/\ ∃d,d≠ .nil/\b= .agg (.J (ad c) d::ab aA .nil .nil .nil)
 | .hd a=>a.sum.length=32/\a.cz/\ ∃k o p,b= .agg (.J [] .nil::ab a k o p)
abbrev YV (a b:Nat) (c:List R) (d:Own):List R:= [.ptr a 0,.v (.int .i64 (b:Int)),.J c d]
def DU (b:U) (c d h:Nat) (k:List qH):Prop:= ∃a o,b c=some (.cells (YV d h a o))/\az YU k a
structure DV where
 A:List qH
 B:List qH
 gone:List (List Int)
 xN:List (List Int)
 ou:Int
abbrev YW (a b:Nat) (c d:List R) (h k:Own) (o:Int):List R:= [.ptr a 0,.ptr b 0,.J c h,.J d k,.v (.int .i64 o)]
structure a4q (h k:U) (W o p z C d:Nat) (w:DV):Prop where
 sub:h.sub k
 xO:h W=none
 na:h o=none
 nb:h p=none
 a4r:o≠p
 a:DU k o z d w.A
 b:DU k p C d w.B
 w: ∃lZ fa r gu,k W=some (.cells (YW o p lZ r fa gu w.ou))/\az isRow w.gone lZ/\az isRow w.xN r/\bg h k 1 lZ fa/\bg h k 1 r gu/\ ∀x c y D,fa= .buf x c->gu= .buf y D->x≠y
end Go.Proofs.YtlgnfcaolejgeaaGreat
namespace Go.bx
open Go
end Go.bx
namespace Go.Proofs.YtlgnfcaolejgeaaGreat
open Go Go.bx
variable{w j2:ay}{e i v O b8 j0:Nat}{b9:c3}{H:ag}
def xP (a:fk H e w=some b9):po e w b9:=by
 unfold fk at a;split at a
 .cases a
 .split at a
  .cases a
  .split at a
   .rename_i b;obtain rfl:=a4v a;exact um b
   .cases a
end Go.Proofs.YtlgnfcaolejgeaaGreat
namespace Go.bx
open Go
end Go.bx
namespace Go.Proofs.YtlgnfcaolejgeaaGreat
open Go Go.bx
def wt:qH->Nat
 | .row _=>1
 | .hd a=>if 1<=a.size/\a.size<=1048576 then 3*a.size.toNat - 1 else 1
def kz (a:List qH):Nat:=(a.map wt).sum
structure Bd (w a:DV):Prop where
 wt:kz a.A+kz a.B<kz w.A+kz w.B
 rows:a.gone.length+a.xN.length+(kz a.A+kz a.B)<=w.gone.length+w.xN.length+(kz w.A+kz w.B)
 ou:w.ou<=a.ou/\a.ou+2*(kz a.A+kz a.B:Nat)<=w.ou+2*(kz w.A+kz w.B:Nat)
end Go.Proofs.YtlgnfcaolejgeaaGreat
namespace Go.bx
open Go
theorem YX (a:Nat) (c:a<18446744073709551616):a^^^9223372036854775808=(a+9223372036854775808)%18446744073709551616:=by
 have h:(9223372036854775808)=2^63:=a9d;have d:(18446744073709551616)=2^64:=a9d;rw[d]at c;rw[h,d];apply a6U;intro b;rw[a7Q,a8Q,a8q,a8i];by_cases h1:b<63
 .rw[a8a h1];grind
 .by_cases k:b=63;grind
  .have o: ¬b<64:=a8Z;have p:a.testBit b=false:=a6y (a5J c (a6j a8Z a8Z));grind
end Go.bx
namespace Go.Proofs.YtlgnfcaolejgeaaGreat
open Go Go.bx
theorem DW (a:Int):(ck a:Int)=(a+9223372036854775808)%18446744073709551616:=by grind[BitVec.ofInt,BitVec.toNat_ofInt,ck,BitVec.toNat_xor,YX]
def YY (a:Int):IntKind.u64.wrap (IntKind.u64.wrap a+9223372036854775808)=(ck a:Int):=by rw[DW,kp,kp];omega
variable{b1:Int}
theorem DX (a: -9223372036854775808<=b1) (b:b1<9223372036854775808):(ck b1:Int)=b1+9223372036854775808:=by rw[DW];omega
variable{b0:Type}
theorem uq {a b:List b0}{d:b0} (h:a.length=b.length) (k: ∀c<a.length,a.getD c d=b.getD c d):a=b:=
 a8l h λc o p=>by grind
theorem nn (a c:List Int) (o p:Own) (h:U) (D:a.length<=1000000000000):
  AC Tryz.prog 14 [.J (ad a) o,.J (ad c) p] h λr x=>x=h/\r= .v (.bool (decide (a=c))):=by
 have E:=bH (q:=a);have F:=bH (q:=c);have G:= @dJ a;have L:= @dJ c;refine aN hm JY ?_;refine aG (λy=> ?_) λy=> ?_
 .exact aP (by grind)
 refine gJ [0,1] (λb:Nat=> [(5,.v (.int .i64 b))]) (λb=>b<=a.length/\ ∀d<b,a.getD d 0=c.getD d 0) (λb=>a.length - b) 0 ⟨a8Z,λd z=>by omega⟩ aR ?_;rintro b ⟨P,k⟩ S;refine aa ?_;refine aG (λC=> ?_) λC=> ?_;rotate_left
 .exact aP (by simp[uq a8Z (λd z=>k d a8Z)])
 refine aG (λc2=> ?_) λc2=> ?_
 .exact aP (by grind)
 .exact⟨b+1,⟨a8Z,upto k c2⟩,rfl,a8Z⟩
variable{g A e0:List R}{e i v O b8 j0:Nat}
theorem az.at {b:b0->R->Prop}{a:List b0} (d:b0) (h:az b a g) (k:e<a.length): ∃c,g[e]? =some c/\b (a.getD e d) c:=h.get (by simp_all)
theorem DY (b d:List (List Int)) (k o:List R) (z C:Own) (p:U) (r:az isRow b k) (x:az isRow d o) (P:b.length<=1000000000000) (D: ∀h∈b,h.length<=1000000000000):
  AC Tryz.prog 28 [.J k z,.J o C] p λh E=>E=p/\h= .v (.bool (decide (b=d))):=by
 have S:=r.len;have T:=x.len;refine aN hm Kk ?_;refine aG (λF=> ?_) λF=> ?_
 .exact aP (by grind)
 refine gJ [0,1] (λa:Nat=> [(5,.v (.int .i64 a))]) (λa=>a<=b.length/\ ∀c<a,b.getD c []=d.getD c []) (λa=>b.length - a) 0 ⟨a8Z,λc G=>by omega⟩ aR ?_;rintro a ⟨V,y⟩ W;refine aa ?_;refine aG (λL=> ?_) λL=> ?_;rotate_left
 .exact aP (by simp[uq a8Z (λc G=>y c a8Z)])
 obtain⟨_,e,_,rfl⟩:=r.at [] (e:=a) a8Z;obtain⟨_,f,_,rfl⟩:=x.at [] (e:=a) a8Z;refine lX (nn _ _ _ _ _ (D (b.getD a []) (by grind))) ?_;refine aG (λc2=> ?_) λc2=> ?_
 .exact aP (by grind)
 .exact⟨a+1,⟨a8Z,upto y c2⟩,rfl,a8Z⟩
def ib (a:Bool):UInt8:=if a=true then 1 else 0
def sD (a:List Int):List UInt8:=(a6.cc (a.map ck) 64).map ib
theorem np (a:List Int) (b:Nat):(a6.cc (a.map ck) b).length=a.length*b:=by rw[a6.Di,a4I]
theorem YZ (c:List Int) (P:Own) (o:U) (n:c.length<=1000):
  AC Tryz.prog 345 [.J (ad c) P] o λS k=> ∃C,bg o k 1 ((sD c).map al) C/\S= .J ((sD c).map al) C:=by
 have q:=bH (q:=c);have D:= @dJ c;have T:(sD c).length=c.length*64:=by rw[sD,a4I,np]
 refine aN hm Sn ?_;refine ch [0] (λa:Nat×List UInt8×Own=> [(3,.J (a.2.1.map al) a.2.2),(4,.v (.int .i64 ((a.1) - 1)))]) (λa k=>a.1<=64/\a.2.1++(a6.cc (c.map ck) a.1).map ib=sD c/\bg o k 1 (a.2.1.map al) a.2.2) (λa=>a.1) (64,[],.nil) ⟨⟨a9d,rfl,bg.nil U.a1⟩,aR⟩ ?_;rintro⟨x,E,V⟩ s ⟨y,p,h⟩ W
 dsimp only at y p h|-
 refine aa ?_;refine aG (λF=> ?_) λF=> ?_
 .obtain⟨b,rfl⟩: ∃b,x=b+1:=⟨x - 1,a8Z⟩;have e:=congrArg List.length p;rw[a4y,T]at e;rw[a6.cc,a5y,<-a4J]at p;have f:((b+1:Nat)) - 1=(b:Int):=a8Z;have t:IntKind.u64.wrap (b)=(b):=wrap_u64 a8Z a8Z;rw[f]at F|-;refine ch [0,4] (λa:Nat×List UInt8×Own=> [(3,.J (a.2.1.map al) a.2.2),(5,.v (.int .i64 (a.1)))]) (λa k=>a.1<=c.length/\E++((c.take a.1).map λg=>ib ((ck g).testBit b))=a.2.1/\bg o k 1 (a.2.1.map al) a.2.2) (λa=>c.length - a.1) (0,E,V) ⟨⟨a9a,a9a,h⟩,aR⟩ ?_;clear h;rintro⟨r,G,i⟩ u ⟨j,z,h⟩ W
  dsimp only at j z h|-
  have v:G.length<=65000:=by grind
  refine aa ?_;refine aG (λl=> ?_) λl=> ?_
  .have w:=eQ (a:=c) (b:=0) (e:=r) a8Z;have A:=D (b:=r) a8Z;clear D;generalize c.getD r 0=d at*;have B:bn .shr (.int .u64 (ck d)) (.int .u64 (b))=some (.int .u64 ((ck d>>>b))):=by rw[rR _ _ _ a8Z a8Z];simp
   have H:bn .rem (.int .u64 ((ck d>>>b))) (.int .u64 2)=some (.int .u64 (((ck d>>>b)%2:Nat))):=by simp only[bn,fq,hF,a5A,if_false,if_true];rfl
   have I:IntKind.u8.wrap (((ck d>>>b)%2:Nat))=((ib ((ck d).testBit b)).toNat):=by
    rw[wrap_u8 a8Z a8Z];have:(ck d).testBit b=decide ((ck d>>>b)%2=1):=by simp
    rw[this,ib];rcases Nat.mod_two_eq_zero_or_one (ck d>>>b)with L|L<;>simp[L]
   have K:=YY d;refine X9 h λM m N y _=> ?_;exact⟨(r+1,_,m),⟨by simp only;omega,by grind,y⟩,⟨rfl,rfl⟩,by simp only;omega⟩
  .rw[a4x a8Z]at z;refine⟨(b,G,i),⟨by simp only;omega,by simp only[<-z,<-p,a6.fK,a6z];rfl,h⟩,⟨rfl,rfl⟩,a9a⟩
 .obtain rfl:x=0:=a8Z;grind[a6.cc,U.a1]
def Z0 (b:Nat) (c:List Bool) (a:Nat) (d:a<b):a6.iB (b - a) (c.drop (8*a))=UInt8.ofNat (a6.val ((c.drop (8*a)).take 8))::a6.iB (b -(a+1)) (c.drop (8*(a+1))):=by rw[show b - a=(b -(a+1))+1 by omega,a6.iB,a5l,show 8*(a+1)=8*a+8 by omega]
theorem xQ: ∀(b:List Bool) (a:Bool),a6.val (b++ [a])=2*a6.val b+(if a=true then 1 else 0)
 | [],a=>by simp[a6.val]
 |c::b,a=>by
  simp only[a5K,a6.val,a4y,a4C,a4G,xQ b a,a8k];split<;>omega
theorem Z1 (b:List Bool) (h:Nat) (l:b.length=8*h) (D:Own) (G:U) (O:h<=100000):
  AC Tryz.prog 344 [.J ((b.map ib).map al) D] G λm z=> ∃W,bg G z 1 ((a6.iB h b).map al) W/\m= .J ((a6.iB h b).map al) W:=by
 refine bd hm Sl a9a ?_;have e:((b.map ib).map al).length=8*h:=by simp[l]
 refine bT ?_;refine cr (λd z=> ∃(a:Nat) (x:List UInt8) (C:Own),a<=h/\x++a6.iB (h - a) (b.drop (8*a))=a6.iB h b/\x.length=a/\bg G z 1 (x.map al) C/\d 0= .J ((b.map ib).map al) D/\d 3= .J (x.map al) C/\d 4= .v (.int .i64 ((8*a:Nat))))
  (λd _=>match d 4 with| .v (.int _ L)=>8*h - L.toNat| _=>0) ⟨0,[],.nil,a8Z,rfl,rfl,bg.nil U.a1,?_⟩ ?_
 .exact mT
 rintro d n ⟨a,x,C,Q,P,X,f,p,r,o⟩;by_cases g:((8*a:Nat))+7<((8*h:Nat):Int)
 .rw[Z0 h b a a8Z]at P;refine aj (bm @p @r @o @e @g) ?_;refine cr (λd z=> ∃c:Nat,c<=8/\z=n/\d 0= .J ((b.map ib).map al) D/\d 3= .J (x.map al) C/\d 4= .v (.int .i64 ((8*a:Nat)))/\d 5= .v (.int .u8 (a6.val ((b.drop (8*a)).take c)))/\d 6= .v (.int .i64 c))
   (λd _=>match d 6 with| .v (.int _ L)=>8 - L.toNat| _=>0) ⟨0,a8Z,rfl,?_⟩ ?_
  .refine aj (aH @p @r @o) ?_;rfl
  have q:=o;clear p r o;rintro Y s ⟨c,Z,rfl,p,r,o,E,F⟩;by_cases i:(c:Int)<8
  .have S:b[8*a+c]? =some b[8*a+c]:=a4w a8Z;have j:(b.drop (8*a)).take (c+1)=(b.drop (8*a)).take c++ [b[8*a+c]]:=by rw[a5I,a7x,S];rfl
   generalize b[8*a+c]'a8Z=k at S j;have T:=a6.ni ((b.drop (8*a)).take (c+1));have V:a6.val ((b.drop (8*a)).take (c+1))<256:=a5J T (by
    have:((b.drop (8*a)).take (c+1)).length<=8:=by rw[a4z];omega
    exact a6j a8Z this)
   rw[j,xQ]at V;have t:cL 1 (.J ((b.map ib).map al) D) (.v (.int .i64 (((8*a:Nat))+(c))))=some (.bV [.v (.int .u8 ((ib k).toNat))]):=by rw[show((8*a:Nat))+(c)=((8*a+c:Nat):Int) by omega,hJ a8Z];rw[a5a,a4X,a4X,S];rfl
   have u:dn false 1 s (.bV [.v (.int .u8 ((ib k).toNat))])=some (.v (.int .u8 ((ib k).toNat))):=rfl;have j9:((ib k).toNat:Int)=if k=true then 1 else 0:=by cases k<;>rfl
   generalize k0:a6.val ((b.drop (8*a)).take c)=y at*;have k1:(if k=true then 1 else 0)<=1:=by split<;>omega
   have v:IntKind.u8.wrap (2*(y))=((2*y:Nat)):=by rw[wrap_u8 a8Z a8Z];omega
   have w:IntKind.u8.wrap (((2*y:Nat))+((ib k).toNat))=((2*y+(if k=true then 1 else 0):Nat)):=by grind[wrap_u8]
   have A:bn .mul (.int .u8 2) (.int .u8 (y))=some (.int .u8 ((2*y:Nat))):=by rw[<-v];rfl
   have B:bn .add (.int .u8 ((2*y:Nat))) (.int .u8 ((ib k).toNat))=some (.int .u8 ((2*y+(if k=true then 1 else 0):Nat))):=by rw[<-w];rfl
   refine aj (cf @p @r @o @E @F @i @t @u @A @B) ?_;grind[xQ]
  .obtain rfl:c=8:=a8Z;refine aj (bs @p @r @o @E @F @i) ?_;refine dc U.a1 (by simp[aS,R.cells]) λk2 k3 H=> ?_;refine aj (bm @p @r @o @E @F) ?_;refine dY (f.mono H.sub) (by intro k4 I;obtain⟨k5,_,rfl⟩:=a4R.1 I;rfl) (by simp[aS,R.cells]) (by grind) (by grind) λk6 k7 K=> ?_;have T:=a6.ni ((b.drop (8*a)).take 8);have V:a6.val ((b.drop (8*a)).take 8)<256:=a5J T (by
    grind)
   have M:R.v (.int .u8 (a6.val ((b.drop (8*a)).take 8)))=al (UInt8.ofNat (a6.val ((b.drop (8*a)).take 8))):=by show _=R.v (.int .u8 ((UInt8.ofNat (a6.val ((b.drop (8*a)).take 8))).toNat));rw[a5D,a6i V]
   have N:x.map al++ [R.v (.int .u8 (a6.val ((b.drop (8*a)).take 8)))]=(x++ [UInt8.ofNat (a6.val ((b.drop (8*a)).take 8))]).map al:=by rw[M,a5y];rfl
   rw[N]at K|-;refine aj (bs @p @r @o @E @F @q) ?_;grind
 .obtain rfl:a=h:=a8Z;rw[a6O,a6.iB,a5B]at P;subst P;refine aj (bm @p @r @o @e @g) ?_;exact⟨_,U.a1,C,f,rfl⟩
def codeF (a:List Int):List UInt8:=a6.iB (8*a.length) (a6.cc (a.map ck) 64)
def ur (a:List Int):(codeF a).length=8*a.length:=a6.Dn _ _
def DZ (a:List Int) (c:Own) (b:U) (d:a.length<=1000):
  AC Tryz.prog 315 [.J (ad a) c] b λh k=>b.sub k/\ ∃o,h= .J ((codeF a).map al) o:=by
 refine bd hm RP a9a ?_;refine bT ?_;refine ai (YZ a c b d) ?_;rintro _ p ⟨r,x,rfl⟩;refine bT ?_;refine ai (Z1 (a6.cc (a.map ck) 64) (8*a.length) (by rw[np];omega) r p a8Z) ?_;rintro _ C ⟨y,z,rfl⟩;refine bT ?_;exact⟨_,U.a1,U.ar x.sub z.sub,y,rfl⟩
def kA (a b:List Int):Bool:=if a.length=b.length then Op.bytesLess (codeF a) (codeF b)else decide (a.length<b.length)
def Z2 (a b:List UInt8):iX .lss (bb a) (bb b)=some (.v (.bool (Op.bytesLess a b))):=by show(bn .lss (.string ⟨a.toArray⟩) (.string ⟨b.toArray⟩)).map R.v= _;simp only[bn,pT,toList_mk,a5x]
theorem Z3 (a b:List Int) (d h:Own) (k:U):
  AC Tryz.prog 314 [.J ((codeF a).map al) d,.J ((codeF b).map al) h] k λy z=>z=k/\y= .v (.bool (kA a b)):=by
 refine bd hm RN a9a ?_;have o:((codeF a).map al).length=8*a.length:=by rw[a4I,ur]
 have p:((codeF b).map al).length=8*b.length:=by rw[a4I,ur]
 have r:mR (.J ((codeF a).map al) d)=some (bb (codeF a)):=p1;have x:mR (.J ((codeF b).map al) h)=some (bb (codeF b)):=p1;unfold kA;by_cases C:a.length=b.length
 .have c:((8*a.length:Nat))=((8*b.length:Nat):Int):=a8Z;refine aj (bs @o @p @c @r @x @Z2) ?_;exact⟨_,U.a1,rfl,by rw[if_pos C]⟩
 .have c: ¬((8*a.length:Nat))=((8*b.length:Nat):Int):=a8Z;refine aj (bm @o @p @c @r @x) ?_;refine⟨_,U.a1,rfl,?_⟩;simp_all
theorem E0 (a b:List Int) (d h:Own) (c:U) (o:a.length<=1000) (p:b.length<=1000):
  AC Tryz.prog 251 [.J (ad a) d,.J (ad b) h] c λr x=>c.sub x/\r= .v (.bool (kA a b)):=by
 refine bd hm Qw a9a ?_;refine bT ?_;refine ai (DZ a d c o) ?_;rintro _ y ⟨D,z,rfl⟩;refine bT ?_;refine ai (DZ b h y p) ?_;rintro _ k ⟨E,C,rfl⟩;refine bT ?_;refine ai (Z3 a b z C k) ?_;rintro _ k ⟨rfl,rfl⟩;refine bT ?_;grind
theorem E1: ∀ {a b:List UInt8},a.length=b.length->Op.bytesLess a b=a6.sx a b
 | [],[],_=>rfl
 |h::a,k::b,c=>by
  have d:a.length=b.length:=by simpa using c
  simp only[Op.bytesLess,a6.sx,E1 d];grind
theorem E2 (d h:List Int): ∀(b:List (Int×Int)) (a:(Int×Int)×Nat),(b.map λc=>(ck c.1,ck c.2)).foldl a6.pick ((ck a.1.1,ck a.1.2),a.2)=((ck (b.foldl gN a).1.1,ck (b.foldl gN a).1.2),(b.foldl gN a).2)
 | [],a=>rfl
 |c::b,a=>by
  simp only[a4U,a5C];rw[<-E2 d h b];grind[a6.pick,gN]
structure bL (d:Nat) (p:List Int):Prop where
 len:p.length=d
 jR:cR p
def E3 (a b:List Int):(a.map ck).zip (b.map ck)=(a.zip b).map λc=>(ck c.1,ck c.2):=by rw[List.zip_map];rfl
theorem Z4 {b:(Int×Int)×Nat}: ∀(a:List (Int×Int)),(a.foldl gN b).1=b.1\/(a.foldl gN b).1∈a:=by
 intro a
 induction a generalizing b with
 |nil=>simp
 |cons d a ih=>
  rw[a5C];rcases ih (b:=gN b d)with c|c
  .rw[c];unfold gN;split
   .simp
   .simp
  .simp_all
variable{q b6:List Int}
theorem qI (z:1<=e) (C:e<=8) (h:bL e q) (k:bL e b6):bC q b6=a6.lexB (a6.cc (q.map ck) 64) (a6.cc (b6.map ck) 64):=by
 unfold bC;have D:=h.len;have E:=k.len;rw[if_pos ⟨a8Z,a8Z,a8Z⟩];have F:q.zip b6≠ []:=by intro c;have:=congrArg List.length c;simp_all
 obtain⟨a,d,b⟩: ∃a d,q.zip b6=a::d:=by
  cases G:q.zip b6 with
  |nil=>trivial
  |cons a d=>simp
 have y:(q.zip b6).headD (0,0)=a:=by rw[b];rfl
 rw[y];have o:=a6.Dm 64 (q.map ck) (b6.map ck) a9b (λa b=>by
  obtain⟨L,P⟩:=a;have hm:=List.of_mem_zip b;obtain⟨p,_,rfl⟩:=a4R.1 hm.1;obtain⟨r,_,rfl⟩:=a4R.1 hm.2;exact a7b (oh _) (oh _)) (ck a.1,ck a.2) (by rw[E3,b];simp)
 rw[E3,E2 q b6 (q.zip b6) (a,0)]at o;rw[<-Bool.coe_iff_coe,decide_eq_true_eq];rw[<-o];simp only;have x:((q.zip b6).foldl gN (a,0)).1∈q.zip b6:=by grind[Z4]
 generalize ((q.zip b6).foldl gN (a,0)).1=c at x;obtain⟨p,r⟩:=c;have hm:=List.of_mem_zip x;have S:=h.jR p hm.1;have T:=k.jR r hm.2;grind[DX]
theorem E4 (c:1<=e) (d:e<=8) (a:bL e q) (b:bL e b6):kA q b6=bC q b6:=by have h:=a.len;have k:=b.len;rw[qI c d a b];unfold kA;rw[if_pos a8Z,E1 (by rw[ur,ur];omega)];grind[codeF,a6.Dp,np]
def E5: ∀(c:List Int),∀b∈c.zip c,b.1=b.2
 | [],b,a=>by cases a
 |d::c,b,a=>by
  rw[List.zip_cons_cons]at a;rcases a4T.1 a with rfl|a
  .rfl
  .exact E5 c b a
theorem sE (a:List Int):bC a a=false:=by
 unfold bC;split
 .have: ∀(b:List (Int×Int)) (c),(∀d∈b,d.1=d.2)->c.1.1=c.1.2->(b.foldl gN c).1.1=(b.foldl gN c).1.2:=by
   intro b
   induction b with
   |nil=>intro c _ h;exact h
   |cons d b ih=>grind[gN]
  have k:=E5 a;have o:((a.zip a).headD (0,0)).1=((a.zip a).headD (0,0)).2:=by
   cases h:a.zip a with
   |nil=>rfl
   |cons d b=>simp_all
  grind
 .rfl
theorem gv (d:1<=e) (h:e<=8):a6.Ord bC (bL e) where
 jb:=sE
 trans C D L b a p h1 k:=by rw[qI d h b a]at h1;rw[qI d h a p]at k;rw[qI d h b p];exact a6.Yn (by rw[np,np,b.len,a.len]) (by rw[np,np,a.len,p.len]) h1 k
 total C D b a h1 k:=by
  rw[qI d h b a]at h1;rw[qI d h a b]at k;have:=a6.Yo (by rw[np,np,b.len,a.len]) h1 k;have F:=a6.Yl (by simp[b.len,a.len]) 64 this (λr x=>by obtain⟨o,_,rfl⟩:=a4R.1 x;exact oh o) (λr x=>by obtain⟨o,_,rfl⟩:=a4R.1 x;exact oh o);refine a8e λy=> ?_;have c:=congrArg (λG=>G[y]?) F;simp only[a4X]at c;cases E:C[y]? with
  |none=>grind
  |some r=>rw[E]at c;cases z:D[y]? with
   |none=>rw[z]at c;cases c
   |some o=>rw[z]at c;simp only[a5x,a4H]at c;have P:=b.jR r (a4D E);have S:=a.jR o (a4D z);grind[DX]
variable{Q:List (List Int)}
def iF (a:az isRow Q g):aS 1 g:=a.cells λ_ _=>isRow.cells
theorem E6 {a:List Int->List Int->Bool} (d: ∀b<e,a (Q.getD b []) q=true) (c:e<=Q.length) (h:e<Q.length->a (Q.getD e []) q=false):a6.dL a Q q=Q.take e++ [q]++Q.drop e:=by
 rw[a4J];change _=Q.take e++q::Q.drop e
 induction Q generalizing e with
 |nil=>simp at c;subst c;rfl
 |cons k Q ih=>
  cases e with
  |zero=>grind[a6.dL,List.takeWhile_cons,List.dropWhile_cons]
  |succ e=>have p:a k q=true:=d 0 a8Z;have:=ih (λb r=>d (b+1) a8Z) (by simpa using c) (λo=>h (by simpa using o));simp_all [a6.dL]
theorem Z5 (b:List (List Int)) (L:List R) (W o:Own) (k:List Int) (y:U) (h:az isRow b L) (t:b.length<=1000) (e: ∀z∈b,z.length<=1000) (f:k.length<=1000):
  AC Tryz.prog 166 [.J L W,.J (ad k) o] y λz p=>y.sub p/\ ∃P C,z= .J P C/\az isRow (a6.dL kA b k) P:=by
 have u:=h.len;have v:=iF h;refine aN hm O5 ?_;refine ch [0,1] (λa:Nat×List R×Own=> [(5,.J a.2.1 a.2.2),(6,.v (.int .i64 (a.1)))]) (λa p=>a.1<=b.length/\(∀S<a.1,kA (b.getD S []) k=true)/\az isRow (b.take a.1) a.2.1/\bg y p 1 a.2.1 a.2.2) (λa=>b.length - a.1) (0,[],.nil) ⟨⟨a9a,λS w=>by omega,trivial,bg.nil U.a1⟩,aR⟩ ?_;rintro⟨d,A,on⟩ g ⟨D,r,c,x⟩ B
 dsimp only at D r c x|-
 have i:=c.len;rw[a4z]at i;refine aa ?_;refine aG (λj=> ?_) λj=> ?_
 .obtain⟨_,H,T,rfl⟩:=h.at [] (e:=d) a8Z;have l:=eQ (a:=b) (b:= []) (e:=d) a8Z;refine cl (E0 (b.getD d []) k T o g (e _ (by grind)) f) ?_;rintro _ I ⟨V,rfl⟩;refine aa ?_;refine aG (λc2=> ?_) λc2=> ?_
  .refine hP (x.mono V) (iF c) λ_ C p m _=> ?_;exact⟨(d+1,_,C),⟨by simp only;omega,upto r c2,by simp only[l];exact c.snoc ⟨T,rfl⟩,m⟩,⟨rfl,rfl⟩,by simp only;omega⟩
  .rw[E6 r D λ_=>c2];refine hP (x.mono V) (iF c) λ_ n q E _=> ?_;refine kr E (Cp (iF c) rfl) (iF (h.drop d)) λF s G _=> ?_;exact⟨G.sub,_,F,rfl,(c.snoc ⟨o,rfl⟩).append (h.drop d)⟩
 .rw[E6 r D λ_=>by omega];refine hP x (iF c) λ_ n q E _=> ?_;refine kr E (Cp (iF c) rfl) (iF (h.drop d)) λF s G _=> ?_;exact⟨G.sub,_,F,rfl,(c.snoc ⟨o,rfl⟩).append (h.drop d)⟩
def hf (a:Nat):List Nat:=(List.range (a6.bU a)).map λb=>a/a6.bU a+if b<a%a6.bU a then 1 else 0
def iG (a:List Nat):List R:=a.map λ(b:Nat)=>R.v (.int .i64 (b:Int))
def xR {a:Nat}:a6.bU a<=a:=by unfold a6.bU;omega
def uu {a:List Nat}:(iG a).length=a.length:=by simp[iG]
def E7 {a:List Nat}:aS 1 (iG a):=λc b=>by obtain⟨_,_,rfl⟩:=a4R.1 b;rfl
def uv {a:Nat}:(hf a).length=a6.bU a:=by simp[hf]
def xS {a b:Nat} (c:b<a6.bU a):(hf a).getD b 0=a/a6.bU a+if b<a%a6.bU a then 1 else 0:=by simp[hf,c]
def E8 (a:Nat) (g:a<=1000) (o:U):
  AC Tryz.prog 253 [.v (.int .i64 (a:Int))] o λG d=>o.sub d/\ ∃L,G= .J (iG (hf a)) L:=by
 have P:(a:Int).tdiv 4=((a/4:Nat)):=rfl;have x:a6.bU a=if 4*(a/4)<a then a/4+1 else a/4:=by unfold a6.bU;split<;>omega
 refine aN hm QA ?_;refine o3 [0] (λ_:Unit=> [(3,.v (.int .i64 (a6.bU a)))]) (λ_ d=>d=o) (λh=> ?_) (λh=> ?_) ?_
 .have h:=of_decide_eq_true h;rw[if_pos a8Z]at x;have b:((a/4:Nat))+1=(a6.bU a:Int):=a8Z;exact aR
 .have h:=of_decide_eq_false h;rw[if_neg a8Z]at x;have b:((a/4:Nat))=(a6.bU a:Int):=a8Z;exact aR
 rintro _ o rfl S;have i:iG []= []:=rfl;clear x P;have j:= @xR a;have T:= @uv a;have E:= @xS a;refine aa ?_;refine ch [0,3] (λc:Nat×Own=> [(4,.J (iG ((hf a).take c.1)) c.2),(5,.v (.int .i64 (c.1)))]) (λc d=>c.1<=a6.bU a/\bg o d 1 (iG ((hf a).take c.1)) c.2) (λc=>a6.bU a - c.1) (0,.nil) ⟨⟨a9a,bg.nil U.a1⟩,aR⟩ ?_;rintro⟨k,V⟩ l ⟨W,p⟩ S
 dsimp only at W p|-
 have m:=a7t a (a6.bU a);have n:(a:Int).tdiv (a6.bU a:Int)=((a/a6.bU a:Nat)):=rfl;have q:(a:Int).tmod (a6.bU a:Int)=((a%a6.bU a:Nat)):=rfl;refine aa ?_;refine aG (λh=> ?_) λh=> ?_
 .have F:=E (b:=k) a8Z;have y:=eQ (a:=hf a) (b:=0) (e:=k) a8Z;rw[F]at y;have z: ∀r:Nat,(if k<a%a6.bU a then 1 else 0)=r->iG ((hf a).take k)++ [R.v (.int .i64 ((a/a6.bU a+r:Nat)))]=iG ((hf a).take (k+1)):=λr b=>by
   rw[y,b,iG,iG,a5y];rfl
  have e:=z 0;have f:=z 1;clear E F y z T;generalize a/a6.bU a=r at*;generalize a%a6.bU a=s at*;generalize hf a=t at*;refine aG (λc2=> ?_) λc2=> ?_
  .have b:=f (if_pos a8Z);refine hP p E7 (λ_ C d D _=> ?_) (P:=by rw[uu,a4z];omega);exact⟨(k+1,C),⟨by simp only;omega,b▸D⟩,⟨by simp only[<-b];rfl,rfl⟩,by simp only;omega⟩
  .have b:=e (if_neg a8Z);refine hP p E7 (λ_ C d D _=> ?_) (P:=by rw[uu,a4z];omega);exact⟨(k+1,C),⟨by simp only;omega,b▸D⟩,⟨by simp only[<-b];rfl,rfl⟩,by simp only;omega⟩
 .rw[a4x a8Z]at p|-;exact⟨p.sub,V,rfl⟩
end Go.Proofs.YtlgnfcaolejgeaaGreat
