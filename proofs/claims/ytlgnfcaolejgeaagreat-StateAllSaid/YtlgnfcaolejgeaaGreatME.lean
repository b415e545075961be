import Derived.Test.YtlgnfcaolejgeaaGreatMD
import Derived.Test.YtlgnfcaolejgeaaGreatMC
set_option linter.all false
namespace Go.a6
variable{b0:Type}
def eU:Nat->List b0->List (List b0)
 |0,_=> []
 |b+1,a=>a.take (a.length/(b+1)+if 0<a.length%(b+1)then 1 else 0)::eU b (a.drop (a.length/(b+1)+if 0<a.length%(b+1)then 1 else 0))
def bU (a:Nat):Nat:=(a+3)/4
def chunks (a:List b0):List (List b0):=eU (bU a.length) a
theorem Du: ∀(a:Nat) (b:List b0),eU a b=(List.range a).map λh=>(b.drop (h*(b.length/a)+min h (b.length%a))).take (b.length/a+if h<b.length%a then 1 else 0)
 |0,b=>rfl
 |a+1,b=>by
  have y:=a7E b.length (a+1);have z:=a6L b.length (a9g a);simp only[eU];generalize C:b.length/(a+1)=d at*;generalize D:b.length%(a+1)=c at*;rw[Du a,a8J,a5f,a6K];congr 1
  .simp
  .by_cases p:a=0
   .subst p;simp
   have k:(b.drop (d+if 0<c then 1 else 0)).length=d*a+(c - if 0<c then 1 else 0):=by grind
   have o:c -(if 0<c then 1 else 0)<a:=by split<;>omega
   have r:(b.drop (d+if 0<c then 1 else 0)).length/a=d:=by rw[k,a9f,Nat.mul_add_div a9k,Nat.div_eq_of_lt o];rfl
   have x:(b.drop (d+if 0<c then 1 else 0)).length%a=c - if 0<c then 1 else 0:=by rw[k,a9f,Nat.mul_add_mod,a6s o]
   rw[r,x];refine a6l λh E=> ?_;simp only[Function.comp,a5w];grind
def Dv: ∀(a:Nat) (b:List b0),(0<a\/b= [])->(eU a b).flatten=b
 |0,b,c=>by rcases c with c|c;(·omega);(·subst c;rfl)
 |a+1,b,_=>by
  simp only[eU,a6v];rw[Dv a,a5p];by_cases d:a=0
  .right;subst d;simp
  .left;omega
def chunks_flatten (a:List b0):(chunks a).flatten=a:=Dv _ _ (by
 cases a with
 |nil=>simp
 |cons b a=>left;simp only[bU,a4M];omega)
theorem pq {a:List b0} (b:1<=a.length) (c:a.length<=4):chunks a= [a]:=by
 have:bU a.length=1:=by unfold bU;omega
 simp[chunks,this,eU,Nat.mod_one]
theorem sD {a:List b0} (b:a.length=5):chunks a= [a.take 3,a.drop 3]:=by simp_all [bU,chunks,eU,a4I]
abbrev Row:=List Int
structure xB where
 rows:List Row
structure xC (a:Type) where
 kids:List a
def T:Nat->Type
 |0=>xB
 |a+1=>xC (T a)
def leaf (a:List Row):T 0:=xB.mk a
variable{e i v O b9 j1:Nat}
def node (a:List (T e)):T (e+1):=xC.mk a
def rows (a:T 0):List Row:=xB.rows a
def kids {a:Nat} (b:T (a+1)):List (T a):=xC.kids b
variable{j0:List Row}
theorem qI:rows (leaf j0)=j0:=rfl
theorem fk {a:List (T e)}:kids (node a)=a:=rfl
def hX (a:T 0): ∃b,a=leaf b:=⟨rows a,rfl⟩
def gp (a:T (e+1)): ∃b,a=node b:=⟨kids a,rfl⟩
def len: {b:Nat}->T b->Nat
 |0,a=>(rows a).length
 | _+1,a=>(kids a).length
def bg:(a:Nat)->T a->List Row
 |0,b=>rows b
 |a+1,b=>(kids b).flatMap (bg a)
theorem hY:len (leaf j0)=j0.length:=rfl
def dD {a:List (T e)}:len (node a)=a.length:=rfl
theorem kz:bg 0 (leaf j0)=j0:=rfl
theorem fZ {a:List (T e)}:bg (e+1) (node a)=a.flatMap (bg e):=rfl
theorem Dw (a:List Row):((chunks a).map leaf).flatMap (bg 0)=a:=by
 conv=>rhs;rw[<-chunks_flatten a]
 rw[a7T,a6K];congr 1;exact List.map_id _
theorem Dx (a:List (T e)):((chunks a).map node).flatMap (bg (e+1))=a.flatMap (bg e):=by
 conv=>rhs;rw[<-chunks_flatten a]
 induction chunks a with
 |nil=>rfl
 |cons b c ih=>rw[a5f,a5j,ih,a6v,a5x];rfl
def WF:(b:Nat)->T b->Prop
 |0,a=>2<=len a/\len a<=4
 |b+1,a=>2<=len a/\len a<=4/\ ∀c∈kids a,WF b c
def ll:(a:Nat)->T a->Prop
 |0,_=>True
 |a+1,b=> ∀c∈kids b,WF a c
theorem gZ {a:T e}:WF e a↔2<=len a/\len a<=4/\ll e a:=by
 cases e with
 |zero=>simp[WF,ll]
 |succ e=>rfl
def jP (b:Nat) (a:T b):Prop:=1<=len a/\len a<=4/\ll b a/\(0<b->2<=len a)
theorem jP.of {a:T e} (b:WF e a):jP e a:=by have:=gZ.1 b;exact⟨a9k,this.2.1,this.2.2,λ_=>this.1⟩
def xD: ∀ {a:T e},1<=len a->ll e a->bg e a≠ []:=by
 induction e with
 |zero=>intro a c _ b;obtain⟨d,rfl⟩:=hX a;rw[kz]at b;subst b;trivial
 |succ e ih=>
  intro a c h b;obtain⟨d,rfl⟩:=gp a;rw[dD]at c
  match d,c with
  |k::d,_=>rw[fZ,a5j]at b;have o:=gZ.1 (h k a6B);exact ih a9k o.2.2 (List.append_eq_nil_iff.1 b).1
def cQ (a:Nat) (b:T a):Row:=(bg a b).headD []
section
variable (lt:Row->Row->Bool)
structure Ord (ok:Row->Prop):Prop where
 ja: ∀p,lt p p=false
 trans: ∀p a r,ok p->ok a->ok r->lt p a=true->lt a r=true->lt p r=true
 total: ∀p a,ok p->ok a->lt p a=false->lt a p=false->p=a
def cT (a:Row):List Row->Nat
 | _::b::c=>if lt a b then 0 else cT a (b::c)+1
 | _=>0
def dL (c:List Row) (a:Row):List Row:=c.takeWhile (λb=>lt b a)++a::c.dropWhile (λb=>lt b a)
def eV (c:Row):(b:Nat)->T b->List (T b)
 |0,a=>(chunks (dL lt (rows a) c)).map leaf
 |b+1,a=>
  match(kids a)[cT lt c ((kids a).map (cQ b))]? with
  |some d=>(chunks ((kids a).take (cT lt c ((kids a).map (cQ b)))++eV c b d++(kids a).drop (cT lt c ((kids a).map (cQ b))+1))).map node
  |none=> []
def kA: {a:Nat}->T a->T a->List (T a)
 |0,b,c=>(chunks (rows b++rows c)).map leaf
 | _+1,b,c=>(chunks (kids b++kids c)).map node
def ln (b:List (T e)) (a:Nat) (c:T e):List (T e):=
 if 2<=len c then b.set a c
 else match b[if a=0 then 1 else a - 1]? with
  |some d=>b.take (a - 1)++(if a=0 then kA c d else kA d c)++b.drop (a - 1+2)
  |none=> []
def cL (c:Row):(b:Nat)->T b->T b
 |0,a=>leaf ((rows a).filter λd=>decide (d≠c))
 |b+1,a=>
  match(kids a)[cT lt c ((kids a).map (cQ b))]? with
  |some h=>node (ln (kids a) (cT lt c ((kids a).map (cQ b))) (cL c b h))
  |none=>a
end
theorem Dy (c:2<=j0.length) (d:j0.length<=5):(∀b∈(chunks j0).map leaf,WF 0 b)/\1<=(chunks j0).length/\(chunks j0).length<=2/\(j0.length<=4->(chunks j0).length=1):=by
 by_cases a:j0.length=5
 .rw[sD a];simp[WF,a,hY]
 .rw[pq a9k a9k];simp only[a5f,a6u,a5b,forall_eq,a6e,WF,hY];grind
theorem Dz {a:List (T e)} (d:2<=a.length) (h:a.length<=5) (k: ∀b∈a,WF e b):(∀b∈(chunks a).map node,WF (e+1) b)/\1<=(chunks a).length/\(chunks a).length<=2/\(a.length<=4->(chunks a).length=1):=by
 by_cases c:a.length=5
 .rw[sD c];simp only[a5f,a6u,a5g,a6h,or_false,forall_eq_or_imp,forall_eq,a4M,a4R,WF,dD,fk];grind
 .rw[pq a9k a9k];simp only[a5f,a6u,a5b,forall_eq,a6e,WF,dD,fk];grind
variable{h4:Row}
section
variable {lt:Row->Row->Bool}{ok:Row->Prop}
abbrev jb (a:Row->Row->Bool) (b:List Row):Prop:=b.Pairwise λc d=>a c d=true
theorem xE {a:List Row} (c: ∀b∈j0,lt b h4=true):dL lt (j0++a) h4=j0++dL lt a h4:=by unfold dL;simp_all
theorem Ys {b:List Row} (h: ∀a∈j0,lt a h4=false):dL lt (b++j0) h4=dL lt b h4++j0:=by
 have c:j0.takeWhile (λa=>lt a h4)= []/\j0.dropWhile (λa=>lt a h4)=j0:=by
  cases j0 with
  |nil=>trivial
  |cons k j0=>simp_all
 induction b with
 |nil=>simp[dL,c.1,c.2]
 |cons d b ih=>unfold dL at ih|-;by_cases bW:lt d h4=true;simp_all;simp_all
theorem sE {a:Row}:h4∈dL lt j0 a↔h4=a\/h4∈j0:=by grind[dL,List.takeWhile_append_dropWhile]
theorem ot:(dL lt j0 h4).length=j0.length+1:=by unfold dL;have:=congrArg List.length (a5z (p:=λa=>lt a h4) (l:=j0));grind
def Yt (p:Ord lt ok) (r:jb lt j0) (h: ∀c∈j0,ok c) (x:ok h4) (y:h4∉j0):jb lt (dL lt j0 h4):=by
 induction j0 with
 |nil=>simp[dL]
 |cons a j0 ih=>
  have k:=a5r.1 r;have ih:=ih k.2 (λc b=>h c (by simp[b])) (λo=>y (by simp[o]));by_cases bW:lt a h4=true
  .have d:dL lt (a::j0) h4=a::dL lt j0 h4:=xE (j0:= [a]) (by simpa using bW);rw[d];refine a5r.2 ⟨λc b=> ?_,ih⟩;rcases sE.1 b with rfl|b
   .exact bW
   .exact k.1 c b
  .have d:dL lt (a::j0) h4=h4::a::j0:=by simp[dL,bW]
   rw[d];have z:lt h4 a=true:=by
    cases o:lt h4 a with
    |true=>rfl
    |false=>exact absurd (p.total h4 a x (h a a9l) o (by simpa using bW)) (λd=>y (by simp[d]))
   refine a5r.2 ⟨λc b=> ?_,r⟩;rcases a5g.1 b with rfl|b
   .exact z
   .exact p.trans h4 a c x (h a a9l) (h c (by simp[b])) z (k.1 c b)
theorem DA (p:Ord lt ok) {d:Row} (r:ok d): ∀(h:List (List Row)),h≠ []->(∀D∈h,D≠ [])->jb lt h.flatten->(∀a∈h.flatten,ok a)->
  cT lt d (h.map (·.headD []))<h.length/\(∀a∈(h.take (cT lt d (h.map (·.headD [])))).flatten,lt a d=true)/\(∀a∈(h.drop (cT lt d (h.map (·.headD []))+1)).flatten,lt d a=true)
 | [],V,_,_,_=>absurd rfl V
 | [W],_,_,_,_=>by simp[cT]
 |W::k::x,_,e,m,y=>by
  simp only[a5f,cT];obtain⟨c,z,C⟩: ∃c z,k=c::z:=by
   cases C:k with
   |nil=>simp_all
   |cons c z=>simp
  have G:k.headD []=c:=by rw[C];rfl
  have E:=y c (by simp[C]);have F:jb lt (k::x).flatten:=by grind
  rw[G];by_cases o:lt d c=true
  .rw[if_pos o];refine⟨a9l,a9l,λa b=> ?_⟩;simp only[a6m,a6N]at b;have f:(k::x).flatten=c::(z++x.flatten):=by rw[C];rfl
   rw[f]at b F;rcases a5g.1 b with rfl|b
   .exact o
   .refine p.trans d c a r E (y a ?_) o ((a5r.1 F).1 a b);simp_all
  .rw[if_neg o];have ih:=DA p r (k::x) a9l (λD L=>e D (by simp at L|-;exact .inr L)) F (λa b=>y a (by simp_all));simp only[a5f,G]at ih;obtain⟨g,i,j⟩:=ih;refine⟨by simp at g|-;omega,λa b=> ?_,λa b=>j a (by trivial)⟩;simp only[a7D,a6v,a4X]at b;rcases b with b|b
   .
    have P:lt a c=true:=by grind
    by_cases S:c=d
    .rw[<-S];exact P
    .have l:=y a (by simp[b]);cases T:lt c d with
     |true=>exact p.trans a c d l E r P T
     |false=>exact absurd (p.total c d E r T (by simpa using o)) S
   .exact i a b
end
end Go.a6
set_option maxRecDepth 100000
namespace Go.Proofs.YtlgnfcaolejgeaaGreat
open Go Go.bz
variable{b5:FuncId}{g A e1:List R}
theorem Yu (a:List (List Int)) (z:List R) (k:R) (d:U) (C:az isRow a z) (D:bR d 1 k z) (u:a.length<=1000000000000) {h:List Int->Bool} (E:gX isRow d b5 g A h):
  AC Tryz.prog 258 [k,.bG b5 g A] d λe o=>o=d/\ ∃F:Int,e= .v (.int .i64 F)/\decide (0<=F)=a.any h:=by
 refine bc hm QN a9l ?_;have f:=C.len;have i:=D.len;rw[f]at i;refine aa ?_;refine cu (λc o=> ∃b:Nat,b<=a.length/\o=d/\c 0=k/\c 1= .bG b5 g A/\c 7= .v (.int .i64 a.length)/\c 8= .v (.int .i64 b)/\(a.take b).any h=false)
  (λc _=>match c 8 with| .v (.int _ j)=>a.length - j.toNat| _=>0) ⟨0,a9k,rfl,?_⟩ ?_
 .refine aa ?_;simp
 rintro c p ⟨b,v,rfl,G,L,P,S,T⟩;by_cases V:(b)<(a.length:Int)
 .have r:a[b]? =some a[b]:=a4H a9k;have l:a.take (b+1)=a.take b++ [a[b]]:=by rw[a5T,r];rfl
  have m:a[b]'a9k∈a:=a5k _;generalize a[b]'a9k=W at r l m;obtain⟨x,n,y⟩:=C.get r;obtain⟨q,w,s⟩:=D.get b x n;have B:dn false 1 p q=some x:=by have t:=s.ld p U.a1 false 1 a9k (by rw[isRow.cells y];omega);rw[t];obtain⟨H,rfl⟩:=y;rfl
  refine aa ?_;refine fE E.1 (E.2 W x _ y U.a1) ?_;rintro _ p ⟨rfl,rfl⟩;cases I:h W with
  |true=>refine aj (bm @G @L @P @S @V) ?_;refine⟨_,U.a1,rfl,_,rfl,?_⟩;grind
  |false=>refine aa ?_;grind
 .obtain rfl:b=a.length:=a9k;refine aj (bm @G @L @P @S @V) ?_;rw[a5d]at T;exact⟨_,U.a1,rfl,_,rfl,by rw[T];simp⟩
def DB (b:List (List Int)) (c:List R) (d:R) (a:U) (k:az isRow b c) (o:bR a 1 d c) (p:b.length<=1000000000000) {h:List Int->Bool} (r:gX isRow a b5 g A h):
  AC Tryz.prog 180 [d,.bG b5 g A] a λx y=>y=a/\x= .v (.bool (b.any h)):=by
 refine bc hm OE a9l ?_;refine aa ?_;refine ai (Yu b c d a k o p r) ?_;rintro _ C ⟨rfl,D,rfl,z⟩;refine bT ?_;exact⟨_,U.a1,rfl,by rw[z]⟩
def Yv (c:Int) (b:List Int) (d:R) (r:isRow b d) (a:U) (h:Nat) (k:a.read h=some [.v (.int .i64 c)]):
  AC Tryz.prog 232 [d,.ptr h 0] a λx y=>y=a/\x= .v (.bool (!decide ((b.length:Int)=c))):=by
 obtain⟨z,rfl⟩:=r;refine bc hm PZ a9l ?_;have o:=bH (q:=b);by_cases p:(b.length)=c
 .refine aj (aH @o @k @p) ?_;exact⟨a,U.a1,by simp[]⟩
 .refine aj (aH @o @k @p) ?_;exact⟨a,U.a1,by simp[]⟩
def qJ (a:Int) (b:List (List Int)):Bool:=decide (1<=a)&&decide (a<=8)&&b.all λc=>decide ((c.length:Int)=a)
theorem DC (a:Int) (c:List (List Int)) (d:List R) (h:R) (b:U) (x:az isRow c d) (y:bR b 1 h d) (z:c.length<=1000000000000):
  AC Tryz.prog 153 [.v (.int .i64 a),h] b λC k=>k=b/\C= .v (.bool (qJ a c)):=by
 refine bc hm NI a9l ?_;refine aa ?_;refine aN λo D=> ?_;have p:=U.ae (Y:= .cells [.v (.int .i64 a)]) (U.a1) D;have c2:(b.set o (.cells [.v (.int .i64 a)])) o=some (.cells [.v (.int .i64 a)]):=U.ah _ _ _;unfold qJ;by_cases h1:1<=a
 .by_cases r:a<=8
  .refine aa ?_;refine ai (DB c d h _ x (y.mono p) z (b5:=232) ⟨by rfl,λE F k G L=>Yv a E F G k o (U.af (L _ _ c2))⟩) ?_;rintro _ _ ⟨rfl,rfl⟩;refine bT ?_;refine⟨b,p,rfl,?_⟩;rw[List.any_eq_not_all_not];simp[h1,r]
  .simp -dsimp -implicitDefEqProofs (disch:=first|omega|assumption|(simp only[bk,Nat.reduceAdd];try omega)) only[go_sem,simprocAttr,-List.reduceReplicate,h1,r];simp_all
 .refine aj @h1 ?_;simp_all
theorem xF (a:Nat) (h:a<=1000000000000) (b:U):AC Tryz.prog 246 [.v (.int .i64 (a:Int))] b λc d=>d=b/\c= .v (.int .i64 (a6.bU a:Int)):=by refine bc hm Qq a9l ?_;refine bT ?_;refine⟨b,U.a1,rfl,?_⟩;grind[a6.bU,wrap_i64]
def dv (a:ag) (c:Nat) (b:c3):Except Int ay×ag:=
 match fG c b with
 |none=>(.error 1,a)
 |some d=>(.ok d,eK a (cY b))
def dS (a:List (List Int)):c3:=⟨2,a.map λb=>(b,true),[]⟩
def en (a:List ay):c3:=⟨3,[],a⟩
abbrev dT (a b:Nat):R:= .agg [.ptr a 0,.v (.int .i64 (b:Int))]
def ha (d:Except Int ay) (b:R):Prop:=
 match d with
 | .error c=>c≠0/\b= .aL [.agg (ab aA .nil .nil .nil),.v (.int .i64 c)]
 | .ok a=>a.sum.length=32/\a.cC/\ ∃h k o,b= .aL [.agg (ab a h k o),.v (.int .i64 0)]
variable{n b3:R}
theorem ha.shape {c:Except Int ay} (d:ha c n): ∃a h k o b,a.sum.length=32/\n= .aL [.agg (ab a h k o),.v (.int .i64 b)]:=by
 cases c with
 |error b=>exact⟨aA,_,_,_,b,bj,d.2⟩
 |ok a=>obtain⟨p,_,h,k,o,r⟩:=d;grind
variable{f t e4:U}{e i v O b9 j1:Nat}{H:ag}
def bB.cE (a:bB f i v H) (b:f e=none):e≠i/\e≠v:=by
 refine⟨?_,?_⟩
 .rintro rfl;obtain⟨_,_,a⟩:=a.at_;rw[a]at b;cases b
 .rintro rfl;obtain⟨_,⟨_,_,a,_⟩,_⟩:=a.mp;rw[a]at b;cases b
theorem bB.set {d:U}{a b c:Nat}{h:ag}{ob:br} (o:bB d a b h) (k:c≠a/\c≠b):bB (d.set c ob) a b h:=o.other (U.ao _ _ (a4Q k.1)) (U.ao _ _ (a4Q k.2))
def xG (d:U) (h k:Nat) (o:ag) (C:bB d h k o) (c:c3) (D E:List R) (r x:R) (b:Nat) (G:1<=b) (y:b<=8) (L:fY d c r x D E):
  AC Tryz.prog 233 [.ptr h 0,gN c r x,.v (.int .i64 (b:Int))] d λF z=>bB z h k (dv o b c).2/\Ext h k d z/\ha (dv o b c).1 F:=by
 refine(Yi d h k o C c D E r x b G y L).mono λF z a=> ?_;unfold dv;cases p:fG b c with
 |none=>rw[p]at a;exact⟨C.mono a.1,Ext.of a.1,a9o,a.2⟩
 |some P=>rw[p]at a;exact⟨a.1,a.2.1,(uj y p).1,Dh y p,a.2.2⟩
theorem xH (D:U) (E e:Nat) (f:ag) (X:bB D E e f) (c:List (List Int)) (h:List R) (q:R) (x:Nat) (n2:1<=x) (n3:x<=8) (g:az isRow c h) (Y:bR D 1 q h) (n4:c.length<=100000):
  AC Tryz.prog 155 [dT E x,q] D λr y=>bB y E e (dv f x (dS c)).2/\Ext E e D y/\ha (dv f x (dS c)).1 r:=by
 refine bc hm NM a9l ?_;have s: ∀Z,(R.agg Z).cells=Z:=λ_=>rfl;have n5: ∀a b k o j9 T:R,putAt [a,b,k] 0 [o,j9,T]= [o,j9,T]:=λ_ _ _ _ _ _=>rfl;have n9: ∀a b k o:R,putAt [a,b,k] 0 [o]= [o,b,k]:=λ_ _ _ _=>rfl;have a00: ∀a b k o:R,putAt [a,b,k] 1 [o]= [a,o,k]:=λ_ _ _ _=>rfl;have k0: ∀a b k:R,[a,b,k].length=3:=λ_ _ _=>rfl;have a43: ∀a b k:R,List.take 3 [a,b,k]= [a,b,k]:=λ_ _ _=>rfl;have k1:=Y.len;rw[g.len]at k1;refine aa ?_;refine aN λS a01=> ?_;refine aa ?_;refine aN λP i=> ?_;refine aa ?_;refine aN λF V=> ?_;have t:S≠P:=by rintro rfl;rw[U.ah]at i;cases i
 have a02:P≠F:=by rintro rfl;rw[U.ah]at V;cases V
 have a03:S≠F:=by rintro rfl;rw[U.ao _ _ t,U.ah]at V;cases V
 have u:D P=none:=by rw[U.ao _ _ (a4Q t)]at i;exact i
 have a47:D F=none:=by simp_all [U.ao,a4Q]
 obtain⟨G,W⟩: ∃G:U,G=(D.set S (.cells [.ptr E 0,.v (.int .i64 (x))])).set P (.cells (ab aA .nil .nil .nil)):=⟨_,rfl⟩;have k2:D.sub G:=by rw[W];exact U.ae (U.ae U.a1 a01) u
 have c2:G S=some (.cells [.ptr E 0,.v (.int .i64 (x))]):=by rw[W,U.ao _ _ t,U.ah]
 have aJ:G P=some (.cells (ab aA .nil .nil .nil)):=by rw[W,U.ah]
 have k3:G F=none:=by rw[W];exact V
 have a04:=(aW (M:= .nil) (e6:= .nil) (h5:= .nil) bj).len;refine aj (c6 @s @cq @n9 @k0 @n5 @U.set_set @k1) ?_;rw[<-W]
 let p:R->R:=λa=> .agg [a,.v (.bool true)];have k4: ∀d,az df ((c.take d).map λr=>(r,true)) ((h.take d).map p):=by
  have: ∀(c) (h),az isRow c h->az df (c.map λr=>(r,true)) (h.map p):=by
   intro c
   induction c with
   |nil=>intro h z;cases h with
    |nil=>trivial
    |cons=>exact z.elim
   |cons o c ih=>intro h z;cases h with
    |nil=>exact z.elim
    |cons a h=>exact⟨by obtain⟨L,rfl⟩:=z.1;exact⟨L,rfl⟩,ih h z.2⟩
  exact λd=>this _ _ (g.take d)
 have a48: ∀d,((h.take d).map p).length<=100000:=λd=>by rw[a4T,a4K,g.len];omega
 have k5: ∀ {y:U}{k c L},bf (G.set F (.cells k)) y 2 c L->y S=some (.cells [.ptr E 0,.v (.int .i64 (x))])/\y P=some (.cells (ab aA .nil .nil .nil))/\y F=some (.cells k):=λz=>⟨z.sub _ _ (by rw[U.ao _ _ a03];exact c2),z.sub _ _ (by rw[U.ao _ _ a02];exact aJ),z.sub _ _ (U.ah _ _ _)⟩;refine cu (λC y=> ∃(d:Nat) (L:Own),d<=c.length/\bf (G.set F (.cells [.v (.int .u8 2),.J ((h.take d).map p) L,.J [] .nil])) y 2 ((h.take d).map p) L/\
   C 2= .ptr S 0/\C 4= .ptr P 0/\C 6= .ptr F 0/\C 10=q/\C 11= .v (.int .i64 c.length)/\C 12= .v (.int .i64 d))
  (λC _=>match C 12 with| .v (.int _ a05)=>c.length - a05.toNat| _=>0) ⟨0,.nil,a9k,?_,?_⟩ ?_
 .rw[show(h.take 0).map p= []from rfl,U.set_set];exact bf.nil U.a1
 .exact aS
 rintro C v ⟨d,L,a52,j,l,m,n,w,A,B⟩;obtain⟨a06,a07,k6⟩:=k5 j;by_cases k7:(d:Int)<c.length
 .have k8:c[d]? =some c[d]:=a4H a9k;generalize c[d]'a9k=r at k8;obtain⟨a,k9,H,rfl⟩:=g.get k8;obtain⟨a56,a08,a09⟩:=(Y.mono (U.au k2 (U.au (U.ae U.a1 k3) j.sub))).get d _ k9;have l0:=a09.ld v U.a1 false 1 a9k (by simp[R.cells]);have a10:aX false 1 (R.J (ad r) H).cells= .J (ad r) H:=rfl;rw[a10]at l0;have a11:(h.take (d+1)).map p=(h.take d).map p++ [.agg [.J (ad r) H,.v (.bool true)]]:=by rw[a5T,k9,a5J];rfl
  have a13: ∀a b k:R,aX false 1 ([a,b,k].drop 1)=b:=λ_ _ _=>rfl;have a14: ∀a b o:R,putAt [a,b] 0 [o]= [o,b]:=λ_ _ _=>rfl;have a15: ∀a b o:R,putAt [a,b] 1 [o]= [a,o]:=λ_ _ _=>rfl;have a16: ∀a b:R,[a,b].length=2:=λ_ _=>rfl;have a18: ∀b:Bool,(R.v (.bool b)).cells= [.v (.bool b)]:=λ_=>rfl;have l1: ∀(T) (l2),(R.J T l2).cells= [.J T l2]:=λ_ _=>rfl;refine aj (lW @l @m @n @w @A @B @k7 @a08 @l0 (U.af k6) @a13 @a14 @a15 @a16 @a18 @l1) ?_;refine dd U.a1 (by simp[aT,R.cells]) λa57 a61 a19=> ?_;refine aa ?_;refine ea (j.mono a19.sub) ((k4 d).cells λ_ _=>df.cells) (by simp[aT,R.cells]) (by grind) (by grind) λl3 a62 I=> ?_;rw[<-a11]at I|-;obtain⟨a63,l4,a27⟩:=k5 I;refine aj (cf @l @m @n @w @A @B (U.aI a27) @l1 @a00 @k0) ?_;have l5:=I.set (ob:= .cells [.v (.int .u8 2),.J ((h.take (d+1)).map p) l3,.J [] .nil]) (U.ah _ _ _);rw[U.set_set]at l5;exact⟨⟨d+1,l3,a9k,l5,a9l⟩,a9k⟩
 .obtain rfl:d=c.length:=a9k;have a29: ∀a b k,aX true 3 [a,b,k]= .agg [a,b,k]:=λ_ _ _=>rfl;have K:=k4 c.length;rw[a5d]at K;have l6:=U.au k2 (U.au (U.ae U.a1 k3) j.sub);have a30:fY v (dS c) (.J ((h.take c.length).map p) L) (.J [] .nil) ((h.take c.length).map p) []:=by
   refine⟨K,trivial,bR.J (K.cells λ_ _=>df.cells),bR.J (by simp[aT]),?_,?_⟩
   .simp only[dS,a4T];exact n4
   .simp[dS]
  refine aj (gj @l @m @n @w @A @B @k7 (U.af a06) (U.af k6) @a29 @s) ?_;have a34:=xG v E e f (X.mono l6) (dS c) _ _ _ _ x n2 n3 a30;refine ai a34 ?_;rintro r a65 ⟨a36,l7,l8⟩;have M:=X.cE u;have l4:=l7 _ _ M.1 M.2 a07;obtain⟨l9,N,O,Q,a68,n0,rfl⟩:=l8.shape;have n1:=aW (M:=N) (e6:=O) (h5:=Q) n0;have a38:=n1.len;have a42:putAt (ab aA .nil .nil .nil) 0 (ab l9 N O Q)=ab l9 N O Q:=cD bj n0;refine aj (cW @l @m @n @s (U.aI l4) @a42 @a38 @a04 n1.t37) ?_;exact⟨_,U.a1,a36.set M,((Ext.of l6).trans l7).set u,l8⟩
def DD (a:U) (d x:Nat) (y:ag) (W:bB a d x y) (h:List ay) (D:List R) (E:R) (b:Nat) (v:1<=b) (w:b<=8) (A:az bu h D) (e:bR a 37 E D) (B:h.length<=100000):
  AC Tryz.prog 243 [dT d b,E] a λf g=>bB g d x (dv y b (en h)).2/\Ext d x a g/\ha (dv y b (en h)).1 f:=by
 refine bc hm Qk a9l ?_;have i: ∀j,(R.agg j).cells=j:=λ_=>rfl;have H: ∀k c o r:R,putAt [k,c,o] 0 [r]= [r,c,o]:=λ_ _ _ _=>rfl;have I: ∀k c o r:R,putAt [k,c,o] 2 [r]= [k,c,r]:=λ_ _ _ _=>rfl;have K: ∀k c o:R,[k,c,o].length=3:=λ_ _ _=>rfl;have M:=(aW (M:= .nil) (e6:= .nil) (h5:= .nil) bj).len;refine aa ?_;refine aN λl N=> ?_;refine aa ?_;refine aN λz C=> ?_;have m:l≠z:=by rintro rfl;rw[U.ah]at C;cases C
 have F:a z=none:=by rw[U.ao _ _ (a4Q m)]at C;exact C
 obtain⟨p,G⟩: ∃p:U,p=(a.set l (.cells [.ptr d 0,.v (.int .i64 (b))])).set z (.cells (ab aA .nil .nil .nil)):=⟨_,rfl⟩;have L:a.sub p:=by rw[G];exact U.ae (U.ae U.a1 N) F
 have aJ:p z=some (.cells (ab aA .nil .nil .nil)):=by rw[G,U.ah]
 refine aj (cW @i @cq @H @I @K e.one @U.ao @m @U.ah) ?_;rw[<-G];have O:fY p (en h) (.J [] .nil) E [] D:=⟨trivial,A,bR.J (by simp[aT]),e.mono L,by simp[en],B⟩;refine ai (xG p d x y (W.mono L) (en h) _ _ _ _ b v w O) ?_;rintro f j9 ⟨Q,n,q⟩;have P:=W.cE F;have X:=n _ _ P.1 P.2 aJ;obtain⟨s,S,T,V,k0,t,rfl⟩:=q.shape;have u:=aW (M:=S) (e6:=T) (h5:=V) t;have Y:=u.len;have Z:putAt (ab aA .nil .nil .nil) 0 (ab s S T V)=ab s S T V:=cD bj t;refine aj (bs @i (U.aI X) @Z @Y @M u.t37) ?_;exact⟨_,U.a1,Q.set P,((Ext.of L).trans n).set F,q⟩
def xI (a:c3) (w A:List R) (p z:R) (r:U) (P:fY r a p z w A):
  AC Tryz.prog 236 [gN a p z] r λc V=> ∃d,az isRow (a.rows.map Prod.fst) d/\ar r V 1 (flat d) c:=by
 refine bc hm Q7 a9l ?_;have S: ∀g,(R.agg g).cells=g:=λ_=>rfl;have B:=P.gY;have k5:=P.ky;refine aj @S ?_;refine aN λT H=> ?_;obtain⟨x,W⟩: ∃x:U,x=r.set T (.cells [.v (.int .u8 (a.kind.toNat)),p,z]):=⟨_,rfl⟩;have i:r.sub x:=by rw[W];exact U.ae U.a1 H
 have k6:x T=some (.cells [.v (.int .u8 (a.kind.toNat)),p,z]):=by rw[W,U.ah]
 have I:=P.lP.mono i;refine aj (aH @S @U.ah @B) ?_;rw[show r.set T (.cells (gN a p z).cells)=x from W.symm];refine cu (λk V=> ∃(b:Nat) (c:R) (d:List R),b<=a.rows.length/\az isRow ((a.rows.take b).map Prod.fst) d/\ar x V 1 (flat d) c/\k 1= .ptr T 0/\k 3=c/\k 7=p/\k 8= .v (.int .i64 a.rows.length)/\k 9= .v (.int .i64 b))
  (λk _=>match k 9 with| .v (.int _ K)=>a.rows.length - K.toNat| _=>0) ⟨0,.J [] .nil,[],a9k,trivial,ar.nil U.a1,?_⟩ ?_
 .exact mW
 rintro k M ⟨b,c,d,k7,C,e,D,E,F,G,L⟩;by_cases j:(b:Int)<a.rows.length
 .have f:a.rows[b]? =some a.rows[b]:=a4H a9k;have l:a.rows.take (b+1)=a.rows.take b++ [a.rows[b]]:=by rw[a5T,f];rfl
  generalize a.rows[b]'a9k=h at f l;obtain⟨y,N,o,rfl⟩:=P.rows.get f;obtain⟨k8,O,Q⟩:=I.get b _ N;have m:=Q.ld M e.1 true 2 a9k (by simp[R.cells]);have X:aX true 2 (R.agg [.J (ad h.1) o,.v (.bool h.2)]).cells= .agg [.J (ad h.1) o,.v (.bool h.2)]:=rfl;have n: ∀c y q s:R,putAt [c,y] 0 [q,s]= [q,s]:=λ_ _ _ _=>rfl;have t: ∀c y:R,[c,y].length=2:=λ_ _=>rfl;have Y: ∀c y:R,aX false 1 [c,y]=c:=λ_ _=>rfl;rw[X]at m;refine aj (gj @D @E @F @G @L @j @O @m @S @n @t) ?_;refine aN λk9 Z=> ?_;have j9:=ar.mono e (U.ae (Y:= .cells [.J (ad h.1) o,.v (.bool h.2)]) U.a1 Z);refine aj (gj @D @E @F @G @L @S @n @t @Y @U.set_set @U.ah) ?_;refine eP (by simp[aT,R.cells]) a9l λl0 k0=> ?_;have k1:=ar.mono j9 (U.ae (Y:= .cells (flat [R.J (ad h.1) o])) U.a1 k0);have k2:az isRow ((a.rows.take b).map Prod.fst++ [h.1]) (d++ [R.J (ad h.1) o]):=C.snoc ⟨_,rfl⟩;have u:(flat d).length=b:=by rw[dc (C.cells λ_ _=>isRow.cells),C.len];simp;omega
  refine aj (bm @D @E @F @G @L) ?_;refine ff k1 a9k (oo rfl) rfl (by rw[u];simp[flat,R.cells];omega) (by rw[u];simp[flat,R.cells];omega) λk3 l1 v=> ?_;have k4:flat d++flat [R.J (ad h.1) o]=flat (d++ [R.J (ad h.1) o]):=by simp[flat]
  rw[k4]at v;refine aj (bm @D @E @F @G @L) ?_;refine⟨⟨b+1,k3,_,a9k,?_,v,a9l⟩,a9k⟩;rw[l,a5J];exact k2
 .obtain rfl:b=a.rows.length:=a9k;rw[a5d]at C;refine aj (bs @D @E @F @G @L @j) ?_;exact⟨_,U.a1,d,C,e.base i⟩
def iC (b:ag) (c:Nat) (d:ay):Option c3:=
 match fj b c d with
 |none=>none
 |some a=>if a.kind=2\/a.kind=3 then some a else none
theorem xJ (b:U) (T I:Nat) (V:ag) (k1:bB b T I V) (o:ay) (W e f:Own) (K:o.sum.length=32) (k2:o.cC) (p:Nat) (k3:1<=p) (k4:p<=8):
  AC Tryz.prog 234 [dT T p,.agg (ab o W e f)] b λq y=>b.sub y/\match iC V p o with
   |none=>q= .aL [xy,.v (.int .i64 21)]
   |some a=> ∃d h,q= .aL [gN a d h,.v (.int .i64 0)]/\hv b y a d h:=by
 refine bc hm Q3 a9l ?_;have c: ∀M,(R.agg M).cells=M:=λ_=>rfl;have z: ∀C D E d h N:R,putAt [C,D,E] 0 [d,h,N]= [d,h,N]:=λ_ _ _ _ _ _=>rfl;have L: ∀C D E,aX true 3 [C,D,E]= .agg [C,D,E]:=λ_ _ _=>rfl;have F: ∀C D E:R,[C,D,E].length=3:=λ_ _ _=>rfl;have O:=aW (M:=W) (e6:=e) (h5:=f) K;have s:=O.len;refine aj @c ?_;refine aN λt l3=> ?_;refine aj (c2 @c @s) ?_;refine aN λg i=> ?_;have u:t≠g:=by rintro rfl;rw[U.ah]at i;cases i
 have l4:b g=none:=by rw[U.ao _ _ (a4Q u)]at i;exact i
 refine aj (c2 @c @s) ?_;refine aN λk j=> ?_;have k5:g≠k:=by rintro rfl;rw[U.ah]at j;cases j
 have k6:t≠k:=by rintro rfl;rw[U.ao _ _ u,U.ah]at j;cases j
 have k7:b k=none:=by simp_all [U.ao,a4Q]
 obtain⟨P,Q⟩: ∃P:U,P=((b.set t (.cells [.ptr T 0,.v (.int .i64 (p))])).set g (.cells (ab o W e f))).set k (.cells [.v (.int .u8 0),.J [] .nil,.J [] .nil]):=⟨_,rfl⟩;have v:b.sub P:=by grind[U.ae,U.a1]
 have aJ:P k=some (.cells [.v (.int .u8 0),.J [] .nil,.J [] .nil]):=by rw[Q,U.ah]
 have l: ∀(y) (X),b.sub y->b.sub (y.set k X):=λy X w=>U.ae w k7;refine aj (bt @c @s @U.ao @u @k6 @k5 @U.ah O.t37) ?_;rw[<-Q];refine ai (xz P T I V (k1.mono v) o W e f K k2 p k3 k4) ?_;rintro q l5 ⟨Y,m⟩;have k8:=U.au v Y;have G:=Y _ _ aJ;unfold iC;cases Z:fj V p o with
 |none=>
  rw[Z]at m;obtain rfl:=m;refine aj (aH @c @z @F) ?_;refine aN λA r=> ?_;have x:k≠A:=by rintro rfl;rw[G]at r;cases r
  have S:=a4Q x;refine aj (cW @c @z @F @L @U.set_set @U.ao @x @S (U.aI G)) ?_;grind[U.a1,U.au,U.ae]
 |some a=>
  rw[Z]at m;obtain⟨d,h,rfl,k9⟩:=m;simp -dsimp -implicitDefEqProofs (disch:=first|omega|assumption|(simp only[bk,Nat.reduceAdd];try omega)) only[go_sem,simprocAttr,-List.reduceReplicate,c,z,F,L];refine aN λA r=> ?_;have x:k≠A:=by rintro rfl;rw[G]at r;cases r
  have S:=a4Q x;have l0:=(k9.mono (U.ae (Y:= .cells [.v (.int .u8 (a.kind.toNat)),d,h]) U.a1 r)).set (ob:= .cells [.v (.int .u8 (a.kind.toNat)),d,h]) aJ;have l6:=l0.base (l _ _ v);have B:=U.au k8 (U.ae (Y:= .cells [.v (.int .u8 (a.kind.toNat)),d,h]) U.a1 r);have l1:=iA a.kind 2 a9k;have l2:=iA a.kind 3 a9k;simp only[a7K]at l1 l2;simp only;by_cases j9:a.kind=2
  .have n:((a.kind.toNat:Int)=2)=True:=by rw[j9];simp
   refine aj (gj @c @z @F @L @U.set_set @U.ah @U.ao @x @S (U.aI G) @n) ?_;refine⟨_,U.a1,l _ _ B,?_⟩;grind
  .have n: ¬(a.kind.toNat:Int)=2:=λw=>j9 (by simp_all);by_cases k0:a.kind=3
   .have H:((a.kind.toNat:Int)=3)=True:=by rw[k0];simp
    refine aj (gU @c @z @F @L @U.set_set @U.ah @U.ao @x @S (U.aI G) @n @H) ?_;refine⟨_,U.a1,l _ _ B,?_⟩;grind
   .have H: ¬(a.kind.toNat:Int)=3:=λw=>k0 (by simp_all);refine aj (gU @c @z @F @L @U.set_set @U.ah @U.ao @x @S (U.aI G) @n @H) ?_;refine⟨_,U.a1,l _ _ B,?_⟩;simp_all
def xK (k:c3) (L P:List R) (d h:R) (o:U) (S:fY o k d h L P):
  AC Tryz.prog 248 [gN k d h] o λi j=> ∃a r,i= .agg [.v (.bool (decide (k.kind=2))),a,h]/\az isRow (k.rows.map Prod.fst) r/\ar o j 1 (flat r) a:=by
 refine bc hm Qt a9l ?_;have x: ∀T,(R.agg T).cells=T:=λ_=>rfl;have V: ∀a b c,aX true 3 [a,b,c]= .agg [a,b,c]:=λ_ _ _=>rfl;have l: ∀a b c:R,[a,b,c].length=3:=λ_ _ _=>rfl;have m: ∀a b c d h W:R,putAt [a,b,c] 0 [d,h,W]= [d,h,W]:=λ_ _ _ _ _ _=>rfl;have n: ∀a b c d:R,putAt [a,b,c] 0 [d]= [d,b,c]:=λ_ _ _ _=>rfl;have q: ∀a b c d:R,putAt [a,b,c] 1 [d]= [a,d,c]:=λ_ _ _ _=>rfl;have s: ∀a b c d:R,putAt [a,b,c] 2 [d]= [a,b,d]:=λ_ _ _ _=>rfl;have t: ∀b:Bool,(R.v (.bool b)).cells= [.v (.bool b)]:=λ_=>rfl;have u: ∀a b c:R,aX false 1 ([a,b,c].drop 2)=c:=λ_ _ _=>rfl;have e: ∀a b c:R,List.take 3 [a,b,c]= [a,b,c]:=λ_ _ _=>rfl;refine aj @x ?_;refine aN λE v=> ?_;refine aj @x ?_;refine aN λy z=> ?_;have F:E≠y:=by rintro rfl;rw[U.ah]at z;cases z
 have f:o y=none:=by rw[U.ao _ _ (a4Q F)]at z;exact z
 obtain⟨p,C⟩: ∃p:U,p=(o.set E (.cells [.v (.int .u8 (k.kind.toNat)),d,h])).set y (.cells [.v (.bool false),.J [] .nil,.J [] .nil]):=⟨_,rfl⟩;have g:o.sub p:=by rw[C];exact U.ae (U.ae U.a1 v) f
 have w:p E=some (.cells [.v (.int .u8 (k.kind.toNat)),d,h]):=by rw[C,U.ao _ _ F,U.ah]
 have c2:p y=some (.cells [.v (.bool false),.J [] .nil,.J [] .nil]):=by rw[C,U.ah]
 have G:=iA k.kind 2 a9k;simp only[a7K]at G;have A:UInt8.ofNat 2=2:=rfl;rw[A]at G;refine aj (bs @x @U.ao @F @U.ah @V @e) ?_;rw[<-C];refine ai (xI k L P d h p (S.mono g)) ?_;rintro a N ⟨r,B,D⟩;have H:=D.1 _ _ w;have I:=D.1 _ _ c2;have K:=fH D;have M:=S.gT.one;refine aj (p5 @x (U.af H) (U.aI I) @V @e @u @t @K @M @n @q @s @l @m @G) ?_;refine⟨_,U.a1,a,r,rfl,B,?_⟩;exact(jO D c2).base (U.ae g f)
theorem Yw (h:R) (c d:R) (a b:Nat) (E:c.cells= [c]) (F:d.cells= [d]) (G:h.cells= [h]) (r:fb c=some (.v (.int .i64 (a:Int)))) (x:fb d=some (.v (.int .i64 (b:Int)))) (L:a<=1000000000000) (P:b<=1000000000000) (k:U):
  AC Tryz.prog 312 [.agg [h,c,d]] k λy z=>z=k/\y= .v (.bool (decide (a+b<2))):=by
 refine bc hm RM a9l ?_;have o: ∀p,(R.agg p).cells=p:=λ_=>rfl;refine aj @o ?_;refine aN λS C=> ?_;refine aj (aH @o @r @x) ?_;have D:decide ((a:Int)+b<2)=decide (a+b<2):=by grind
 exact⟨k,U.ae U.a1 C,rfl,by rw[D]⟩
def mg (a:ag) (b:Nat) (c:Bool) (d:List (List Int)) (h:List ay):Except Int ay×ag:=if c=true then dv a b (dS d)else dv a b (en h)
theorem DE (a:U) (b d:Nat) (E:ag) (s:bB a b d E) (F:Bool) (G:List (List Int)) (t:List R) (g:R) (L:List ay) (u:List R) (i:R) (c:Nat) (K:1<=c) (M:c<=8) (k3:az isRow G t) (k4:bR a 1 g t) (k5:G.length<=100000) (k6:az bu L u) (k7:bR a 37 i u) (k8:L.length<=100000):
  AC Tryz.prog 161 [dT b c,.agg [.v (.bool F),g,i]] a λy N=>bB N b d (mg E c F G L).2/\Ext b d a N/\ha (mg E c F G L).1 y:=by
 refine bc hm NY a9l ?_;have h: ∀O,(R.agg O).cells=O:=λ_=>rfl;have Q:=(aW (M:= .nil) (e6:= .nil) (h5:= .nil) bj).len;have X: ∀P S:R,List.take 2 [P,S]= [P,S]:=λ_ _=>rfl;have Y: ∀P S,aX true 2 [P,S]= .agg [P,S]:=λ_ _=>rfl;refine aj @h ?_;refine aN λv l1=> ?_;refine aj @h ?_;refine aN λj l=> ?_;have m:v≠j:=by rintro rfl;rw[U.ah]at l;cases l
 have l2:a j=none:=by rw[U.ao _ _ (a4Q m)]at l;exact l
 refine aj (c2 @h @cq) ?_;refine aN λz n=> ?_;have Z:j≠z:=by rintro rfl;rw[U.ah]at n;cases n
 have j9:v≠z:=by rintro rfl;rw[U.ao _ _ m,U.ah]at n;cases n
 have w:a z=none:=by simp_all [U.ao,a4Q]
 obtain⟨k,A⟩: ∃k:U,k=((a.set v (.cells [.ptr b 0,.v (.int .i64 (c))])).set j (.cells [.v (.bool F),g,i])).set z (.cells (ab aA .nil .nil .nil)):=⟨_,rfl⟩;have C:a.sub k:=by grind[U.ae,U.a1]
 have aJ:k z=some (.cells (ab aA .nil .nil .nil)):=by rw[A,U.ah]
 have q:=s.cE w;unfold mg;have k0: ∀(k1) (k2) (y) (D),bB D b d k2->Ext b d k D->ha k1 y->D z=some (.cells (ab aA .nil .nil .nil)):=λk1 k2 y D _ k9 _=>k9 _ _ q.1 q.2 aJ;cases F with
 |true=>refine aj (cW @h @cq @U.ao @m @j9 @Z @U.ah @X @Y) ?_;rw[<-A];refine ai (xH k b d E (s.mono C) G t g c K M k3 (k4.mono C) k5) ?_;rintro y D ⟨T,V,o⟩;have B:=k0 _ _ _ _ T V o;obtain⟨W,p,r,x,l0,e,rfl⟩:=o.shape;have f:=aW (M:=p) (e6:=r) (h5:=x) e;have H:=f.len;have I:putAt (ab aA .nil .nil .nil) 0 (ab W p r x)=ab W p r x:=cD bj e;refine aj (bs @h (U.aI B) @I @H @Q f.t37) ?_;exact⟨_,U.a1,T.set q,((Ext.of C).trans V).set w,o⟩
 |false=>refine aj (cW @h @cq @U.ao @m @j9 @Z @U.ah @X @Y) ?_;rw[<-A];refine ai (DD k b d E (s.mono C) L u i c K M k6 (k7.mono C) k8) ?_;rintro y D ⟨T,V,o⟩;have B:=k0 _ _ _ _ T V o;obtain⟨W,p,r,x,l0,e,rfl⟩:=o.shape;have f:=aW (M:=p) (e6:=r) (h5:=x) e;have H:=f.len;have I:putAt (ab aA .nil .nil .nil) 0 (ab W p r x)=ab W p r x:=cD bj e;refine aj (bs @h (U.aI B) @I @H @Q f.t37) ?_;exact⟨_,U.a1,T.set q,((Ext.of C).trans V).set w,o⟩
abbrev hx (a:List Int) (b:c3):Nat:=a6.cT bC a (b.kids.map (·.key))
variable{Q:List (List Int)}{q b6:List Int}
def Yx {a:List Int}:a6.cT bC q (a::b6::Q)=if bC q b6=true then 0 else a6.cT bC q (b6::Q)+1:=rfl
theorem DF (a:c3) (B H:List R) (r x:R) (c:List Int) (P:Own) (d:U) (z:fY d a r x B H):
  AC Tryz.prog 240 [gN a r x,.J (ad c) P] d λI S=>S=d/\I= .v (.int .i64 (hx c a:Int)):=by
 refine bc hm Qf a9l ?_;have V: ∀W,(R.agg W).cells=W:=λ_=>rfl;have e:=z.uf;have k4:=z.iw;refine aj @V ?_;refine aN λC K=> ?_;obtain⟨h,T⟩: ∃h:U,h=d.set C (.cells [.v (.int .u8 (a.kind.toNat)),r,x]):=⟨_,rfl⟩;have M:d.sub h:=by rw[T];exact U.ae U.a1 K
 have c2:h C=some (.cells [.v (.int .u8 (a.kind.toNat)),r,x]):=by rw[T,U.ah]
 have N:=z.gT.mono M;refine aj @V ?_;rw[show d.set C (.cells (gN a r x).cells)=h from T.symm];refine cu (λk S=> ∃b:Nat,S=h/\hx c a=b+a6.cT bC c ((a.kids.map (·.key)).drop b)/\b<=a.kids.length/\k 1= .J (ad c) P/\k 2= .ptr C 0/\k 5= .v (.int .i64 b))
  (λk _=>match k 5 with| .v (.int _ O)=>a.kids.length - O.toNat| _=>0) ⟨0,rfl,a9l,a9k,?_⟩ ?_
 .exact mW
 rintro k f ⟨b,rfl,y,k5,D,E,F⟩;have g: ∀i Q j:R,aX false 1 ([i,Q,j].drop 2)=j:=λ_ _ _=>rfl;by_cases l:(b:Int)+1<a.kids.length
 .have m:a.kids[b+1]? =some a.kids[b+1]:=a4H a9k;have n:(a.kids.map (·.key)).drop b=(a.kids[b]'a9k).key::(a.kids[b+1]'a9k).key::(a.kids.map (·.key)).drop (b+2):=by grind[List.drop_eq_getElem_cons,List.length_map]
  have q:(a.kids.map (·.key)).drop (b+1)=(a.kids[b+1]'a9k).key::(a.kids.map (·.key)).drop (b+2):=by rw[a5e (by rw[a4T];omega)];simp
  rw[n,Yx,<-q]at y;clear n q;generalize a.kids[b+1]'a9k=o at m y;obtain⟨i,X,Y,k6,G,L,p,rfl⟩:=z.kids.get m;obtain⟨k7,s,t⟩:=N.get (b+1) _ X;have u:=aW (M:=G) (e6:=L) (h5:=p) Y;have Z:(R.agg (ab o G L p)).cells=ab o G L p:=rfl;rw[Z]at t;obtain⟨k8,j9,v⟩:=t.kS f U.a1 36 false 1 a9k (by rw[u.len];omega);have k0:aX false 1 ((ab o G L p).drop 36)= .J (ad o.key) p:=by rw[u.d36];rfl
  rw[k0]at v;have k1:((b+1:Nat))=(b:Int)+1:=a9k;rw[k1]at s;refine aj (cf @D @E @F (U.af c2) @g @e @l @s @j9 @v) ?_;refine ai (xA c o.key P p _) ?_;rintro _ f ⟨rfl,rfl⟩;cases w:bC c o.key with
  |true=>rw[if_pos w]at y;refine aj (aJ @D @E @F @a5B) ?_;simp_all
  |false=>rw[if_neg (by simp[w])]at y;refine aj (aJ @D @E @F @a5C) ?_;grind
 .have k2:a6.cT bC c ((a.kids.map (·.key)).drop b)=0:=by
   have A:((a.kids.map (·.key)).drop b).length<=1:=by grind
   generalize (a.kids.map (·.key)).drop b=k3 at A
   match k3,A with
   | [],_=>rfl
   | [_],_=>rfl
  rw[k2]at y;refine aj (c6 @D @E @F (U.af c2) @g @e @l) ?_;simp_all
def mh (c:List (List Int)) (d:List Int):Nat->Nat->Nat->Nat
 |0,a,_=>a
 |h+1,a,b=>if a<b then(match c[(a+b)/2]? with
  |some k=>if mf k d<0 then mh c d h ((a+b)/2+1) b else mh c d h a ((a+b)/2)
  |none=>a)else a
def eW (a:List (List Int)) (b:List Int):Nat:=mh a b a.length 0 a.length
def kB (a:List (List Int)) (b:List Int):Bool:=match a[eW a b]? with|some c=>decide (mf c b=0)|none=>false
theorem DG (b:List (List Int)) (n:List R) (V:R) (d:List Int) (L:Own) (P:U) (W:az isRow b n) (e:bR P 1 V n) (N:b.length<=1000000000000):
  AC Tryz.prog 235 [V,.J (ad d) L,.bG 237 [] []] P λh f=>f=P/\eW b d<=b.length/\h= .aL [.v (.int .i64 (eW b d:Int)),.v (.bool (kB b d))]:=by
 refine bc hm Q5 a9l ?_;have q:=e.len;rw[W.len]at q;refine aj @q ?_;have s:gf Tryz.prog 237=true:=by rfl
 refine cu (λk f=> ∃(r a c:Nat),f=P/\eW b d=mh b d r a c/\a<=c/\c<=b.length/\c - a<=r/\k 0=V/\k 1= .J (ad d) L/\k 2= .bG 237 [] []/\k 8= .v (.int .i64 b.length)/\k 9= .v (.int .i64 a)/\k 10= .v (.int .i64 c))
  (λk _=>match k 9,k 10 with| .v (.int _ a),.v (.int _ c)=>(c - a).toNat| _,_=>0) ⟨b.length,0,b.length,rfl,rfl,a9k,a9k,a9k,?_⟩ ?_
 .exact mW
 rintro k S ⟨r,a,c,rfl,x,O,Q,X,y,z,C,D,E,F⟩;by_cases g:(a)<(c:Int)
 .obtain⟨Y,rfl⟩: ∃v,r=v+1:=⟨r - 1,a9k⟩;have w:a<c:=a9k;have t:(a+c)/2<b.length:=a9k;have o:=a4H t;rw[mh,if_pos w,o]at x;simp only at x;generalize b[(a+c)/2]'t=h at o x;obtain⟨A,i,p,rfl⟩:=W.get o;obtain⟨B,j,l⟩:=e.get _ _ i;have G:=l.ld S U.a1 false 1 a9k (by simp[R.cells]);have m:aX false 1 (R.J (ad h) p).cells= .J (ad h) p:=rfl;rw[m]at G;have H:IntKind.u64.wrap ((a)+c)=((a+c:Nat)):=by rw[wrap_u64 a9k a9k];omega
  have I:bn .shr (.int .u64 ((a+c:Nat))) (.int .u64 1)=some (.int .u64 (((a+c)/2:Nat))):=by rw[rX _ _ _ a9k a9k];rfl
  have K:IntKind.i64.wrap (((a+c)/2:Nat))=(((a+c)/2:Nat)):=wrap_i64 a9k a9k;generalize Z:(a+c)/2=j9 at*;refine aj (gU @y @z @C @D @E @F @g @H @I @K @j @G) ?_;refine fE s (Dt h d p L _) ?_;rintro _ S ⟨rfl,rfl⟩;by_cases T:mf h d<0
  .rw[if_pos T]at x;refine aj (c6 @y @z @C @D @E @F @T) ?_;grind
  .rw[if_neg T]at x;refine aj (c6 @y @z @C @D @E @F @T) ?_;grind
 .obtain rfl:a=c:=a9k;have M:eW b d=a:=by rw[x];cases r<;>simp[mh]
  unfold kB;rw[M];by_cases u:(a:Int)<b.length
  .have o:b[a]? =some b[a]:=a4H a9k;rw[o];generalize b[a]'a9k=h at o;obtain⟨A,i,p,rfl⟩:=W.get o;obtain⟨B,j,l⟩:=e.get _ _ i;have G:=l.ld S U.a1 false 1 a9k (by simp[R.cells]);have m:aX false 1 (R.J (ad h) p).cells= .J (ad h) p:=rfl;rw[m]at G;refine aj (cf @y @z @C @D @E @F @g @u @j @G) ?_;refine fE s (Dt h d p L _) ?_;rintro _ S ⟨rfl,rfl⟩;refine aj (bs @y @z @C @D @E @F) ?_;exact⟨_,U.a1,rfl,a9k⟩
  .have o:b[a]? =none:=a7t a9k;rw[o];refine aj (bt @y @z @C @D @E @F @g @u) ?_;exact⟨_,U.a1,rfl,a9k⟩
def dq (d h:U) (b c:Nat) (k:ag) (o:Nat) (p:List R) (r:R):Prop:= ∃a,ar a h o p r/\bB a b c k/\Ext b c d a
theorem dq.nil {a:U}{b c h:Nat}{d:ag} (k:bB a b c d):dq a a b c d h [] (.J [] .nil):=⟨a,ar.nil U.a1,k,Ext.refl⟩
def dq.ga (a:dq t f e i H v g n):bB f e i H:=by obtain⟨d,b,c,_⟩:=a;exact c.mono b.1
def dq.ext (a:dq f t e i H v g n):Ext e i f t:=by obtain⟨d,b,_,c⟩:=a;exact c.trans (Ext.of b.1)
theorem dq.of {s:U}{l lM:Nat} (a:ar f s e g n) (b:bB f l lM H) (c:Ext l lM t f):dq t s l lM H e g n:=⟨f,a,b,c⟩
def dq.mono {b c d:U}{h k:Nat}{o:ag}{p:Nat}{r:List R}{a:R} (x:dq b c h k o p r a) (y:c.sub d):dq b d h k o p r a:=by obtain⟨z,C,D⟩:=x;exact⟨z,C.mono y,D⟩
theorem dq.base (a:dq f e4 e i H v g n) (b:Ext e i t f):dq t e4 e i H v g n:=by obtain⟨c,d,h,k⟩:=a;exact⟨c,d,h,b.trans k⟩
theorem dq.step {r x h:U}{a b:Nat}{L y:ag}{z:Nat}{C:List R}{D:R} (P:dq r x a b L z C D) (E:Ext a b x h) (F:bB h a b y):dq r h a b y z C D:=by
 obtain⟨S,⟨T,o⟩,V,W⟩:=P;have e:=F.ne;refine⟨λc=>if c=a then h a else if c=b then h b else S c,⟨λc f d=> ?_,?_⟩,F.other a9l (by simp[a4Q e]),λc f cd ca d=> ?_⟩
 .by_cases k:c=a
  .subst k;simpa using d
  .by_cases p:c=b
   .subst p;simpa[k] using d
   .simp only[k,p,if_false]at d;exact E _ _ k p (T _ _ d)
 .rcases o with o|⟨g,i,j,l,m,n,q,s⟩
  .exact .inl o
  .have G:=V.cE n;exact .inr ⟨g,i,j,l,m,by grind,E _ _ G.1 G.2 q,s⟩
 .simp only[cd,ca,if_false];exact W _ _ cd ca d
theorem xL (k:e≠1): ∀ {a:List R},(∀c∈a,∃b,c= .agg b/\b.length=e)->ef e a.length (flat a)=a:=by
 intro a d;have o:aT e a:=λc p=>by obtain⟨b,rfl,r⟩:=d c p;exact r
 unfold ef;rw[if_neg k];refine a8p λx=> ?_;rw[a5i];by_cases aV:x<a.length
 .rw[a6W aV];have h:=a4H aV;have:=D5 o h;obtain⟨b,y,_⟩:=d _ (a5k aV);rw[h,a5I,this,y];rfl
 simp_all
theorem DH {h:List ay} (a:az bu h g): ∀b∈g,∃c,b= .agg c/\c.length=37:=by intro b k;obtain⟨o,p,rfl⟩:=a5t k;have z:=a.len;obtain⟨C,d,r⟩:=a.get (a4H (i:=o) a9k);rw[a4H p]at d;obtain rfl:=a4G d;obtain⟨x,_,D,E,F,y⟩:=r;exact⟨_,y,(aW x).len⟩
def dq.view (d:dq f t e i H v g n): ∃b a,g.length=b*v/\View t n a (.J (ef v b g) .any)/\bB a e i H/\Ext e i f a:=by obtain⟨x,h,k,o⟩:=d;obtain⟨b,a,p,c,r⟩:=View.dQ h;exact⟨b,a,p,r,k.mono c,o.trans (Ext.of c)⟩
theorem dq.um {b:List ay} (c:dq f t e i H 37 (flat g) n) (d:az bu b g): ∃a,View t n a (.J g .any)/\bB a e i H/\Ext e i f a:=by obtain⟨k,a,h,o,p⟩:=c.view;rw[dc (d.cells λ_ _=>bu.cells)]at h;grind[xL,DH]
theorem ar.um {b:List ay} (c:ar f t 37 (flat g) n) (d:az bu b g): ∃a,View t n a (.J g .any)/\f.sub a:=by obtain⟨k,a,h,o,p⟩:=View.dQ c;rw[dc (d.cells λ_ _=>bu.cells)]at h;grind[xL,DH]
theorem nn (a:az isRow Q g):flat g=g:=by
 induction Q generalizing g with
 |nil=>cases g with
  |nil=>rfl
  |cons=>exact a.elim
 |cons b Q ih=>cases g with
  |nil=>rfl
  |cons c g=>obtain⟨d,rfl⟩:=a.1;have:=ih a.2;simp only[flat,a5j]at this|-;rw[this];rfl
theorem ar.DI (b:ar f t 1 (flat g) n) (c:az isRow Q g): ∃a,View t n a (.J g .any)/\f.sub a:=by grind[View.dQ,nn,ku,List.take_of_length_le]
def eu {c:Type} (d:List c->c3) (h:Nat):ag->List (List c)->List ay->Except Int (List ay)×ag
 |a,[],acc=>(.ok acc,a)
 |a,k::gs,acc=>
  match dv a h (d k)with
  |(.error o,b)=>(.error o,b)
  |(.ok p,b)=>eu d h b gs (acc++ [p])
def Yy (d:Except Int (List ay)) (a:R):Prop:=
 match d with
 | .error b=>b≠0/\a= .aL [.J [] .nil,.v (.int .i64 b)]
 | .ok bI=> ∃c h,az bu bI c/\a= .aL [.J c h,.v (.int .i64 0)]
variable{b0:Type}
def hy (b:b0->R->Prop) (c:List b0) (d:R):Prop:= ∃a h,d= .J a h/\az b c a
theorem hy.cells {a:Type}{c:a->R->Prop}{d:List a}{b:R} (h:hy c d b):b.cells.length=1:=by obtain⟨_,_,rfl,_⟩:=h;rfl
theorem az.xM {b:b0->R->Prop}{a:List b0} (c:az b a []):a= []:=by cases a with|nil=>rfl|cons=>exact c.elim
def DJ (a:0<e) (c:i<=100000):i/e+(if 0<i%e then 1 else 0)<=i:=by
 have d:=a7E i e;by_cases b:0<i%e
 .rw[if_pos b];have:i/e<=e*(i/e):=a8K _ a;omega
 .rw[if_neg b];have:i/e<=e*(i/e):=a8K _ a;omega
theorem DK (d:List (List Int)) (a:List R) (h:Own) (c:U) (k:az isRow d a) (F:d.length<=100000):
  AC Tryz.prog 311 [.J a h] c λp r=> ∃o,bf c r 1 a o/\p= .J a o:=by
 refine mV λG=> ?_;have x:h= .nil->a= []:=λy=>by subst y;simp_all
 refine bc hm RI a9l ?_;simp -dsimp -implicitDefEqProofs (disch:=first|omega|assumption|(simp only[bk,Nat.reduceAdd];try omega)) only[go_sem,simprocAttr,-List.reduceReplicate,↓o8];refine o9 (λb=>by rw[x b]) (λb=> ?_) ?_
 .have z:a= []:=by trivial
  subst z;refine aj @a5C ?_;exact⟨c,U.a1,.nil,bf.nil U.a1,rfl⟩
 .refine bT ?_;refine dd U.a1 (by simp[aT]) λL P C=> ?_;refine bT ?_;have S:=k.len;refine ea C (λ_ b=>by cases b) (k.cells λ_ _=>isRow.cells) (by rw[a4R];omega) (by rw[a4R];omega) λD E T=> ?_;refine aj @a5a.{0} ?_;exact⟨E,U.a1,D,by trivial,rfl⟩
theorem Yz (L:List (List Int)) (S:List R) (u:Own) (c:Nat) (T:U) (M:az isRow L S) (N:L.length<=100000) (k4:c<=100000):
  AC Tryz.prog 303 [.J S u,.v (.int .i64 (c:Int))] T λO V=>T.sub V/\ ∃gs Q,O= .J gs Q/\az (hy isRow) (a6.eU c L) gs:=by
 refine bc hm RE a9l ?_;refine bT ?_;refine cu (λz V=> ∃(d:Nat) (b:List (List Int)) (h:List R) (E:Own) (gs:List R) (P:Own) (F:List (List (List Int))),d<=c/\F++a6.eU (c - d) b=a6.eU c L/\az isRow b h/\b.length<=100000/\F.length=d/\az (hy isRow) F gs/\bf T V 1 gs P/\
   z 0= .J h E/\z 1= .v (.int .i64 c)/\z 5= .J gs P/\z 8= .v (.int .i64 c)/\z 9= .v (.int .i64 d))
  (λz _=>match z 9 with| .v (.int _ X)=>c - X.toNat| _=>0) ⟨0,L,S,u,[],.nil,[],a9k,rfl,M,N,rfl,trivial,bf.nil U.a1,?_⟩ ?_
 .exact mW
 rintro z k5 ⟨d,b,h,E,gs,P,F,k6,C,k,Y,v,D,W,o,p,r,x,y⟩;by_cases e:(d)<(c:Int)
 .have w:=k.len;have Z:=DJ (e:=c - d) a9k Y;have A:(c) -(d)=((c - d:Nat):Int):=a9k;rw[show c - d=(c -(d+1))+1 by omega,a6.eU]at C;rw[show c -(d+1)+1=c - d by omega]at C;generalize k7:c - d=G at*;have B: ¬(G:Int)=0:=a9k;have k8:=a7F b.length G;have H:(b.length:Int).tdiv (G:Int)=((b.length/G:Nat)):=rfl;have I:(b.length:Int).tmod (G:Int)=((b.length%G:Nat)):=rfl;obtain⟨a,f⟩: ∃a,a=b.length/G+(if 0<b.length%G then 1 else 0):=⟨_,rfl⟩;rw[<-f]at Z C;by_cases K:0<b.length%G
  .have g:((0)<((b.length%G:Nat):Int))=True:=eq_true a9k;have i:((b.length/G:Nat))+1=(a:Int):=by rw[f,if_pos K];omega
   have j:dI 1 (.J h E) none (some (.v (.int .i64 (a))))=some (.J (h.take a) .any):=nX a9k a9k (k.cells λ_ _=>isRow.cells);have l:dI 1 (.J h E) (some (.v (.int .i64 (a)))) none=some (.J (h.drop a) .any):=qk a9k a9k (k.cells λ_ _=>isRow.cells);refine aj (ft @o @p @r @x @y @e @w @A @H @I @B @g @i @j) ?_;refine ai (DK (b.take a) (h.take a) .any _ (k.take a) (by rw[a4K];omega)) ?_;rintro _ j9 ⟨m,n,rfl⟩;refine aj (bm @o @p @r @x @y) ?_;refine dd U.a1 (by simp[aT,R.cells]) λk0 k1 q=> ?_;refine aj (bm @o @p @r @x @y) ?_;have k2:=D.len;refine ea (W.mono (U.au n.sub q.sub)) (D.cells λ_ _=>hy.cells) (by simp[aT,R.cells]) (by grind) (by grind) λs k3 t=> ?_;refine aj (bs @o @p @r @x @y @l) ?_;refine⟨⟨d+1,b.drop a,h.drop a,.any,gs++ [.J (h.take a) m],s,F++ [b.take a],a9k,?_,k.drop a,by rw[a4Y];omega,by simp[v],D.snoc ⟨_,_,rfl,k.take a⟩,t,a9l⟩,a9k⟩;rw[<-C,a4U];rfl
  .have g:((0)<((b.length%G:Nat):Int))=False:=eq_false a9k;have i:((b.length/G:Nat))=(a:Int):=by rw[f,if_neg K];omega
   have j:dI 1 (.J h E) none (some (.v (.int .i64 (a))))=some (.J (h.take a) .any):=nX a9k a9k (k.cells λ_ _=>isRow.cells);have l:dI 1 (.J h E) (some (.v (.int .i64 (a)))) none=some (.J (h.drop a) .any):=qk a9k a9k (k.cells λ_ _=>isRow.cells);refine aj (ft @o @p @r @x @y @e @w @A @H @I @B @g @i @j) ?_;refine ai (DK (b.take a) (h.take a) .any _ (k.take a) (by rw[a4K];omega)) ?_;rintro _ j9 ⟨m,n,rfl⟩;refine aj (bm @o @p @r @x @y) ?_;refine dd U.a1 (by simp[aT,R.cells]) λk0 k1 q=> ?_;refine aj (bm @o @p @r @x @y) ?_;have k2:=D.len;refine ea (W.mono (U.au n.sub q.sub)) (D.cells λ_ _=>hy.cells) (by simp[aT,R.cells]) (by grind) (by grind) λs k3 t=> ?_;refine aj (bs @o @p @r @x @y @l) ?_;refine⟨⟨d+1,b.drop a,h.drop a,.any,gs++ [.J (h.take a) m],s,F++ [b.take a],a9k,?_,k.drop a,by rw[a4Y];omega,by simp[v],D.snoc ⟨_,_,rfl,k.take a⟩,t,a9l⟩,a9k⟩;rw[<-C,a4U];rfl
 .obtain rfl:d=c:=a9k;rw[a6Z,a6.eU,a5M]at C;refine aj (bs @o @p @r @x @y @e) ?_;exact⟨_,U.a1,W.sub,gs,P,rfl,by rw[<-C];exact D⟩
theorem DL (d:List (ay)) (a:List R) (h:Own) (c:U) (k:az bu d a) (F:d.length<=100000):
  AC Tryz.prog 310 [.J a h] c λp r=> ∃o,bf c r 37 a o/\p= .J a o:=by
 refine mV λG=> ?_;have x:h= .nil->a= []:=λy=>by subst y;simp_all
 refine bc hm RG a9l ?_;simp -dsimp -implicitDefEqProofs (disch:=first|omega|assumption|(simp only[bk,Nat.reduceAdd];try omega)) only[go_sem,simprocAttr,-List.reduceReplicate,↓o8];refine o9 (λb=>by rw[x b]) (λb=> ?_) ?_
 .have z:a= []:=by trivial
  subst z;refine aj @a5C ?_;exact⟨c,U.a1,.nil,bf.nil U.a1,rfl⟩
 .refine bT ?_;refine dd U.a1 (by simp[aT]) λL P C=> ?_;refine bT ?_;have S:=k.len;refine ea C (λ_ b=>by cases b) (k.cells λ_ _=>bu.cells) (by rw[a4R];omega) (by rw[a4R];omega) λD E T=> ?_;refine aj @a5a.{0} ?_;exact⟨E,U.a1,D,by trivial,rfl⟩
theorem DM (L:List (ay)) (S:List R) (u:Own) (c:Nat) (T:U) (M:az bu L S) (N:L.length<=100000) (k4:c<=100000):
  AC Tryz.prog 245 [.J S u,.v (.int .i64 (c:Int))] T λO V=>T.sub V/\ ∃gs Q,O= .J gs Q/\az (hy bu) (a6.eU c L) gs:=by
 refine bc hm Qo a9l ?_;refine bT ?_;refine cu (λz V=> ∃(d:Nat) (b:List (ay)) (h:List R) (E:Own) (gs:List R) (P:Own) (F:List (List (ay))),d<=c/\F++a6.eU (c - d) b=a6.eU c L/\az bu b h/\b.length<=100000/\F.length=d/\az (hy bu) F gs/\bf T V 1 gs P/\
   z 0= .J h E/\z 1= .v (.int .i64 c)/\z 5= .J gs P/\z 8= .v (.int .i64 c)/\z 9= .v (.int .i64 d))
  (λz _=>match z 9 with| .v (.int _ X)=>c - X.toNat| _=>0) ⟨0,L,S,u,[],.nil,[],a9k,rfl,M,N,rfl,trivial,bf.nil U.a1,?_⟩ ?_
 .exact mW
 rintro z k5 ⟨d,b,h,E,gs,P,F,k6,C,k,Y,v,D,W,o,p,r,x,y⟩;by_cases e:(d)<(c:Int)
 .have w:=k.len;have Z:=DJ (e:=c - d) a9k Y;have A:(c) -(d)=((c - d:Nat):Int):=a9k;rw[show c - d=(c -(d+1))+1 by omega,a6.eU]at C;rw[show c -(d+1)+1=c - d by omega]at C;generalize k7:c - d=G at*;have B: ¬(G:Int)=0:=a9k;have k8:=a7F b.length G;have H:(b.length:Int).tdiv (G:Int)=((b.length/G:Nat)):=rfl;have I:(b.length:Int).tmod (G:Int)=((b.length%G:Nat)):=rfl;obtain⟨a,f⟩: ∃a,a=b.length/G+(if 0<b.length%G then 1 else 0):=⟨_,rfl⟩;rw[<-f]at Z C;by_cases K:0<b.length%G
  .have g:((0)<((b.length%G:Nat):Int))=True:=eq_true a9k;have i:((b.length/G:Nat))+1=(a:Int):=by rw[f,if_pos K];omega
   have j:dI 37 (.J h E) none (some (.v (.int .i64 (a))))=some (.J (h.take a) .any):=nX a9k a9k (k.cells λ_ _=>bu.cells);have l:dI 37 (.J h E) (some (.v (.int .i64 (a)))) none=some (.J (h.drop a) .any):=qk a9k a9k (k.cells λ_ _=>bu.cells);refine aj (ft @o @p @r @x @y @e @w @A @H @I @B @g @i @j) ?_;refine ai (DL (b.take a) (h.take a) .any _ (k.take a) (by rw[a4K];omega)) ?_;rintro _ j9 ⟨m,n,rfl⟩;refine aj (bm @o @p @r @x @y) ?_;refine dd U.a1 (by simp[aT,R.cells]) λk0 k1 q=> ?_;refine aj (bm @o @p @r @x @y) ?_;have k2:=D.len;refine ea (W.mono (U.au n.sub q.sub)) (D.cells λ_ _=>hy.cells) (by simp[aT,R.cells]) (by grind) (by grind) λs k3 t=> ?_;refine aj (bs @o @p @r @x @y @l) ?_;refine⟨⟨d+1,b.drop a,h.drop a,.any,gs++ [.J (h.take a) m],s,F++ [b.take a],a9k,?_,k.drop a,by rw[a4Y];omega,by simp[v],D.snoc ⟨_,_,rfl,k.take a⟩,t,a9l⟩,a9k⟩;rw[<-C,a4U];rfl
  .have g:((0)<((b.length%G:Nat):Int))=False:=eq_false a9k;have i:((b.length/G:Nat))=(a:Int):=by rw[f,if_neg K];omega
   have j:dI 37 (.J h E) none (some (.v (.int .i64 (a))))=some (.J (h.take a) .any):=nX a9k a9k (k.cells λ_ _=>bu.cells);have l:dI 37 (.J h E) (some (.v (.int .i64 (a)))) none=some (.J (h.drop a) .any):=qk a9k a9k (k.cells λ_ _=>bu.cells);refine aj (ft @o @p @r @x @y @e @w @A @H @I @B @g @i @j) ?_;refine ai (DL (b.take a) (h.take a) .any _ (k.take a) (by rw[a4K];omega)) ?_;rintro _ j9 ⟨m,n,rfl⟩;refine aj (bm @o @p @r @x @y) ?_;refine dd U.a1 (by simp[aT,R.cells]) λk0 k1 q=> ?_;refine aj (bm @o @p @r @x @y) ?_;have k2:=D.len;refine ea (W.mono (U.au n.sub q.sub)) (D.cells λ_ _=>hy.cells) (by simp[aT,R.cells]) (by grind) (by grind) λs k3 t=> ?_;refine aj (bs @o @p @r @x @y @l) ?_;refine⟨⟨d+1,b.drop a,h.drop a,.any,gs++ [.J (h.take a) m],s,F++ [b.take a],a9k,?_,k.drop a,by rw[a4Y];omega,by simp[v],D.snoc ⟨_,_,rfl,k.take a⟩,t,a9l⟩,a9k⟩;rw[<-C,a4U];rfl
 .obtain rfl:d=c:=a9k;rw[a6Z,a6.eU,a5M]at C;refine aj (bs @o @p @r @x @y @e) ?_;exact⟨_,U.a1,W.sub,gs,P,rfl,by rw[<-C];exact D⟩
theorem np {b:Type}: ∀ {g:Nat}{l:List b},(a6.eU g l).length=g/\ ∀a∈a6.eU g l,a.length<=l.length
 |0,l=>⟨rfl,λa c=>by cases c⟩
 |g+1,l=>by
  have ih:=np (g:=g) (l:=l.drop (l.length/(g+1)+if 0<l.length%(g+1)then 1 else 0));refine⟨by rw[a6.eU,a4M,ih.1],λa d=> ?_⟩;rw[a6.eU]at d;grind
def YA (T:U) (y V:Nat) (W:ag) (k8:bB T y V W) (a:List (List (List Int))) (j:List R) (e:Own) (c:Nat) (k9:1<=c) (l0:c<=8) (l:az (hy isRow) a j) (l1: ∀m∈a,m.length<=100000) (a14:a.length<=100000):
  AC Tryz.prog 302 [.J j e,.bG 155 [dT y c] []] T λu f=>match(eu dS c W a []).1 with
   | .error v=>bB f y V (eu dS c W a []).2/\Ext y V T f/\v≠0/\u= .aL [.J [] .nil,.v (.int .i64 v)]
   | .ok bI=> ∃d h,az bu bI d/\u= .aL [h,.v (.int .i64 0)]/\dq T f y V (eu dS c W a []).2 37 (flat d) h/\(bI= []->h= .J [] .nil):=by
 refine bc hm RC a9l ?_;have w: ∀N,(R.agg N).cells=N:=λ_=>rfl;have A:=(aW (M:= .nil) (e6:= .nil) (h5:= .nil) bj).len;have O:=l.len;have l2:gf Tryz.prog 155=true:=a9p;have a15:=bR.J (s:=T) (o:=e) (l.cells λ_ _=>hy.cells);refine aj @O ?_;refine cu (λk f=> ∃(b:Nat) (g:ag) (z:List ay) (d:List R) (h:R),b<=a.length/\eu dS c g (a.drop b) z=eu dS c W a []/\az bu z d/\z.length=b/\dq T f y V g 37 (flat d) h/\(z= []->h= .J [] .nil)/\
   k 0= .J j e/\k 1= .bG 155 [dT y c] []/\k 6=h/\k 11= .J j e/\k 12= .v (.int .i64 a.length)/\k 13= .v (.int .i64 b))
  (λk _=>match k 13 with| .v (.int _ l3)=>a.length - l3.toNat| _=>0) ⟨0,W,[],[],.J [] .nil,a9k,rfl,trivial,rfl,dq.nil k8,λ_=>rfl,?_⟩ ?_
 .exact cp @O
 rintro k B ⟨b,g,z,d,h,a16,D,n,l4,H,l5,E,F,G,L,P,S⟩;by_cases Q:(b:Int)<a.length
 .have X:a[b]? =some a[b]:=a4H a9k;have Y:a.drop b=a[b]::a.drop (b+1):=a5e a9k;have Z:=l1 _ (a5k (n:=b) a9k);rw[Y,eu]at D;clear Y;generalize a[b]'a9k=m at X D Z;obtain⟨a18,l6,q,I,rfl,j9⟩:=l.get X;obtain⟨a19,l7,l8⟩:=(bR.J (s:=B) (o:=e) (l.cells λ_ _=>hy.cells)).get b _ l6;have k0:=l8.ld B U.a1 false 1 a9k (by simp[R.cells]);have l9:aX false 1 (R.J q I).cells= .J q I:=rfl;rw[l9]at k0;refine aj (cW @E @F @G @L @P @S @Q @l7 @k0) ?_;refine fE l2 (xH B y V g H.ga m q (.J q I) c k9 l0 j9 (bR.J (j9.cells λ_ _=>isRow.cells)) Z) ?_;rintro u a27 ⟨k1,n0,s⟩;have k2:=H.step n0 k1;generalize a29:dv g c (dS m)=n1 at*;obtain⟨res,n2⟩:=n1;simp only at D k1 s k2;obtain⟨C,o,p,r,v,k3,x⟩:=s.shape;have k4:=aW (M:=o) (e6:=p) (h5:=r) k3;have i:=k4.len;have K:putAt (ab aA .nil .nil .nil) 0 (ab C o p r)=ab C o p r:=cD bj k3;subst x;refine aj (gj @E @F @G @L @P @S @cq @w @A @i @K) ?_;refine aN λa30 n3=> ?_;have M:=k2.mono (U.ae (Y:= .cells (ab C o p r)) U.a1 n3);cases res with
  |error a34=>obtain⟨n4,x⟩:=s;simp only[R.aL.injEq,a7c,R.v.injEq,Value.int.injEq,true_and,and_true]at x;obtain⟨_,rfl⟩:=x;rw[<-D];refine aj (lf @E @F @G @L @P @S @cq @w @A @i @K @U.set_set @n4) ?_;exact⟨_,U.a1,M.ga,M.ext⟩
  |ok k5=>
   obtain⟨n5,n9,a00,a01,a02,x⟩:=s;simp only[R.aL.injEq,a7c,R.v.injEq,Value.int.injEq,true_and,and_true,R.agg.injEq]at x;obtain⟨x,rfl⟩:=x;obtain⟨a03,a04,a05,a06⟩:=M;refine aj (ft @E @F @G @L @P @S @cq @w @A @i @K @U.set_set @U.ah k4.t37) ?_;refine eP (by simp[aT,R.cells,i]) a9l λa36 a07=> ?_;have a08:=ar.mono a04 (U.ae (Y:= .cells (flat [R.agg (ab C o p r)])) U.a1 a07);have a09:az bu (z++ [k5]) (d++ [R.agg (ab C o p r)]):=n.snoc ⟨n5,n9,a00,a01,a02,by rw[x]⟩;have k6:(flat d).length=z.length*37:=by rw[dc (n.cells λ_ _=>bu.cells),n.len]
   have t:(flat [R.agg (ab C o p r)]).length=1*37:=by simp[flat,R.cells,i]
   refine aj (bs @E @F @G @L @P @S) ?_;refine ff a08 a9k (oo t) t (by rw[k6,t];omega) (by rw[k6,t];omega) λa10 a38 k7=> ?_;have a11:flat d++flat [R.agg (ab C o p r)]=flat (d++ [R.agg (ab C o p r)]):=by simp[flat]
   rw[a11]at k7;refine aj (bs @E @F @G @L @P @S) ?_;exact⟨⟨b+1,n2,z++ [k5],_,a10,a9k,D,a09,by simp[l4],⟨a03,k7,a05,a06⟩,(λa13=>by simp at a13),a9l⟩,a9k⟩
 .obtain rfl:b=a.length:=a9k;rw[a7h,eu]at D;rw[<-D];refine aj (c6 @E @F @G @L @P @S @Q) ?_;exact⟨_,U.a1,d,h,n,rfl,H,l5⟩
def ou (a:ag) (b:Nat) (c:List (List Int)):Except Int (List ay)×ag:=eu dS b a (a6.chunks c) []
def DN (T:U) (y V:Nat) (W:ag) (k8:bB T y V W) (a:List (List (ay))) (j:List R) (e:Own) (c:Nat) (k9:1<=c) (l0:c<=8) (l:az (hy bu) a j) (l1: ∀m∈a,m.length<=100000) (a14:a.length<=100000):
  AC Tryz.prog 244 [.J j e,.bG 243 [dT y c] []] T λu f=>match(eu en c W a []).1 with
   | .error v=>bB f y V (eu en c W a []).2/\Ext y V T f/\v≠0/\u= .aL [.J [] .nil,.v (.int .i64 v)]
   | .ok bI=> ∃d h,az bu bI d/\u= .aL [h,.v (.int .i64 0)]/\dq T f y V (eu en c W a []).2 37 (flat d) h/\(bI= []->h= .J [] .nil):=by
 refine bc hm Qm a9l ?_;have w: ∀N,(R.agg N).cells=N:=λ_=>rfl;have A:=(aW (M:= .nil) (e6:= .nil) (h5:= .nil) bj).len;have O:=l.len;have l2:gf Tryz.prog 243=true:=a9p;have a15:=bR.J (s:=T) (o:=e) (l.cells λ_ _=>hy.cells);refine aj @O ?_;refine cu (λk f=> ∃(b:Nat) (g:ag) (z:List ay) (d:List R) (h:R),b<=a.length/\eu en c g (a.drop b) z=eu en c W a []/\az bu z d/\z.length=b/\dq T f y V g 37 (flat d) h/\(z= []->h= .J [] .nil)/\
   k 0= .J j e/\k 1= .bG 243 [dT y c] []/\k 6=h/\k 11= .J j e/\k 12= .v (.int .i64 a.length)/\k 13= .v (.int .i64 b))
  (λk _=>match k 13 with| .v (.int _ l3)=>a.length - l3.toNat| _=>0) ⟨0,W,[],[],.J [] .nil,a9k,rfl,trivial,rfl,dq.nil k8,λ_=>rfl,?_⟩ ?_
 .exact cp @O
 rintro k B ⟨b,g,z,d,h,a16,D,n,l4,H,l5,E,F,G,L,P,S⟩;by_cases Q:(b:Int)<a.length
 .have X:a[b]? =some a[b]:=a4H a9k;have Y:a.drop b=a[b]::a.drop (b+1):=a5e a9k;have Z:=l1 _ (a5k (n:=b) a9k);rw[Y,eu]at D;clear Y;generalize a[b]'a9k=m at X D Z;obtain⟨a18,l6,q,I,rfl,j9⟩:=l.get X;obtain⟨a19,l7,l8⟩:=(bR.J (s:=B) (o:=e) (l.cells λ_ _=>hy.cells)).get b _ l6;have k0:=l8.ld B U.a1 false 1 a9k (by simp[R.cells]);have l9:aX false 1 (R.J q I).cells= .J q I:=rfl;rw[l9]at k0;refine aj (cW @E @F @G @L @P @S @Q @l7 @k0) ?_;refine fE l2 (DD B y V g H.ga m q (.J q I) c k9 l0 j9 (bR.J (j9.cells λ_ _=>bu.cells)) Z) ?_;rintro u a27 ⟨k1,n0,s⟩;have k2:=H.step n0 k1;generalize a29:dv g c (en m)=n1 at*;obtain⟨res,n2⟩:=n1;simp only at D k1 s k2;obtain⟨C,o,p,r,v,k3,x⟩:=s.shape;have k4:=aW (M:=o) (e6:=p) (h5:=r) k3;have i:=k4.len;have K:putAt (ab aA .nil .nil .nil) 0 (ab C o p r)=ab C o p r:=cD bj k3;subst x;refine aj (gj @E @F @G @L @P @S @cq @w @A @i @K) ?_;refine aN λa30 n3=> ?_;have M:=k2.mono (U.ae (Y:= .cells (ab C o p r)) U.a1 n3);cases res with
  |error a34=>obtain⟨n4,x⟩:=s;simp only[R.aL.injEq,a7c,R.v.injEq,Value.int.injEq,true_and,and_true]at x;obtain⟨_,rfl⟩:=x;rw[<-D];refine aj (lf @E @F @G @L @P @S @cq @w @A @i @K @U.set_set @n4) ?_;exact⟨_,U.a1,M.ga,M.ext⟩
  |ok k5=>
   obtain⟨n5,n9,a00,a01,a02,x⟩:=s;simp only[R.aL.injEq,a7c,R.v.injEq,Value.int.injEq,true_and,and_true,R.agg.injEq]at x;obtain⟨x,rfl⟩:=x;obtain⟨a03,a04,a05,a06⟩:=M;refine aj (ft @E @F @G @L @P @S @cq @w @A @i @K @U.set_set @U.ah k4.t37) ?_;refine eP (by simp[aT,R.cells,i]) a9l λa36 a07=> ?_;have a08:=ar.mono a04 (U.ae (Y:= .cells (flat [R.agg (ab C o p r)])) U.a1 a07);have a09:az bu (z++ [k5]) (d++ [R.agg (ab C o p r)]):=n.snoc ⟨n5,n9,a00,a01,a02,by rw[x]⟩;have k6:(flat d).length=z.length*37:=by rw[dc (n.cells λ_ _=>bu.cells),n.len]
   have t:(flat [R.agg (ab C o p r)]).length=1*37:=by simp[flat,R.cells,i]
   refine aj (bs @E @F @G @L @P @S) ?_;refine ff a08 a9k (oo t) t (by rw[k6,t];omega) (by rw[k6,t];omega) λa10 a38 k7=> ?_;have a11:flat d++flat [R.agg (ab C o p r)]=flat (d++ [R.agg (ab C o p r)]):=by simp[flat]
   rw[a11]at k7;refine aj (bs @E @F @G @L @P @S) ?_;exact⟨⟨b+1,n2,z++ [k5],_,a10,a9k,D,a09,by simp[l4],⟨a03,k7,a05,a06⟩,(λa13=>by simp at a13),a9l⟩,a9k⟩
 .obtain rfl:b=a.length:=a9k;rw[a7h,eu]at D;rw[<-D];refine aj (c6 @E @F @G @L @P @S @Q) ?_;exact⟨_,U.a1,d,h,n,rfl,H,l5⟩
def YB (h:U) (c k:Nat) (d:ag) (C:bB h c k d) (a:List (List (ay))) (p:List R) (r:Own) (b:Nat) (D:1<=b) (E:b<=8) (F:az (hy bu) a p) (G: ∀L∈a,L.length<=100000) (P:a.length<=100000):
  AC Tryz.prog 244 [.J p r,.bG 243 [dT c b] []] h λx o=>bB o c k (eu en b d a []).2/\Ext c k h o/\Yy (eu en b d a []).1 x:=by
 refine(DN h c k d C a p r b D E F G P).view λx o y=> ?_;generalize eu en b d a []=S at*;obtain⟨res,m⟩:=S;cases res with
 |error n=>obtain⟨T,V,W,rfl⟩:=y;exact⟨_,o,View.refl,T,V,W,rfl⟩
 |ok bI=>obtain⟨e,q,z,rfl,f,_⟩:=y;obtain⟨g,i,j,l⟩:=f.um z;exact⟨_,g,View.aL (a:= []) i,j,l,e,.any,z,rfl⟩
def jQ (a:ag) (b:Nat) (c:List (ay)):Except Int (List ay)×ag:=eu en b a (a6.chunks c) []
theorem qK {b:Type}{c:List b->c3}{d:Nat}: ∀ {gs:List (List b)}{S S':ag}{acc ks:List ay},eu c d S gs acc=(.ok ks,S')->ks.length=acc.length+gs.length
 | [],S,S',acc,ks,a=>by
  grind[eu,Prod.mk.inj,Except.ok.inj]
 |h::gs,S,S',acc,ks,a=>by
  rw[eu]at a;split at a
  .simp_all
  .have:=qK a;rw[this];simp;omega
def iD (c:Nat):Nat->ag->List ay->Except Int ay×ag
 |0,a,_=>(.error 1,a)
 |d+1,a,bI=>
  if 1<bI.length then match jQ a c bI with
   |(.error h,b)=>(.error h,b)
   |(.ok up,b)=>iD c d b up
  else(.ok (bI.headD aA),a)
def YC (k:U) (c o:Nat) (g:ag) (H:bB k c o g) (d:List ay) (i:List R) (k4:Own) (b:Nat) (n5:1<=b) (n9:b<=8) (a00:az bu d i) (a30:d.length<=100000):
  AC Tryz.prog 157 [dT c b,.J i k4] k λk5 h=>bB h c o (iD b (d.length+1) g d).2/\Ext c o k h/\ha (iD b (d.length+1) g d).1 k5:=by
 refine bc hm NQ a9l ?_;have T: ∀k6,(R.agg k6).cells=k6:=λ_=>rfl;have I:=(aW (M:= .nil) (e6:= .nil) (h5:= .nil) bj).len;have K: ∀E V:R,List.take 2 [E,V]= [E,V]:=λ_ _=>rfl;have M: ∀E V,aX true 2 [E,V]= .agg [E,V]:=λ_ _=>rfl;refine aj @T ?_;refine aN λj k7=> ?_;refine aj (c2 @T @cq) ?_;refine aN λF q=> ?_;have k8:j≠F:=by rintro rfl;rw[U.ah]at q;cases q
 have N:k F=none:=by rw[U.ao _ _ (a4Q k8)]at q;exact q
 obtain⟨p,s⟩: ∃p:U,p=(k.set j (.cells [.ptr c 0,.v (.int .i64 (b))])).set F (.cells (ab aA .nil .nil .nil)):=⟨_,rfl⟩;have k9:k.sub p:=by rw[s];exact U.ae (U.ae U.a1 k7) N
 have aJ:p F=some (.cells (ab aA .nil .nil .nil)):=by rw[s,U.ah]
 have c2:p j=some (.cells [.ptr c 0,.v (.int .i64 (b))]):=by rw[s,U.ao _ _ k8,U.ah]
 have G:=H.cE N;have l0:=H.cE k7;have l1:=(aW (M:= .nil) (e6:= .nil) (h5:= .nil) bj).t37;have l2:putAt (ab aA .nil .nil .nil) 0 (ab aA .nil .nil .nil)=ab aA .nil .nil .nil:=cD bj bj;have O: ∀(h) (l3),Ext c o p h->Ext c o k (h.set F l3):=λh l3 Q=>((Ext.of k9).trans Q).set N;simp -dsimp -implicitDefEqProofs (disch:=first|omega|assumption|(simp only[bk,Nat.reduceAdd];try omega)) only[go_sem,simprocAttr,-List.reduceReplicate,T,cq];rw[show(k.set j (.cells (dT c b).cells)).set F (.cells (List.replicate 32 (R.v (.int .u8 0))++ [R.J [] .nil,.J [] .nil]++ [R.v (.int .i64 0),.v (.int .i64 0)]++ [R.J [] .nil]))=p by rw[s,<-cq];rfl];refine cu (λW h=> ∃(e:Nat) (r:ag) (a:List ay) (t:List R) (u:Own),iD b e r a=iD b (d.length+1) g d/\a.length<e/\e<=100001/\az bu a t/\bB h c o r/\Ext c o p h/\W 1= .J t u/\W 2= .ptr j 0/\W 4= .ptr F 0)
  (λW _=>match W 1 with| .J i _=>i.length| _=>0) ⟨d.length+1,g,d,i,k4,rfl,a9k,a9k,a00,H.mono k9,Ext.refl,?_⟩ ?_
 .exact mW
 rintro W l ⟨e,r,a,t,u,x,a34,a36,v,X,m,L,P,S⟩;have w:=v.len;have Y:=m _ _ l0.1 l0.2 c2;have l4:=m _ _ G.1 G.2 aJ;obtain⟨Z,rfl⟩: ∃Z,e=Z+1:=⟨e - 1,a9k⟩;rw[iD]at x;by_cases A:(1:Int)<a.length
 .rw[if_pos a9k]at x;refine aj (bt @L @P @S @w @A (U.af Y) @K @M) ?_;refine ai (xF a.length a9k l) ?_;rintro _ l ⟨rfl,rfl⟩;refine aj (bt @L @P @S @w @A (U.af Y) @K @M) ?_;have l5:a6.bU a.length<=100000:=by unfold a6.bU;omega
  refine ai (DM a t u (a6.bU a.length) l v a9k l5) ?_;rintro _ a01 ⟨j9,gs,a02,rfl,a03⟩;have a04:=j9 _ _ Y;refine aj (bs @L @P @S (U.af a04) @K @M) ?_;have k0:=np (g:=a6.bU a.length) (l:=a);refine ai (YB a01 c o r (X.mono j9) _ gs a02 b n5 n9 a03 (λa05 a06=>by have:=k0.2 a05 a06;omega) (by rw[k0.1];exact l5)) ?_;rintro k5 a38 ⟨n,a07,y⟩;have l6:jQ r b a=eu en b r (a6.eU (a6.bU a.length) a) []:=rfl;rw[<-l6]at n y;have l7:=λB a08 Q=>qK (c:=en) (d:=b) (gs:=a6.eU (a6.bU a.length) a) (S:=r) (S':=B) (acc:= []) (ks:=a08) Q;rw[<-l6]at l7;have k1:=m.trans ((Ext.of j9).trans a07);have a09:=k1 _ _ G.1 G.2 aJ;generalize jQ r b a=a10 at*;obtain⟨res,B⟩:=a10;cases res with
  |error a42=>obtain⟨l8,rfl⟩:=y;simp only at x n;rw[<-x];refine aj (cf @L @P @S @l8 @cq @T (U.aI a09) @I @l1 @l2) ?_;exact⟨_,U.a1,n.set G,O _ _ k1,l8,rfl⟩
  |ok up=>
   obtain⟨a11,a13,l9,rfl⟩:=y;have n0:=l7 B up rfl;rw[k0.1]at n0;have a43:up.length<a.length:=by rw[n0];unfold a6.bU;simp;omega
   have a47:=l9.len;simp only at x n;refine aj (aH @L @P @S) ?_;exact⟨⟨Z,B,up,a11,a13,x,a9k,a9k,l9,n,k1,rfl⟩,a9k⟩
 .rw[if_neg a9k]at x;rw[<-x];by_cases k2:(a.length:Int)=0
  .have:a= []:=a4N a9k;subst this;refine aj (gU @L @P @S @w @A @k2 @cq @T (U.aI l4) @I @l1 @l2) ?_;exact⟨_,U.a1,X.set G,O _ _ m,bj,me,.nil,.nil,.nil,rfl⟩
  .have n1:a[0]? =some a[0]:=a4H a9k;have a14:a.headD aA=a[0]'a9k:=by cases a with|nil=>simp at k2|cons E V=>rfl
   rw[a14];generalize a[0]'a9k=f at n1;obtain⟨E,a15,k3,a16,z,C,D,rfl⟩:=v.get n1;obtain⟨a48,n2,n3⟩:=(bR.J (s:=l) (o:=u) (v.cells λ_ _=>bu.cells)).get 0 _ a15;have y:=aW (M:=z) (e6:=C) (h5:=D) k3;have a18:=y.len;have a19:(R.agg (ab f z C D)).cells=ab f z C D:=rfl;rw[a19]at n3;have n4:=n3.ld l U.a1 true 37 a9k (by rw[y.len];omega);rw[show aX true 37 (ab f z C D)= .agg (ab f z C D) by rw[aX,if_pos rfl,y.t37]]at n4;have a27:((0:Nat):Int)=0:=rfl;rw[a27]at n2;have a29:putAt (ab aA .nil .nil .nil) 0 (ab f z C D)=ab f z C D:=cD bj k3;refine aj (ft @L @P @S @w @A @k2 @n2 @n4 @T (U.aI l4) @I @a18 @a29 y.t37) ?_;exact⟨_,U.a1,X.set G,O _ _ m,k3,a16,z,C,D,rfl⟩
end Go.Proofs.YtlgnfcaolejgeaaGreat
namespace Go.bz
open Go
variable{g A e1:List R}{e i v O b9 j1:Nat}
theorem pr {a:List R}{v:Nat} (b:g.take e=a) (c:A.length=v) (d:e1.length=i) (h:e+v+i<=g.length):
  (putAt (putAt g (e+v) e1) e A).take (e+v+i)=a++(A++e1)/\(putAt (putAt g e A) (e+v) e1).take (e+v+i)=a++(A++e1):=by
 have k:a.length=e:=by rw[<-b,a4K];omega
 constructor
 .have o:(g.take (e+v)).length=e+v:=by rw[a4K];omega
  grind[putAt,List.append_assoc,Nat.min_eq_left,List.drop_left',List.take_left',List.length_append]
 grind[putAt,List.take_left',List.length_append,List.append_assoc]
variable{e2:IntKind}
theorem ov (k:e<=O) (o:O<=b9): ∃v,cg i (.an j1 O b9 i) (some (.v (.int e2 (e:Int)))) none none=some v/\fb v=some (.v (.int .i64 ((O - e:Nat):Int)))/\
  ∀(c:U) (a b:List R),c j1=some (.cells a)->O*i<=a.length->a.take (O*i)=b->bN c i v=some (O - e,b.drop (e*i)):=by
 by_cases p:e<b9
 .refine⟨_,gk k o p,rfl,λc a b d r h=> ?_⟩;have x:e*i+(O - e)*i=O*i:=by rw[<-a5Q];congr 1;omega
  simp only[bN,U.af d];grind
 .obtain rfl:e=O:=a9k;obtain rfl:e=b9:=a9k;refine⟨_,tP rfl,by simp[fb],λc a b d r h=> ?_⟩;have:b.drop (e*i)= []:=a5v (by rw[<-h,a4K];omega);rw[this,a6Z];rfl
theorem DO {a:Nat}{b:IntKind} (c:b9<=e) (d:e<=O): ∃v,cg i (.an j1 a O i) (some (.v (.int e2 (b9:Int)))) (some (.v (.int b (e:Int)))) none=some v:=by simp_all [cg,cG,intOf]
theorem DP {a b:Nat}{c d:IntKind} (h:j1<=e) (k:e<=i) (o:i<=b9): ∃v,cg O (.an a b b9 O) (some (.v (.int e2 (j1:Int)))) (some (.v (.int c (e:Int)))) (some (.v (.int d (i:Int))))=some v:=by simp_all [cg,cG,intOf]
variable{f t e4:U}
theorem ar.first (c:ar f t e g (.an v O b9 e)) (d:i<=O):ar f t e (g.take (i*e)) (.an v i b9 e):=by
 obtain⟨h,a⟩:=c;rcases a with ⟨_,a|a⟩|⟨y,z,C,k,b,o,p,r,D,E,F,x⟩
 .cases a
 .cases a
 simp only[R.an.injEq,and_true]at b;obtain⟨rfl,rfl,rfl⟩:=b;have G:i*e<=O*e:=a4W _ d;exact⟨h,.inr ⟨v,i,b9,k,rfl,o,p,r,by grind,by simp_all,a9k,x⟩⟩
theorem ar.an {o p:U}{k:Nat}{a:List R}{r:R} (y:ar o p k a r) (z:a≠ []): ∃d b c h,r= .an d b c k/\o d=none/\p d=some (.cells h)/\h.length=c*k/\h.take (b*k)=a/\a.length=b*k/\b<=c/\c<=maxLen:=by
 rcases y.2 with ⟨x,_⟩|x
 .trivial
 .exact x
variable{n b3:R}{Y:br}
theorem ar.add (o:ar t f i g n) (E:f e=some Y) (p: ∀a b c,n= .an a b c i->a≠e):ar (t.set e Y) f i g n:=by
 obtain⟨r,d⟩:=o;refine⟨λx F h=> ?_,?_⟩
 .by_cases y:x=e;grind[U.ah]
  .rw[U.ao _ _ y]at h;exact r _ _ h
 .rcases d with d|⟨a,b,c,z,k,C,D⟩
  .exact .inl d
  .exact .inr ⟨a,b,c,z,k,by rw[U.ao _ _ (p _ _ _ k)];exact C,D⟩
variable{s a7:R -> U -> Prop}
theorem uo {a:cB s} (b:f O=some (.cells g)) (c:g.length=b9*e) (d:bN f e n=some (v,A)) (h:i+v<=b9) (k:(i+v)*j1<=140737488355328) (o:i+v<=9223372036854775807)
  (p:s (.an O (i+v) b9 e) (f.set O (.cells (putAt g (i*e) A)))):jJ e j1 f (.an O i b9 e) n (bO s a):=by
 simp_all [jJ,vM,bO]
end Go.bz
namespace Go.Proofs.YtlgnfcaolejgeaaGreat
open Go Go.bz
theorem YD (z o:U) (c:List R) (C:R) (D:ar z o 1 c C) (a:Nat) (E:a<c.length) (u:c.length<=100000):
  AC Tryz.prog 249 [C,.v (.int .i64 (a:Int)),.v (.int .i64 ((a:Int)+1))] o λT V=>ar z V 1 (c.take a++c.drop (a+1)) T:=by
 obtain⟨d,b,h,F,rfl,G,L,P,W,v,p,e⟩:=D.an (λf=>by rw[f]at E;simp at E);refine bc hm Qv a9l ?_;have w:b=c.length:=a9k;have g:(a)+1=((a+1:Nat):Int):=a9k;rw[g];obtain⟨A,i⟩:=DP (O:=1) (a:=d) (b:=b) (j1:=a) (e:=a+1) (e2:= .i64) (c:= .i64) (d:= .i64) a9k a9k p;have j:cg 1 (.an d b h 1) none (some (.v (.int .i64 (a)))) none=some (.an d a h 1):=hL a9k;obtain⟨B,l,_,r⟩:=ov (i:=1) (j1:=d) (e:=a+1) (e2:= .i64) a9k p;have r:=r o F c L (by rw[P];omega) W;have m: ¬(a)=((a+1:Nat):Int):=a9k;refine dA (aJ @i @j @l @m) ?_;refine uo L P r a9k a9k a9k ?_;have n:a+(b -(a+1))=b - 1:=a9k;rw[n,a5y];have H:(c.drop ((a+1)*1)).length=b -(a+1):=by rw[a4Y];omega
 obtain⟨k,x⟩: ∃k,k=putAt F a (c.drop ((a+1)*1)):=⟨_,rfl⟩;have y:k.length=h:=by rw[x,eH _ _ _ a9k];omega
 have q:k.take (b - 1)=c.take a++c.drop (a+1):=by rw[x,putAt];grind
 rw[<-x];have s:(o.set d (.cells k)) d=some (.cells k):=U.ah _ _ _;have S:cg 1 (.an d (b - 1) h 1) (some (.v (.int .i64 ((b - 1:Nat))))) (some (.v (.int .i64 ((b))))) none=some (.bx d ((b - 1)*1) (b -(b - 1)) (h -(b - 1)) 1):=Cf a9k p a9k;have t:=x0 (e:=1) (O:=b -(b - 1)) (v:=b - 1) (b9:=h -(b - 1)) (A:= [R.J [] .nil]) s (by rw[y];omega);rw[a5y]at S;refine dA (aH @S @t @U.set_set) ?_;refine⟨_,U.a1,U.ae D.1 G,.inr ⟨d,b - 1,h,_,rfl,G,U.ah _ _ _,?_,?_,?_,a9k,e⟩⟩
 .rw[eH _ _ _ (by rw[kV,y];simp;omega),y,a5y]
 .rw[putAt,a5y,a4U,a6i (by rw[a4K];omega),a5W,a6S,q]
 grind
theorem YE (l o:U) (d:List R) (H:R) (y:ar l o 1 d H) (O:d≠ []) (a:Nat) (l1:a<=d.length) (l2:d.length<=100000) (k:R) (z:Nat) (m:l z=some (.cells [k])):
  AC Tryz.prog 239 [H,.v (.int .i64 (a:Int)),.an z 1 1 1] o λQ G=>ar l G 1 (d.take a++k::d.drop a) Q:=by
 obtain⟨c,b,h,x,rfl,n,D,q,s,l3,X,Y⟩:=y.an O;refine bc hm Qd a9l ?_;have l4:b=d.length:=a9k;have L:=y.1 _ _ m;have I:c≠z:=by rintro rfl;rw[n]at m;cases m
 have W:((1:Nat):Int)=1:=rfl;obtain⟨l5,e,_,K⟩:=ov (i:=1) (j1:=c) (e:=a) (e2:= .i64) a9k X;have t: ∀G:U,G z=some (.cells [k])->bN G 1 (.an z 1 1 1)=some (1,[k]):=λG y=>by simp[bN,U.af y]
 by_cases c1:(a:Int)=b
 .have Z:=eq_true c1;refine dA (aH @e @Z @W) ?_;refine ff y a9k (t o L) rfl (by grind) (by grind) λl6 G l7=> ?_;refine Cj ?_;grind[U.a1,List.take_of_length_le,List.drop_eq_nil_of_le]
 have l8:a<b:=a9k;have j9:=K o x d D a9k s;rw[a5y]at j9;have M:(d.drop a).length=b - a:=by rw[a4Y];omega
 by_cases c2:(h)<(b:Int)+1
 .have f:cg 1 (.an c b h 1) none (some (.v (.int .i64 (a)))) none=some (.an c a h 1):=hL a9k;have N:(b)+1 -(a)=((b+1 - a:Nat):Int):=a9k;refine dA (bs @e @c1 @W @c2 @f @N) ?_;refine x2 D q a9k a9k a9k λp C k0 g i k1 k2=> ?_;have k3:a+(b+1 - a)=b+1:=a9k;rw[k3]at i k2|-;have k4:p≠c:=by rintro rfl;rw[g]at D;cases D
  have k5:p≠z:=by rintro rfl;rw[g]at L;cases L
  obtain⟨E,k6⟩: ∃E,E=x.take (a*1)++(List.replicate (b+1 - a) [R.J [] .nil]).flatten++k0:=⟨_,rfl⟩;have k7:E.length=C:=by grind[List.length_append,kV,List.length_take]
  have u:E.take a=d.take a:=by grind
  rw[<-k6];have V:cg 1 (.an p (b+1) C 1) (some (.v (.int .i64 (a)))) none none=some (.bx p (a*1) (b+1 - a) (C - a) 1):=gk a9k i a9k;have F:cg 1 (.an p (b+1) C 1) (some (.v (.int .i64 ((a)+1)))) none none=some (.bx p ((a+1)*1) (b+1 -(a+1)) (C -(a+1)) 1):=by rw[show(a)+1=((a+1:Nat):Int) by omega];exact gk a9k i a9k
  rw[a5y]at V F;rw[a8Q]at F;have v:(o.set p (.cells E)) z=some (.cells [k]):=by rw[U.ao _ _ (a4Q k5)];exact L
  have P:=hn (O:=a) (j1:=C - a) (i:=b+1 - a) (t _ v) (U.ah o p (.cells E)) a9k;have w: [k].take ((b+1 - a)*1)= [k]:=a4I a9m;rw[w]at P;obtain⟨r,S⟩: ∃r,r=putAt E a [k]:=⟨_,rfl⟩;have A:r.length=C:=by rw[S,eH _ _ _ a9m,k7]
  rw[<-S]at P;have k8:(o.set p (.cells r)) c=some (.cells x):=by rw[U.ao _ _ (a4Q k4)];exact D
  have j:=K _ x d k8 a9k s;rw[a5y]at j;have T:=hn (O:=a+1) (j1:=C -(a+1)) (i:=b - a) j (U.ah o p (.cells r)) a9k;have B:(d.drop a).take ((b - a)*1)=d.drop a:=a4I a9k;rw[B]at T;refine dA (gj @e @c1 @W @c2 @f @N @V @F @P @T @U.set_set) ?_;refine⟨_,U.a1,U.ae y.1 (U.bF y.1 g),.inr ⟨p,b+1,C,_,rfl,U.bF y.1 g,U.ah _ _ _,?_,?_,?_,i,k1⟩⟩
  .rw[eH _ _ _ a9k,A,a5y]
  .have:=(pr (A:= [k]) (v:=1) u rfl M a9k).2;rw[show(b+1)*1=a+1+(b - a) by omega,S];exact this
  grind
 .have f:cg 1 (.an c b h 1) none (some (.v (.int .i64 ((b)+1)))) none=some (.an c (b+1) h 1):=by rw[show(b)+1=((b+1:Nat):Int) by omega];exact hL a9k
  have V:cg 1 (.an c (b+1) h 1) (some (.v (.int .i64 (a)))) none none=some (.bx c (a*1) (b+1 - a) (h - a) 1):=gk a9k a9k a9k;have F:cg 1 (.an c (b+1) h 1) (some (.v (.int .i64 ((a)+1)))) none none=some (.bx c ((a+1)*1) (b+1 -(a+1)) (h -(a+1)) 1):=by rw[show(a)+1=((a+1:Nat):Int) by omega];exact gk a9k a9k a9k
  rw[a5y]at V F;rw[a8Q]at F;have k9:x≠ []:=by rintro rfl;simp at q;omega
  have l0:kU (.an z 1 1 1) (.bx c (a+1) (b - a) (h -(a+1)) 1) o=some (.v (.bool false)):=x1 rfl rfl (a4Q I) (qt L a9l) (qt D k9);have j:bN o 1 (.bx c a (b+1 - a) (h - a) 1)=some (b+1 - a,(x.drop a).take (b+1 - a)):=by simp only[bN,U.af D,a5y];grind
  have T:=hn (O:=a+1) (j1:=h -(a+1)) (i:=b - a) j D a9k;have B:((x.drop a).take (b+1 - a)).take ((b - a)*1)=d.drop a:=by rw[a5W,<-s,a6a];congr 1;omega
  rw[B]at T;obtain⟨r,S⟩: ∃r,r=putAt x (a+1) (d.drop a):=⟨_,rfl⟩;rw[<-S]at T;have A:r.length=x.length:=by rw[S,eH _ _ _ a9k]
  have v:(o.set c (.cells r)) z=some (.cells [k]):=by rw[U.ao _ _ (a4Q I)];exact L
  have P:=hn (O:=a) (j1:=h - a) (i:=b+1 - a) (t _ v) (U.ah o c (.cells r)) a9k;have w: [k].take ((b+1 - a)*1)= [k]:=a4I a9m;rw[w]at P;refine dA (gj @e @c1 @W @c2 @f @V @F @l0 @T @P @U.set_set) ?_;refine⟨_,U.a1,U.ae y.1 n,.inr ⟨c,b+1,h,_,rfl,n,U.ah _ _ _,?_,?_,?_,a9k,Y⟩⟩
  .rw[eH _ _ _ a9m,A,q]
  .have u:x.take a=d.take a:=by grind
   have:=(pr (A:= [k]) (v:=1) u rfl M a9k).1;grind
  grind
end Go.Proofs.YtlgnfcaolejgeaaGreat
namespace Go.bz
open Go
variable{f t e4:U}{e i v O b9 j1:Nat}{Y:br}
theorem U.sF (a:f e=some Y):f.set e Y=f:=by grind[U.ah,U.ao]
variable{e2:IntKind}{g A e1:List R}
def uq (k:i<=O) (h:O<=b9) (o:g.length=e): ∃v,cg e (.an j1 O b9 e) (some (.v (.int e2 (i:Int)))) none none=some v/\
  ∀(b:U) (a:List R),b j1=some (.cells a)->a.length=b9*e-> ∃c,kT e g v b=some (b.set j1 (.cells c))/\c.length=a.length/\c.take (i*e)=a.take (i*e):=by
 by_cases p:i<b9
 .refine⟨_,gk k h p,λb a d r=> ?_⟩;have x:i*e+(O - i)*e=O*e:=by rw[<-a5Q];congr 1;omega
  have y:O*e<=b9*e:=a4W _ h;have z:i*e<=a.length:=a9k;refine⟨_,x0 d a9k,?_,?_⟩
  .rw[eH _ _ _ (by rw[kV,o];omega)]
  .rw[putAt,a4U,a6i (by rw[a4K];omega),a5W,a6S]
 .obtain rfl:i=O:=a9k;obtain rfl:i=b9:=a9k;exact⟨_,tP rfl,λb a d r=>⟨a,by rw[Wi,U.sF d],rfl,rfl⟩⟩
end Go.bz
namespace Go.Proofs.YtlgnfcaolejgeaaGreat
open Go Go.bz
theorem DQ (l6 O r:U) (x F:List R) (k5 v:R) (o b a c:Nat) (k6:Int) (l7:k6=(c:Int)) (C:ar O r 37 x k5) (k7:x.length=o*37) (l8:ar l6 O 37 F v) (S:F.length=b*37) (a36:0<b) (a38:a<c) (a42:c<=o) (a43:o<=100000) (a47:b<=100000):
  AC Tryz.prog 242 [k5,.v (.int .i64 (a:Int)),.v (.int .i64 k6),v] r λl9 e=>ar O e 37 (x.take (a*37)++(F++x.drop (c*37))) l9:=by
 subst l7;obtain⟨h,n0,p,z,rfl,T,E,q,Q,a48,X,Y⟩:=C.an (λZ=>by rw[Z]at k7;simp at k7;omega);obtain⟨V,n1,k8,s,rfl,a52,j9,n2,a56,a57,a61,a62⟩:=l8.an (λZ=>by rw[Z]at S;simp at S;omega);obtain rfl:o=n0:=a9k;obtain rfl:b=n1:=a9k;have G:=C.1 _ _ j9;have k9:h≠V:=by rintro rfl;rw[T]at j9;cases j9
 have j: ∀e:U,e V=some (.cells s)->bN e 37 (.an V b k8 37)=some (b,F):=λe C=>by
  simp only[bN,U.af C];grind
 refine bc hm Bp a9l ?_;obtain⟨a63,l⟩:=DO (i:=37) (j1:=h) (a:=o) (O:=p) (b9:=a) (e:=c) (e2:= .i64) (b:= .i64) a9k a9k;have m: ¬(a:Int)=c:=a9k;have n:cg 37 (.an h o p 37) none (some (.v (.int .i64 (a)))) none=some (.an h a p 37):=hL a9k;have l0:(List.replicate 32 (R.v (.int .u8 0))++ [R.J [] .nil,.J [] .nil]++ [R.v (.int .i64 0),.v (.int .i64 0)]++ [R.J [] .nil]).length=37:=a9l;have t:(x.take (a*37)).length=a*37:=by rw[a4K];omega
 by_cases c1:(c:Int)=o
 .have n3:=eq_true c1;obtain rfl:c=o:=a9k;have n4:x.drop (c*37)= []:=a5v a9k;rw[n4,a5M];refine dA (aJ @l @m @n3 @n) ?_;by_cases aH:a+b<c
  .refine uo E q (j r G) a9k a9k a9k ?_;obtain⟨k,y⟩: ∃k,k=putAt z (a*37) F:=⟨_,rfl⟩;have f:k.length=z.length:=by rw[y,eH _ _ _ a9k]
   rw[<-y];obtain⟨n5,cd,ca⟩:=uq (j1:=h) (i:=a+b) (e2:= .i64) a9k X l0;obtain⟨g,k0,n9,l1⟩:=ca (r.set h (.cells k)) k (U.ah _ _ _) a9k;have k1:((a+b:Nat))<(c:Int):=a9k;refine dA (aJ @k1 @cd @k0 @U.set_set) ?_;refine⟨_,U.a1,U.ae C.1 T,.inr ⟨h,a+b,p,_,rfl,T,U.ah _ _ _,a9k,?_,by rw[a4J,t];omega,a9k,Y⟩⟩;grind[putAt,List.take_left',List.length_append,List.length_take]
  .refine ff (C.first a9k) a9k (j r G) S (by rw[t];omega) (by rw[t];omega) λa65 e l2=> ?_;obtain⟨a00,a01,a68,a02⟩:=l2.src;rw[a4J,t,S]at a01;obtain rfl:a00=a+b:=a9k;have k1: ¬((a+b:Nat))<(c:Int):=a9k;refine dA (c2 @a02 @k1) ?_;exact⟨_,U.a1,l2⟩
 have a69:c<o:=a9k;obtain⟨a03,u,w,l3⟩:=ov (i:=37) (j1:=h) (e2:= .i64) a9k X;have k2:(x.drop (c*37)).length=(o - c)*37:=by rw[a4Y];omega
 obtain⟨d,a71⟩: ∃a04,a04=a+b+(o - c):=⟨_,rfl⟩;have a73:(a)+(b)+((o - c:Nat))=(d:Int):=a9k;have A:(a)+(b)=((a+b:Nat):Int):=a9k;have B:((a+b:Nat))+((o - c:Nat))=(d:Int):=a9k;by_cases c2:(p)<(d:Int)
 .have l4:(d) -(a)=((d - a:Nat):Int):=a9k;refine dA (cf @l @m @c1 @n @u @w @A @B @c2 @l4) ?_;refine x2 E q a9k a9k a9k λD L a05 H I a06 a07=> ?_;have a08:a+(d - a)=d:=a9k;rw[a08]at I a07|-;have a09:D≠h:=by rintro rfl;rw[H]at E;cases E
  have a10:D≠V:=by rintro rfl;rw[H]at G;cases G
  obtain⟨P,a11⟩: ∃P,P=z.take (a*37)++(List.replicate (d - a) (List.replicate 32 (R.v (.int .u8 0))++ [R.J [] .nil,.J [] .nil]++ [R.v (.int .i64 0),.v (.int .i64 0)]++ [R.J [] .nil])).flatten++a05:=⟨_,rfl⟩;have a13:P.length=L*37:=by grind[List.length_append,kV,List.length_take]
  have K:P.take (a*37)=x.take (a*37):=by grind
  rw[<-a11];have M:cg 37 (.an D d L 37) (some (.v (.int .i64 (a)))) none none=some (.bx D (a*37) (d - a) (L - a) 37):=gk a9k I a9k;have N:cg 37 (.an D d L 37) (some (.v (.int .i64 ((a+b:Nat))))) none none=some (.bx D ((a+b)*37) (d -(a+b)) (L -(a+b)) 37):=gk a9k I a9k;have k3:(r.set D (.cells P)) V=some (.cells s):=by rw[U.ao _ _ (a4Q a10)];exact G
  have i:=hn (O:=a*37) (j1:=L - a) (i:=d - a) (j _ k3) (U.ah r D (.cells P)) a9k;rw[a4I a9k]at i;obtain⟨k,y⟩: ∃k,k=putAt P (a*37) F:=⟨_,rfl⟩;have f:k.length=P.length:=by rw[y,eH _ _ _ a9k]
  rw[<-y]at i;have a14:(r.set D (.cells k)) h=some (.cells z):=by rw[U.ao _ _ (a4Q a09)];exact E
  have l5:=hn (O:=(a+b)*37) (j1:=L -(a+b)) (i:=d -(a+b)) (l3 _ z x a14 a9k Q) (U.ah r D (.cells k)) a9k;rw[a4I a9k]at l5;refine dA (p5 @l @m @c1 @n @u @w @A @B @c2 @l4 @M @N @i @l5 @U.set_set) ?_;refine⟨_,U.a1,U.ae C.1 (U.bF C.1 H),.inr ⟨D,d,L,_,rfl,U.bF C.1 H,U.ah _ _ _,?_,?_,?_,I,a06⟩⟩
  .rw[eH _ _ _ a9k,f,a13]
  .have:=(pr K S k2 a9k).2;rw[show d*37=a*37+b*37+(o - c)*37 by omega,y,show(a+b)*37=a*37+b*37 by omega];exact this
  grind
 have M:cg 37 (.an h o p 37) none (some (.v (.int .i64 (d)))) none=some (.an h d p 37):=hL a9k;have N:cg 37 (.an h d p 37) (some (.v (.int .i64 (a)))) none none=some (.bx h (a*37) (d - a) (p - a) 37):=gk a9k a9k a9k;have i:cg 37 (.an h d p 37) (some (.v (.int .i64 ((a+b:Nat))))) none none=some (.bx h ((a+b)*37) (d -(a+b)) (p -(a+b)) 37):=gk a9k a9k a9k;have K:z.take (a*37)=x.take (a*37):=by grind
 by_cases aH:((a+b:Nat))<=(c:Int)
 .have cd:=hn (O:=a*37) (j1:=p - a) (i:=d - a) (j r G) E a9k;rw[a4I a9k]at cd;obtain⟨k,y⟩: ∃k,k=putAt z (a*37) F:=⟨_,rfl⟩;have f:k.length=z.length:=by rw[y,eH _ _ _ a9k]
  have a74:(k.drop (c*37)).take ((o - c)*37)=x.drop (c*37):=by
   have a15:(z.take (a*37)++F).length=(a+b)*37:=by grind
   rw[y,putAt,show c*37=(a+b)*37+(c*37 -(a+b)*37) by omega,<-a5w,a7G a15,a5w,<-Q,a6a];congr 1
   .omega
   .congr 1;omega
  rw[<-y]at cd;have a81:cg 37 (.an h o p 37) (some (.v (.int .i64 (c)))) none none=some (.bx h (c*37) (o - c) (p - c) 37):=gk a9k a9k a9k;have a16:bN (r.set h (.cells k)) 37 (.bx h (c*37) (o - c) (p - c) 37)=some (o - c,x.drop (c*37)):=by simp only[bN,U.af (U.ah r h (.cells k))];grind
  have ca:=hn (O:=(a+b)*37) (j1:=p -(a+b)) (i:=d -(a+b)) a16 (U.ah r h (.cells k)) a9k;rw[a4I a9k,U.set_set]at ca;obtain⟨g,k4⟩: ∃g,g=putAt k ((a+b)*37) (x.drop (c*37)):=⟨_,rfl⟩;have a83:g.length=z.length:=by rw[k4,eH _ _ _ a9k,f]
  rw[<-k4]at ca;obtain⟨n5,a18,a19⟩:=uq (j1:=h) (i:=d) (e2:= .i64) a9k X l0;obtain⟨W,k0,n9,l1⟩:=a19 (r.set h (.cells g)) g (U.ah _ _ _) a9k;have a27:a03= .bx h (c*37) (o - c) (p - c) 37:=by grind
  subst a27;refine dA (wY @l @m @c1 @n @u @w @A @B @c2 @aH @M @N @i @cd @ca @a18 @k0 @U.set_set) ?_;refine⟨_,U.a1,U.ae C.1 T,.inr ⟨h,d,p,_,rfl,T,U.ah _ _ _,a9k,?_,?_,a9k,Y⟩⟩
  .rw[l1,k4,y,show d*37=a*37+b*37+(o - c)*37 by omega,show(a+b)*37=a*37+b*37 by omega];exact(pr K S k2 a9k).2
  grind
 .have a29:z≠ []:=by rintro rfl;simp at q;omega
  have a30:s≠ []:=by rintro rfl;simp at n2;omega
  have a34:kU (.bx h ((a+b)*37) (d -(a+b)) (p -(a+b)) 37) (.an V b k8 37) r=some (.v (.bool false)):=x1 rfl rfl k9 (qt E a29) (qt G a30);have cd:=hn (O:=(a+b)*37) (j1:=p -(a+b)) (i:=d -(a+b)) (l3 r z x E a9k Q) E a9k;rw[a4I a9k]at cd;obtain⟨k,y⟩: ∃k,k=putAt z ((a+b)*37) (x.drop (c*37)):=⟨_,rfl⟩;have f:k.length=z.length:=by rw[y,eH _ _ _ a9k]
  rw[<-y]at cd;have k3:(r.set h (.cells k)) V=some (.cells s):=by rw[U.ao _ _ (a4Q k9)];exact G
  have ca:=hn (O:=a*37) (j1:=p - a) (i:=d - a) (j _ k3) (U.ah r h (.cells k)) a9k;rw[a4I a9k,U.set_set]at ca;refine dA (mX @l @m @c1 @n @u @w @A @B @c2 @aH @M @N @i @a34 @cd @ca @U.set_set) ?_;refine⟨_,U.a1,U.ae C.1 T,.inr ⟨h,d,p,_,rfl,T,U.ah _ _ _,?_,?_,?_,a9k,Y⟩⟩
  .rw[eH _ _ _ a9k,f,q]
  .rw[y,show d*37=a*37+b*37+(o - c)*37 by omega,show(a+b)*37=a*37+b*37 by omega];exact(pr K S k2 a9k).1
  grind
theorem YF (L r:U) (k:List R) (P:R) (c a b:Nat) (S:Int) (n:S=(b:Int)) (D:ar L r 37 k P) (T:k.length=c*37) (k3:a<b) (k4:b<=c) (k5:c<=100000):
  AC Tryz.prog 242 [P,.v (.int .i64 (a:Int)),.v (.int .i64 S),.J [] .nil] r λq z=>ar L z 37 (k.take (a*37)++k.drop (b*37)) q:=by
 subst n;obtain⟨d,s,h,p,rfl,C,x,V,t,k6,E,e⟩:=D.an (λu=>by rw[u]at T;simp at T;omega);obtain rfl:c=s:=a9k;have f: ∀z:U,bN z 37 (.J [] .nil)=some (0,[]):=λz=>rfl;refine bc hm Bp a9l ?_;obtain⟨k7,g⟩:=DO (i:=37) (j1:=d) (a:=c) (O:=h) (b9:=a) (e:=b) (e2:= .i64) (b:= .i64) a9k a9k;have i: ¬(a:Int)=b:=a9k;have j:cg 37 (.an d c h 37) none (some (.v (.int .i64 (a)))) none=some (.an d a h 37):=hL a9k;have l:(List.replicate 32 (R.v (.int .u8 0))++ [R.J [] .nil,.J [] .nil]++ [R.v (.int .i64 0),.v (.int .i64 0)]++ [R.J [] .nil]).length=37:=a9l;have v:(k.take (a*37)).length=a*37:=by rw[a4K];omega
 by_cases c1:(b:Int)=c
 .have w:=eq_true c1;obtain rfl:b=c:=a9k;have A:k.drop (b*37)= []:=a5v a9k;rw[A,a5M];refine dA (aJ @g @i @w @j) ?_;refine uo x V (f r) a9k a9k a9k ?_;have F:putAt p (a*37) []=p:=by simp[putAt]
  rw[F,U.sF x];obtain⟨B,cd,ca⟩:=uq (j1:=d) (i:=a) (e2:= .i64) a9k E l;obtain⟨y,G,H,I⟩:=ca r p x V;have K:(a)<(b:Int):=a9k;refine dA (aJ @a6H @K @cd @G) ?_;refine⟨_,U.a1,U.ae D.1 C,.inr ⟨d,a,h,_,rfl,C,U.ah _ _ _,a9k,?_,v,a9k,e⟩⟩;grind
 have k8:b<c:=a9k;obtain⟨M,N,O,Q⟩:=ov (i:=37) (j1:=d) (e2:= .i64) a9k E;have k9:(k.drop (b*37)).length=(c - b)*37:=by rw[a4Y];omega
 obtain⟨o,l0⟩: ∃X,X=a+(c - b):=⟨_,rfl⟩;have Y:(a)+((c - b:Nat))=(o:Int):=a9k;have c2: ¬(h)<(o:Int):=a9k;have Z:cg 37 (.an d c h 37) none (some (.v (.int .i64 (o)))) none=some (.an d o h 37):=hL a9k;have j9:cg 37 (.an d o h 37) (some (.v (.int .i64 (a)))) none none=some (.bx d (a*37) (o - a) (h - a) 37):=gk a9k a9k a9k;have l1:p.take (a*37)=k.take (a*37):=by grind
 have aH:(a)<=(b:Int):=a9k;have F:putAt p (a*37) ([])=p:=by simp[putAt]
 have cd:=hn (O:=a*37) (j1:=h - a) (i:=o - a) (f r) x a9k;rw[a8W,F,U.sF x]at cd;have l2:cg 37 (.an d c h 37) (some (.v (.int .i64 (b)))) none none=some (.bx d (b*37) (c - b) (h - b) 37):=gk a9k a9k a9k;have k0:M= .bx d (b*37) (c - b) (h - b) 37:=by simp_all
 subst k0;have ca:=hn (O:=a*37) (j1:=h - a) (i:=o - a) (Q r p k x a9k t) x a9k;rw[a4I a9k]at ca;obtain⟨y,m⟩: ∃y,y=putAt p (a*37) (k.drop (b*37)):=⟨_,rfl⟩;have l3:y.length=p.length:=by rw[m,eH _ _ _ a9k]
 rw[<-m]at ca;obtain⟨B,k1,k2⟩:=uq (j1:=d) (i:=o) (e2:= .i64) a9k E l;obtain⟨W,G,H,I⟩:=k2 (r.set d (.cells y)) y (U.ah _ _ _) a9k;have l4:(([]:List R).length:Int)=0:=rfl;refine dA (mX @g @i @c1 @j @N @O @Int.add_zero @Y @c2 @aH @Z @j9 @cd @ca @k1 @G @U.set_set) ?_;refine⟨_,U.a1,U.ae D.1 C,.inr ⟨d,o,h,_,rfl,C,U.ah _ _ _,a9k,?_,?_,a9k,e⟩⟩;grind[putAt,List.take_left',List.length_append];grind
end Go.Proofs.YtlgnfcaolejgeaaGreat
namespace Go.bz
open Go
structure jR (c:U) (k:Nat) (a:R) (n:Nat) (us:List R):Prop where
 src: ∀b,c.sub b->bN b k a=some (n,us)
 len:fb a=some (.v (.int .i64 (n:Int)))
 one:a.cells= [a]
 full:us.length=n*k
variable{f t e4:U}{g A e1:List R}{e i v O b9 j1:Nat}
def jR.mono {a:R} (b:jR f e a i g) (c:f.sub t):jR t e a i g:=⟨λd h=>b.src d (U.au c h),b.len,b.one,b.full⟩
theorem jR.J {s:U}{b:Nat}{a:List R}{o:Own} (c:aT b a):jR s b (.J a o) a.length (flat a):=⟨λk _=>by
 have:=a4Z.2 λd h=>decide_eq_true (c d h);simp only[bN,this,if_true],rfl,rfl,dc c⟩
variable{n b3:R}
theorem ar.aj (b:ar t f e g n) (k:0<e): ∃a,g.length=a*e/\jR f e n a g:=by
 obtain⟨a,c,_,d⟩:=b.src;refine⟨a,c,λo h=> ?_,d,?_,c⟩
 .obtain⟨p,r,x,_⟩:=(ar.mono b h).src;grind
 .rcases b.2 with ⟨_,rfl|rfl⟩|⟨y,a,z,C,rfl,_⟩<;>rfl
variable{s a7:R -> U -> Prop}{b5:FuncId}{m:Program}
theorem AC.nq (h:View f n t b3) (k:AC m b5 (g++b3::A) t s):AC m b5 (g++n::A) f s:=by
 refine k.pre λC o p a r=> ?_;have x:=a.2 g.length n a9l;obtain⟨y,b,D⟩:=h p o _ r x;refine⟨y,?_,b⟩;have c:=a.mono b.le;refine⟨by rw[c.1];simp,λd z E=> ?_⟩;by_cases F:d=g.length;simp_all
 .refine c.2 d z ?_;grind
end Go.bz
namespace Go.Proofs.YtlgnfcaolejgeaaGreat
open Go Go.bz
theorem YG (a:Nat) (C:a<=100000000) (d:U):
  AC Tryz.prog 354 [.J [] .nil,.v (.int .i64 (a:Int))] d λr x=>ar d x 1 [] r:=by
 refine bc hm Sx a9l ?_;have h: ¬(a:Int)<0:=a9k;have k:(a:Int) -(0 - 0)=a:=a9k;have o:cg 1 (.J [] .nil) none (some (.v (.int .i64 0))) none=some (.J [] .nil):=wZ;by_cases c1:(0:Int)<a
 .refine dA (bm @h @k @c1 @o @a8y) ?_;refine Ci a9k a9k a9k λb c D p E y F=> ?_;have z:cg 1 (.an b a c 1) none (some (.v (.int .i64 0))) none=some (.an b 0 c 1):=hL (v:=0) a9k;refine dA @z ?_;refine⟨_,U.a1,U.ae U.a1 p,.inr ⟨b,0,c,_,rfl,p,U.ah _ _ _,?_,a9l,a9l,a9k,y⟩⟩;simp_all
 .refine dA (bm @h @k @c1 @o @a8y) ?_;exact⟨_,U.a1,ar.nil U.a1⟩
def YH (d:U) (h k:R) (D:Own) (o r:Nat) (V i:List R) (z:jR d 1 h o V) (C:jR d 1 k r i) (k2:o<=100000) (k3:r<=100000):
  AC Tryz.prog 342 [.J [h,k] D] d λB b=>ar d b 1 (V++i) B:=by
 refine bc hm Sk a9l ?_;have H:=z.len;have I:=C.len;have u:bR d 1 (.J [h,k] D) [h,k]:=bR.J λk4 v=>by
  simp only[a5g,a6h,or_false]at v;rcases v with rfl|rfl
  .rw[z.one];rfl
  .rw[C.one];rfl
 have W:(([h,k].length):Int)=2:=rfl;obtain⟨K,e,M⟩:=u.get 0 h rfl;obtain⟨N,f,O⟩:=u.get 1 k rfl;have w: ∀b,d.sub b->dn false 1 b K=some h:=λb j=>by rw[M.ld b j false 1 a9k (by rw[z.one];simp),z.one];rfl
 have A: ∀b,d.sub b->dn false 1 b N=some k:=λb j=>by rw[O.ld b j false 1 a9k (by rw[C.one];simp),C.one];rfl
 have Q:((0:Nat):Int)=0:=rfl;have X:((1:Nat):Int)=1:=rfl;rw[Q]at e;rw[X]at f;have Y:=w d U.a1;have Z:=A d U.a1;have bm: ¬(o:Int)<0:=a9k;have bs: ¬(o)+(r:Int)<0:=a9k;refine dA @W ?_;refine cu (λa b=>b=d/\a 0= .J [h,k] D/\a 9= .J [h,k] D/\a 10= .v (.int .i64 2)/\((a 11= .v (.int .i64 0)/\a 3= .v (.int .i64 0))\/(a 11= .v (.int .i64 1)/\a 3= .v (.int .i64 o))\/(a 11= .v (.int .i64 2)/\a 3= .v (.int .i64 ((o)+(r))))))
  (λa _=>match a 11 with| .v (.int _ l)=>2 - l.toNat| _=>0) ⟨rfl,?_⟩ ?_
 .refine dA @W ?_;simp
 rintro a m ⟨rfl,E,F,G,n⟩;rcases n with ⟨x,p⟩|⟨x,p⟩|⟨x,p⟩
 .refine dA (cf @E @F @G @x @p @e @Y @H @bm @a8u) ?_;simp
 .refine dA (cW @E @F @G @x @p @f @Z @I @bs) ?_;simp
 .have j9:(o)+(r)=((o+r:Nat):Int):=a9k;rw[j9]at p;simp -dsimp -implicitDefEqProofs (disch:=first|omega|assumption|(simp only[bk,Nat.reduceAdd];try omega)) only[go_sem,simprocAttr,-List.reduceReplicate,↓eI,E,F,G,x,p];refine ai (YG (o+r) a9k _) ?_;intro k5 k6 k0;simp -dsimp -implicitDefEqProofs (disch:=first|omega|assumption|(simp only[bk,Nat.reduceAdd];try omega)) only[go_sem,simprocAttr,-List.reduceReplicate,↓eI,E,F,G,x,p,W];refine cu (λa b=>a 25= .J [h,k] D/\a 26= .v (.int .i64 2)/\((a 27= .v (.int .i64 0)/\ar m b 1 [] (a 6))\/(a 27= .v (.int .i64 1)/\ar m b 1 V (a 6))\/(a 27= .v (.int .i64 2)/\ar m b 1 (V++i) (a 6))))
   (λa _=>match a 27 with| .v (.int _ l)=>2 - l.toNat| _=>0) ?_ ?_
  .simp -dsimp -implicitDefEqProofs (disch:=first|omega|assumption|(simp only[bk,Nat.reduceAdd];try omega)) only[go_sem,simprocAttr,-List.reduceReplicate,↓eI,E,F,G,x,p,W];exact .inl k0
  rintro a g ⟨L,P,n⟩;have S:=z.full;have q:=C.full;rcases n with ⟨y,c⟩|⟨y,c⟩|⟨y,c⟩
  .have T:=w g c.1;generalize s:a 6=ek at c;simp -dsimp -implicitDefEqProofs (disch:=first|omega|assumption|(simp only[bk,Nat.reduceAdd];try omega)) only[go_sem,simprocAttr,-List.reduceReplicate,↓eI,L,P,y,e,T,s];refine ff c a9k (z.src g c.1) S (by rw[a4R,S];omega) (by rw[a4R,S];omega) λk1 b t=> ?_;simp -dsimp -implicitDefEqProofs (disch:=first|omega|assumption|(simp only[bk,Nat.reduceAdd];try omega)) only[go_sem,simprocAttr,-List.reduceReplicate,↓eI,L,P,y,e,T];exact .inr (.inl t)
  .have T:=A g c.1;generalize s:a 6=ek at c;simp -dsimp -implicitDefEqProofs (disch:=first|omega|assumption|(simp only[bk,Nat.reduceAdd];try omega)) only[go_sem,simprocAttr,-List.reduceReplicate,↓eI,L,P,y,f,T,s];refine ff c a9k (C.src g c.1) q (by rw[S,q];omega) (by rw[S,q];omega) λk1 b t=> ?_;simp -dsimp -implicitDefEqProofs (disch:=first|omega|assumption|(simp only[bk,Nat.reduceAdd];try omega)) only[go_sem,simprocAttr,-List.reduceReplicate,↓eI,L,P,y,f,T];exact .inr (.inr t)
  .refine dA (aH @L @P @y) ?_;exact⟨_,U.a1,c⟩
def YI (a:Nat) (D:a<=100000000) (d:U):
  AC Tryz.prog 355 [.J [] .nil,.v (.int .i64 (a:Int))] d λr x=>ar d x 37 [] r:=by
 refine bc hm Sz a9l ?_;have h: ¬(a:Int)<0:=a9k;have k:(a:Int) -(0 - 0)=a:=a9k;have o:cg 37 (.J [] .nil) none (some (.v (.int .i64 0))) none=some (.J [] .nil):=wZ;by_cases c1:(0:Int)<a
 .refine dA (bm @h @k @c1 @o @a8y) ?_;refine Ci a9k a9k a9k λb c E p F y z=> ?_;have C:cg 37 (.an b a c 37) none (some (.v (.int .i64 0))) none=some (.an b 0 c 37):=hL (v:=0) a9k;refine dA @C ?_;refine⟨_,U.a1,U.ae U.a1 p,.inr ⟨b,0,c,_,rfl,p,U.ah _ _ _,?_,a9l,a9l,a9k,y⟩⟩;rw[a4J,kV,z];simp;omega
 .refine dA (bm @h @k @c1 @o @a8y) ?_;exact⟨_,U.a1,ar.nil U.a1⟩
def YJ (d:U) (h k:R) (D:Own) (o r:Nat) (V i:List R) (z:jR d 37 h o V) (C:jR d 37 k r i) (k2:o<=100000) (k3:r<=100000):
  AC Tryz.prog 343 [.J [h,k] D] d λB b=>ar d b 37 (V++i) B:=by
 refine bc hm Sm a9l ?_;have H:=z.len;have I:=C.len;have u:bR d 1 (.J [h,k] D) [h,k]:=bR.J λk4 v=>by
  simp only[a5g,a6h,or_false]at v;rcases v with rfl|rfl
  .rw[z.one];rfl
  .rw[C.one];rfl
 have W:(([h,k].length):Int)=2:=rfl;obtain⟨K,e,M⟩:=u.get 0 h rfl;obtain⟨N,f,O⟩:=u.get 1 k rfl;have w: ∀b,d.sub b->dn false 1 b K=some h:=λb j=>by rw[M.ld b j false 1 a9k (by rw[z.one];simp),z.one];rfl
 have A: ∀b,d.sub b->dn false 1 b N=some k:=λb j=>by rw[O.ld b j false 1 a9k (by rw[C.one];simp),C.one];rfl
 have Q:((0:Nat):Int)=0:=rfl;have X:((1:Nat):Int)=1:=rfl;rw[Q]at e;rw[X]at f;have Y:=w d U.a1;have Z:=A d U.a1;have bm: ¬(o:Int)<0:=a9k;have bs: ¬(o)+(r:Int)<0:=a9k;refine dA @W ?_;refine cu (λa b=>b=d/\a 0= .J [h,k] D/\a 9= .J [h,k] D/\a 10= .v (.int .i64 2)/\((a 11= .v (.int .i64 0)/\a 3= .v (.int .i64 0))\/(a 11= .v (.int .i64 1)/\a 3= .v (.int .i64 o))\/(a 11= .v (.int .i64 2)/\a 3= .v (.int .i64 ((o)+(r))))))
  (λa _=>match a 11 with| .v (.int _ l)=>2 - l.toNat| _=>0) ⟨rfl,?_⟩ ?_
 .refine dA @W ?_;simp
 rintro a m ⟨rfl,E,F,G,n⟩;rcases n with ⟨x,p⟩|⟨x,p⟩|⟨x,p⟩
 .refine dA (cf @E @F @G @x @p @e @Y @H @bm @a8u) ?_;simp
 .refine dA (cW @E @F @G @x @p @f @Z @I @bs) ?_;simp
 .have j9:(o)+(r)=((o+r:Nat):Int):=a9k;rw[j9]at p;simp -dsimp -implicitDefEqProofs (disch:=first|omega|assumption|(simp only[bk,Nat.reduceAdd];try omega)) only[go_sem,simprocAttr,-List.reduceReplicate,↓eI,E,F,G,x,p];refine ai (YI (o+r) a9k _) ?_;intro k5 k6 k0;simp -dsimp -implicitDefEqProofs (disch:=first|omega|assumption|(simp only[bk,Nat.reduceAdd];try omega)) only[go_sem,simprocAttr,-List.reduceReplicate,↓eI,E,F,G,x,p,W];refine cu (λa b=>a 25= .J [h,k] D/\a 26= .v (.int .i64 2)/\((a 27= .v (.int .i64 0)/\ar m b 37 [] (a 6))\/(a 27= .v (.int .i64 1)/\ar m b 37 V (a 6))\/(a 27= .v (.int .i64 2)/\ar m b 37 (V++i) (a 6))))
   (λa _=>match a 27 with| .v (.int _ l)=>2 - l.toNat| _=>0) ?_ ?_
  .simp -dsimp -implicitDefEqProofs (disch:=first|omega|assumption|(simp only[bk,Nat.reduceAdd];try omega)) only[go_sem,simprocAttr,-List.reduceReplicate,↓eI,E,F,G,x,p,W];exact .inl k0
  rintro a g ⟨L,P,n⟩;have S:=z.full;have q:=C.full;rcases n with ⟨y,c⟩|⟨y,c⟩|⟨y,c⟩
  .have T:=w g c.1;generalize s:a 6=ek at c;simp -dsimp -implicitDefEqProofs (disch:=first|omega|assumption|(simp only[bk,Nat.reduceAdd];try omega)) only[go_sem,simprocAttr,-List.reduceReplicate,↓eI,L,P,y,e,T,s];refine ff c a9k (z.src g c.1) S (by rw[a4R,S];omega) (by rw[a4R,S];omega) λk1 b t=> ?_;simp -dsimp -implicitDefEqProofs (disch:=first|omega|assumption|(simp only[bk,Nat.reduceAdd];try omega)) only[go_sem,simprocAttr,-List.reduceReplicate,↓eI,L,P,y,e,T];exact .inr (.inl t)
  .have T:=A g c.1;generalize s:a 6=ek at c;simp -dsimp -implicitDefEqProofs (disch:=first|omega|assumption|(simp only[bk,Nat.reduceAdd];try omega)) only[go_sem,simprocAttr,-List.reduceReplicate,↓eI,L,P,y,f,T,s];refine ff c a9k (C.src g c.1) q (by rw[S,q];omega) (by rw[S,q];omega) λk1 b t=> ?_;simp -dsimp -implicitDefEqProofs (disch:=first|omega|assumption|(simp only[bk,Nat.reduceAdd];try omega)) only[go_sem,simprocAttr,-List.reduceReplicate,↓eI,L,P,y,f,T];exact .inr (.inr t)
  .refine dA (aH @L @P @y) ?_;exact⟨_,U.a1,c⟩
def fK (k a:U) (b c:Nat) (d:Except Int (List ay)×ag) (o:R):Prop:=
 match d.1 with
 | .error p=>bB a b c d.2/\Ext b c k a/\p≠0/\o= .aL [.J [] .nil,.v (.int .i64 p)]
 | .ok bI=> ∃r h,az bu bI r/\o= .aL [h,.v (.int .i64 0)]/\dq k a b c d.2 37 (flat r) h/\(bI= []->h= .J [] .nil)
theorem fK.base {d h k:U}{b c:Nat}{o:Except Int (List ay)×ag}{p:R} (a:fK h k b c o p) (r:Ext b c d h):fK d k b c o p:=by
 unfold fK at a|-;split at a
 .exact⟨a.1,r.trans a.2.1,a.2.2⟩
 grind[dq.base]
variable{n b3:R}{f t e4:U}{e i v O b9 j1:Nat}
theorem fK.shape {a:Except Int (List ay)×ag} (d:fK f t e i a n): ∃b c,n= .aL [b,.v (.int .i64 c)]:=by grind[fK]
def YK (b:U) (d k:Nat) (h:ag) (E:bB b d k h) (a:List (List Int)) (o:List R) (p:Own) (c:Nat) (F:1<=c) (G:c<=8) (r:az isRow a o) (L:a.length<=100000):
  AC Tryz.prog 238 [.J o p,.bG 155 [dT d c] []] b λx P=>fK b P d k (ou h c a) x:=by
 refine bc hm Qb a9l ?_;have S:=r.len;refine aj @S ?_;refine ai (xF a.length a9k b) ?_;rintro _ b ⟨rfl,rfl⟩;refine bT ?_;have y:a6.bU a.length<=100000:=by unfold a6.bU;omega
 refine ai (Yz a o p (a6.bU a.length) b r L y) ?_;rintro _ T ⟨z,gs,V,rfl,W⟩;refine bT ?_;have C:=np (g:=a6.bU a.length) (l:=a);refine ai (YA T d k h (E.mono z) _ gs V c F G W (λe f=>by have:=C.2 e f;omega) (by rw[C.1];exact y)) ?_;intro x i g;have D:=fK.base (o:=ou h c a) g (Ext.of z);obtain⟨j,l,rfl⟩:=D.shape;refine bT ?_;exact⟨_,U.a1,D⟩
def DR (d p:U) (b h:Nat) (k:ag) (D:bB d b h k) (c:List (List Int)) (o:List R) (r:R) (E:ar d p 1 (flat o) r) (a:Nat) (F:1<=a) (G:a<=8) (x:az isRow c o) (L:c.length<=100000):
  AC Tryz.prog 238 [r,.bG 155 [dT b a] []] p λy z=>fK d z b h (ou k a c) y:=by
 obtain⟨P,S,C⟩:=ar.DI E x;refine AC.nq (g:= []) S ?_;exact(YK P b h k (D.mono C) c o .any a F G x L).mono λy z T=>fK.base T (Ext.of C)
def YL (b:U) (d k:Nat) (h:ag) (E:bB b d k h) (a:List (ay)) (o:List R) (p:Own) (c:Nat) (F:1<=c) (G:c<=8) (r:az bu a o) (L:a.length<=100000):
  AC Tryz.prog 241 [.J o p,.bG 243 [dT d c] []] b λx P=>fK b P d k (jQ h c a) x:=by
 refine bc hm Qh a9l ?_;have S:=r.len;refine aj @S ?_;refine ai (xF a.length a9k b) ?_;rintro _ b ⟨rfl,rfl⟩;refine bT ?_;have y:a6.bU a.length<=100000:=by unfold a6.bU;omega
 refine ai (DM a o p (a6.bU a.length) b r L y) ?_;rintro _ T ⟨z,gs,V,rfl,W⟩;refine bT ?_;have C:=np (g:=a6.bU a.length) (l:=a);refine ai (DN T d k h (E.mono z) _ gs V c F G W (λe f=>by have:=C.2 e f;omega) (by rw[C.1];exact y)) ?_;intro x i g;have D:=fK.base (o:=jQ h c a) g (Ext.of z);obtain⟨j,l,rfl⟩:=D.shape;refine bT ?_;exact⟨_,U.a1,D⟩
def DS (d p:U) (b h:Nat) (k:ag) (D:bB d b h k) (c:List (ay)) (o:List R) (r:R) (E:ar d p 37 (flat o) r) (a:Nat) (F:1<=a) (G:a<=8) (x:az bu c o) (L:c.length<=100000):
  AC Tryz.prog 241 [r,.bG 243 [dT b a] []] p λy z=>fK d z b h (jQ k a c) y:=by
 obtain⟨P,S,C⟩:=ar.um E x;refine AC.nq (g:= []) S ?_;exact(YL P b h k (D.mono C) c o .any a F G x L).mono λy z T=>fK.base T (Ext.of C)
def DT: ∀(a:List ay) (b:gM),(a.foldl er b).size=b.size+(a.map (·.size)).sum
 | [],b=>by simp
 |c::a,b=>by rw[a5N,DT a];simp[er];omega
def xN: ∀(b:List (List Int×Bool)) (a:gM),(b.foldl dK a).size=a.size
 | [],a=>rfl
 |c::b,a=>by rw[a5N,xN b];unfold dK;split<;>rfl
def xO (a:c3):(eD a).size=a.rows.length+(a.kids.map (·.size)).sum:=by unfold eD;rw[DT,xN]
structure ps (d:Nat) (k:ay) (n:c3):Prop where
 ok:dR d n=true
 eq:k=eS n
 size:k.size=n.rows.length+(n.kids.map (·.size)).sum
 o7:k.size<=1048576
variable{w j3:ay}{c0:c3}
def ur (a:fG e c0=some w):ps e w c0:=by
 unfold fG at a;split at a
 .rename_i b;split at a
  .cases a
  .rename_i c;obtain rfl:=a4G a;exact⟨b,rfl,xO c0,by show(eD c0).size<= _;omega⟩
 .cases a
variable{H:ag}
def sG (a:iC H e w=some c0):ps e w c0/\(c0.kind=2\/c0.kind=3):=by
 unfold iC at a;split at a
 .cases a
 .rename_i d hm;split at a
  .rename_i b;obtain rfl:=a4G a;refine⟨?_,b⟩;unfold fj at hm;split at hm
   .cases hm
   .split at hm
    .cases hm
    .split at hm
     .rename_i c;obtain rfl:=a4G hm;exact ur c
     .cases hm
  .cases a
theorem ps.leaf (b:ps e w c0) (c:c0.kind=2):1<=c0.rows.length/\c0.rows.length<=4/\c0.kids= []/\(∀a∈c0.rows,a.1.length=e/\a.2=true):=by have:=b.ok;simp_all [dR]
theorem ps.inner (k:ps e w c0) (h:c0.kind=3):c0.rows= []/\2<=c0.kids.length/\c0.kids.length<=4/\(∀a∈c0.kids,a.key.length=e/\a≠aA/\fv e a=true/\1<=a.size/\a.size<w.size):=by
 have d:=k.ok;unfold dR at d;have x: ¬c0.kind=1:=by rw[h];decide
 have y: ¬c0.kind=2:=by rw[h];decide
 rw[if_neg x,if_neg y,if_pos h]at d;simp only[a4L,a4Z,decide_eq_true_eq,a6n,decide_eq_false_iff_not]at d;obtain⟨⟨_,z⟩,⟨⟨C,D⟩,E⟩,o⟩:=d;have p:=a4N C;have F: ∀a∈c0.kids,1<=a.size:=λa b=>by
  simp_all [fv]
 refine⟨p,D,E,λa b=>⟨(o a b).1,(o a b).2,z a b,F a b,?_⟩⟩;have r:=k.size;rw[p]at r;simp only[a4R]at r;have G: ∀(c:List ay),(∀a∈c,1<=a.size)->(c.length:Int)<=(c.map (·.size)).sum:=by
  intro c
  induction c with
  |nil=>intro _;simp
  |cons L c ih=>grind
 obtain⟨P,S,T⟩:=a7m b;grind
def gq (d:Nat) (b:List Int):Nat->ag->ay->Except Int (List ay)×ag
  |0,c,_=>(.error 21,c)
  |k+1,c,o=>match iC c d o with
    |none=>(.error 21,c)
    |some a=>
      if a.kind=2 then
        (if kB (a.rows.map Prod.fst) b=true then(.error 8,c)
         else ou c d ((a.rows.map Prod.fst).take (eW (a.rows.map Prod.fst) b)++b::(a.rows.map Prod.fst).drop (eW (a.rows.map Prod.fst) b)))
      else match a.kids[hx b a]? with
        |none=>(.error 21,c)
        |some p=>match gq d b k c p with
          |(.error r,h)=>(.error r,h)
          |(.ok x,h)=>jQ h d (a.kids.take (hx b a)++(x++a.kids.drop (hx b a+1)))
theorem xP (b:List Int): ∀(a:List (List Int)),a≠ []->a6.cT bC b a<a.length
 | [],c=>absurd rfl c
 | [_],_=>by simp[a6.cT]
 | _::d::h,_=>by
  have:=xP b (d::h) a9l;grind[a6.cT,List.length_cons]
theorem xQ (p:Nat) (r:List Int): ∀(d:Nat) (c h:ag) (k:ay) (b:List ay),gq p r d c k=(.ok b,h)->1<=b.length/\b.length<=3
 |0,c,h,k,b,a=>by rw[gq]at a;simp_all
 |d+1,c,h,k,b,a=>by
  rw[gq]at a;split at a
  .simp_all
  rename_i P y;obtain⟨x,z⟩:=sG y;split at a
  .rename_i o;obtain⟨C,D,_⟩:=x.leaf o;split at a
   .simp_all
   .have:=qK a;rw[this];simp only[a4R,a5h,a6.chunks,(np).1,a6.bU,a4J,a4M,a4K,a4Y,a4T];omega
  .rename_i o;obtain⟨_,C,D,_⟩:=x.inner (z.resolve_left o);split at a
   .simp_all
   .rename_i E S;split at a
    .simp_all
    .rename_i F G L;have ih:=xQ p r d c G E F L;have:=qK a;rw[this];simp only[a4R,a5h,a6.chunks,(np).1,a6.bU,a4J,a4K,a4Y];omega
theorem YM (D m:Nat) (p:List Int) (E:Own) (x:Nat) (n0:1<=x) (n1:x<=8): ∀(S:Nat) (T:U) (F:ag) (z:ay) (n q s:Own),bB T D m F->z.sum.length=32->z.cC->0<S->z.size<S->
  AC Tryz.prog 156 [dT D x,.agg (ab z n q s),.J (ad p) E] T λZ a99=>fK T a99 D m (gq x p S F z) Z:=by
 intro S
 induction S with
 |zero=>intro T F z n q s f n2 a18 b59 b00;omega
 |succ S ih=>
 intro T F z n q s f n2 a18 b60 b00;refine bc hm NO a9l ?_;have h: ∀a19,(R.agg a19).cells=a19:=λ_=>rfl;have B: ∀d b c C y a27:R,putAt [d,b,c] 0 [C,y,a27]= [C,y,a27]:=λ_ _ _ _ _ _=>rfl;have G: ∀d b c,aX true 3 [d,b,c]= .agg [d,b,c]:=λ_ _ _=>rfl;have g: ∀d b,aX true 2 [d,b]= .agg [d,b]:=λ_ _=>rfl;have i: ∀d b:R,List.take 2 [d,b]= [d,b]:=λ_ _=>rfl;have V: ∀d b c:R,List.take 3 [d,b,c]= [d,b,c]:=λ_ _ _=>rfl;have H: ∀d b c:R,[d,b,c].length=3:=λ_ _ _=>rfl;have b01: ∀d b c:R,aX false 1 [d,b,c]=d:=λ_ _ _=>rfl;have a29: ∀d b c:R,aX false 1 ([d,b,c].drop 2)=c:=λ_ _ _=>rfl;have a30:=aW (M:=n) (e6:=q) (h5:=s) n2;have a34:=a30.len;refine aj @h ?_;refine aN λdg a36=> ?_;refine aj (c2 @h @a34) ?_;refine aN λeo k7=> ?_;have n3:dg≠eo:=by rintro rfl;rw[U.ah]at k7;cases k7
 have b02:T eo=none:=by rw[U.ao _ _ (a4Q n3)]at k7;exact k7
 obtain⟨I,k8⟩: ∃I:U,I=(T.set dg (.cells [.ptr D 0,.v (.int .i64 (x))])).set eo (.cells (ab z n q s)):=⟨_,rfl⟩;have j9:T.sub I:=by rw[k8];exact U.ae (U.ae U.a1 a36) b02
 have aJ:I eo=some (.cells (ab z n q s)):=by rw[k8,U.ah]
 have aH:I dg=some (.cells [.ptr D 0,.v (.int .i64 (x))]):=by rw[k8,U.ao _ _ n3,U.ah]
 refine aj (bt @h @a34 @U.ao @n3 @U.ah a30.t37 @i @g) ?_;rw[<-k8];refine ai (xJ I D m F (f.mono j9) z n q s n2 a18 x n0 n1) ?_;rintro Z n4 ⟨k9,l0⟩;obtain⟨a38,k⟩: ∃a38,a38=gq x p (S+1) F z:=⟨_,rfl⟩;rw[<-k];rw[gq]at k;cases n5:iC F x z with
 |none=>rw[n5]at l0 k;obtain rfl:=l0;simp only at k;subst k;simp -dsimp -implicitDefEqProofs (disch:=first|omega|assumption|(simp only[bk,Nat.reduceAdd];try omega)) only[go_sem,simprocAttr,-List.reduceReplicate,h,B,H];refine aN λK M=> ?_;refine aj (bm @h @B @H @G @U.set_set) ?_;have a42:=U.au (U.au j9 k9) (U.ae (Y:= .cells [.v (.int .u8 0),.J [] .nil,.J [] .nil]) U.a1 M);exact⟨_,U.a1,f.mono a42,Ext.of a42,a9o,rfl⟩
 |some a=>
  rw[n5]at l0 k;simp only at k;obtain⟨C,y,rfl,b03⟩:=l0;obtain⟨a43,b04⟩:=sG n5;simp -dsimp -implicitDefEqProofs (disch:=first|omega|assumption|(simp only[bk,Nat.reduceAdd];try omega)) only[go_sem,simprocAttr,-List.reduceReplicate,h,B,H];refine aN λK M=> ?_;obtain⟨L,l1⟩: ∃L:U,L=n4.set K (.cells [.v (.int .u8 (a.kind.toNat)),C,y]):=⟨_,rfl⟩;have n9:n4.sub L:=by rw[l1];exact U.ae U.a1 M
  have bt:L K=some (.cells [.v (.int .u8 (a.kind.toNat)),C,y]):=by rw[l1,U.ah]
  have a47:=iA a.kind 2 a9k;simp only[a7K]at a47;rw[show UInt8.ofNat 2=2 from rfl]at a47;refine aj (c6 @h @B @H @G @U.set_set @U.ah @b01) ?_;rw[U.set_set,<-l1];obtain⟨b05,l2,P,a00,l3,a48,j,b06,b07⟩:=b03;have b08:fY n4 a C y l2 P:=⟨a48,j,(bR.dQ a00 a9k rfl (a48.cells λ_ _=>df.cells)).mono l3.1,bR.dQ l3 a9k rfl (j.cells λ_ _=>bu.cells),b06,b07⟩;have k0:=b08.mono n9;have a52:=(f.mono (U.au j9 k9)).cE M;have a56:=f.cE a36;have l4:=U.au j9 (U.au k9 n9);have a57:=n9 _ _ (k9 _ _ aH);have a61:=f.mono l4;by_cases N:a.kind=2
  .rw[if_pos N]at k;have a01:((a.kind.toNat:Int)=2)=True:=by rw[N];simp
   refine aj (c6 @h @B @H @G (U.af bt) @a01 @V) ?_;refine ai (xI a l2 P C y L k0) ?_;rintro d t ⟨b09,a62,u⟩;have b10:=bR.dQ u a9k rfl (a62.cells λ_ _=>isRow.cells);refine aj @h ?_;have b61:(a.rows.map Prod.fst).length=a.rows.length:=a4T _;obtain⟨b11,b12,_,_⟩:=a43.leaf N;generalize b13:a.rows.map Prod.fst=k1 at*;refine ai (DG k1 b09 d p E t a62 b10 a9k) ?_;rintro _ t ⟨rfl,b62,rfl⟩;have b14:=u.1 _ _ bt;have a02:=u.1 _ _ a57;generalize eW k1 p=o at*;cases a63:kB k1 p with
   |true=>rw[if_pos a63]at k;subst k;refine aj @h ?_;exact⟨_,U.a1,a61.mono u.1,Ext.of (U.au l4 u.1),a9o,rfl⟩
   |false=>
    rw[if_neg (by simp[a63])]at k;have b15:nZ 1 U.emp [R.J (ad p) E] (bO (λ_ _=>True) ())=True:=eq_true (eP (by simp[aT,R.cells]) a9l λ_ _=>trivial);refine aj (cW @h (U.af b14) (U.af a02) @G @g @i @V @b15 @rQ) ?_;refine ai (xI a l2 P C y t (k0.mono u.1)) ?_;rintro a4 b63 ⟨a03,k2,k3⟩;have b16:=k3.1 _ _ a02;refine aj (bs @h (U.af b16) @G @g @i @V) ?_;rw[b13]at k2;refine eP (by simp[aT,R.cells]) a9l λa04 a65=> ?_;have b17:flat [R.J (ad p) E]= [R.J (ad p) E]:=rfl;rw[b17,a6e];have W:=ar.new (ob:= .cells [R.J (ad p) E]) k3 a65;have b18:=U.bF k3.1 a65;rw[nn k2]at W;obtain⟨r,l⟩: ∃r:U,r=t.set a04 (.cells [R.J (ad p) E]):=⟨_,rfl⟩;have a68:t.sub r:=by rw[l];exact U.ae U.a1 b18
    have b19:r a04=some (.cells [R.J (ad p) E]):=by rw[l,U.ah]
    rw[<-l]at W;have b64:=k2.len;have l5:=a68 _ _ a02;have a05:=W.1 _ _ l5;refine aj (bs @h (U.af a05) @G @g @i @V) ?_;refine ai (YE r _ a03 a4 W (by grind) o a9k a9k _ a04 b19) ?_;intro ds a06 v;have b20:=v.1 _ _ l5;have l6:az isRow (k1.take o++p::k1.drop o) (a03.take o++R.J (ad p) E::a03.drop o):=(k2.take o).append ⟨⟨E,rfl⟩,k2.drop o⟩;rw[<-nn l6]at v;refine aj (bs @h (U.af b20) @G @g @i @V) ?_;have a69:=U.au l4 (U.au u.1 a68);refine ai (DR r a06 D m F (f.mono a69) _ _ ds v x n0 n1 l6 a9m) ?_;intro Z b21 w;rw[<-k]at w;obtain⟨b22,b23,rfl⟩:=w.shape;refine aj @h ?_;exact⟨_,U.a1,fK.base w (Ext.of a69)⟩
  .have l5:=b04.resolve_left N;rw[if_neg N]at k;have a01: ¬(a.kind.toNat:Int)=2:=λe=>N (by simp_all);refine aj (c6 @h @B @H @G (U.af bt) @a01 @V) ?_;refine ai (DF a l2 P C y p E L k0) ?_;rintro _ L ⟨rfl,rfl⟩;obtain⟨b65,b11,b12,b24⟩:=a43.inner l5;have a07:hx p a<a.kids.length:=by grind[xP,List.length_map]
   generalize hx p a=o at*;have a08:=a4H a07;have a71:a.kids[o]'a07∈a.kids:=a5k _;rw[a08]at k;simp only at k;generalize a.kids[o]'a07=c at a08 a71 k;obtain⟨b66,b25,a73,b26,O,Q,X,rfl⟩:=k0.kids.get a08;obtain⟨_,_,_,b67,b68⟩:=b24 c a71;obtain⟨Y,l7⟩: ∃Y:U,Y=b05.set K (.cells [.v (.int .u8 (a.kind.toNat)),C,y]):=⟨_,rfl⟩;have l8:=ar.new (ob:= .cells [.v (.int .u8 (a.kind.toNat)),C,y]) l3 M;rw[<-l1,<-l7]at l8;have b27:=U.bF l3.1 M;have a74:=U.au j9 a00.1;have a81:T.sub Y:=by rw[l7];exact U.ae a74 (U.bF a74 b27)
   have b28:Y K=some (.cells [.v (.int .u8 (a.kind.toNat)),C,y]):=by rw[l7,U.ah]
   have a05:Y dg=some (.cells [.ptr D 0,.v (.int .i64 (x))]):=by
    have:dg≠K:=by grind
    rw[l7,U.ao _ _ this];exact a00.1 _ _ aH
   have b29:=dq.of l8 (f.mono a81) Ext.refl;obtain⟨b69,b30,a83⟩:=k0.gT.get o _ b25;have a84:=aW (M:=O) (e6:=Q) (h5:=X) a73;have b31:(R.agg (ab c O Q X)).cells=ab c O Q X:=rfl;rw[b31]at a83;have a86:=a83.ld L U.a1 true 37 a9k (by rw[a84.len];omega);rw[show aX true 37 (ab c O Q X)= .agg (ab c O Q X) by rw[aX,if_pos rfl,a84.t37]]at a86;refine aj (cf @h (U.af bt) (U.af a57) @G @g @i @V @a29 @b30 @a86) ?_;refine ai (ih L F c O Q X a61 a73 b26 a9k a9k) ?_;intro Z t a09;have a88:=λk4 k5 e=>xQ x p S F k4 c k5 e;generalize gq x p S F c=b32 at k a09 a88;obtain⟨res,k4⟩:=b32;cases res with
   |error b70=>obtain⟨l9,b33,a89,rfl⟩:=a09;simp only at k l9;subst k;refine aj (c2 @h @a89) ?_;exact⟨_,U.a1,l9,(Ext.of l4).trans b33,a89,rfl⟩
   |ok k5=>
    obtain⟨k6,b71,a10,rfl,⟨b72,a11,a13,a90⟩,_⟩:=a09;obtain⟨b73,b74⟩:=a88 k4 k5 rfl;simp only at k a13;have b34:=a10.len;have b35:(flat k6).length=k5.length*37:=by rw[dc (a10.cells λ_ _=>bu.cells),b34]
    have b36:(flat P).length=a.kids.length*37:=by rw[dc (j.cells λ_ _=>bu.cells),j.len]
    obtain⟨A,a92,a94,a14,rfl,a95,b37,b38,b39,b40,b41,b42⟩:=ar.an a11 (by grind);have b43:=a90.trans (Ext.of a11.1);have l9:=a13.mono a11.1;obtain⟨b44,k3,b45,b46⟩:=b29.step b43 l9;have a15:=a13.cE a95;have b47:L A=none:=by
     cases b48:L A with
     |none=>rfl
     |some b75=>have:=a90 _ _ a15.1 a15.2 b48;rw[a95]at this;cases this
    have b49: ∀b a96 a97,y= .an b a96 a97 37->b≠A:=by
     rintro b a96 a97 rfl rfl;rcases l8.2 with ⟨_,e|e⟩|⟨b76,_,_,_,e,_,b77,_⟩
     .cases e
     .cases e
     simp_all
    obtain⟨r,l⟩: ∃r:U,r=b44.set A (.cells a14):=⟨_,rfl⟩;have W:=ar.add k3 b37 b49;rw[<-l]at W;have b50:r A=some (.cells a14):=by rw[l,U.ah]
    have b51:ar (λ_=>none) r 37 (flat k6) (.an A a92 a94 37):=⟨(λ_ _ e=>by cases e),.inr ⟨A,a92,a94,a14,rfl,rfl,b50,b38,b39,b40,b41,b42⟩⟩;have b52:bB r D m k4:=by rw[l];exact b45.set a15
    have b53:=U.bF l8.1 b47;have a16:Ext D m Y r:=by rw[l];exact b46.set b53
    have b54:=a16 _ _ a52.1 a52.2 b28;have a98:=a16 _ _ a56.1 a56.2 a05;have b55:=W.1 _ _ b54;have b56:=W.1 _ _ a98;simp -dsimp -implicitDefEqProofs (disch:=first|omega|assumption|(simp only[bk,Nat.reduceAdd];try omega)) only[go_sem,simprocAttr,-List.reduceReplicate,h,U.af b55,U.af b56,G,g,i,V,a29];refine ai (DQ _ r t (flat P) (flat k6) y _ a.kids.length k5.length o (o+1) _ rfl W b36 b51 b35 a9k a9k a9k a9k a9k) ?_;intro ds a06 v;have b57:=v.1 _ _ a98;have b58:(flat P).take (o*37)++(flat k6++(flat P).drop ((o+1)*37))=flat (P.take o++(k6++P.drop (o+1))):=by rw[(fV o (j.cells λ_ _=>bu.cells)).2,(fV (o+1) (j.cells λ_ _=>bu.cells)).1];simp[flat]
    rw[b58]at v;have l6:=(j.take o).append (a10.append (j.drop (o+1)));refine aj (bs @h (U.af b57) @G @g @i @V) ?_;refine ai (DS r a06 D m k4 b52 _ _ ds v x n0 n1 l6 a9m) ?_;intro Z b21 w;rw[<-k]at w;obtain⟨b22,b23,rfl⟩:=w.shape;refine aj @h ?_;exact⟨_,U.a1,fK.base w ((Ext.of a81).trans a16)⟩
def jc (a:Nat) (d:List Int) (h:ag) (b:ay):Except Int ay×ag:=
 if b=aA then dv h a (dS [d])
 else match gq a d (b.size.toNat+1) h b with
  |(.error k,c)=>(.error k,c)
  |(.ok bI,c)=>iD a (bI.length+1) c bI
variable{g A e1:List R}{M e6 h5:Own}
def qF.lt (a:qF w M e6 h5 g):g.length=37/\g.take 37=g:=⟨a.len,a.t37⟩
def YN (C:U) (d h:Nat) (x:ag) (W:bB C d h x) (b:ay) (G L P:Own) (n:b.sum.length=32) (M:b.cC) (c:List Int) (S:Own) (a:Nat) (q:1<=a) (s:a<=8) (a04:c.length=a):
  AC Tryz.prog 85 [.ptr d 0,.agg (ab b G L P),.J (ad c) S,.v (.int .i64 (a:Int))] C λk N=>bB N d h (jc a c x b).2/\Ext d h C N/\ha (jc a c x b).1 k:=by
 have a05:=(aW (M:=G) (e6:=L) (h5:=P) n).lt;have a06:=(aW (M:= .nil) (e6:= .nil) (h5:= .nil) bj).lt;have a07:=cq;have t:=λO Q X Y u=>cD (a:= .nil) (b:= .nil) (c:= .nil) (w:=O) (M:=Q) (e6:=X) (h5:=Y) bj u;have a08:=t aA .nil .nil .nil bj;generalize l0:ab aA .nil .nil .nil=v at*;obtain⟨Z,p⟩: ∃Z,jc a c x b=Z:=⟨_,rfl⟩;rw[p];unfold jc at p;have a09:qJ (a) [c]=true:=by simp[qJ];omega
 have j9:az isRow [c] [R.J (ad c) S]:=⟨⟨S,rfl⟩,trivial⟩;have k0:aT 1 [R.J (ad c) S]:=by simp[aT,R.cells]
 refine aM hm LK ?_;refine bp λhb l1=> ?_;refine cX λT w _ _=> ?_;refine tY λl2 l3 _ _ _ _=> ?_;generalize e:((C.set hb _).set T _).set l2 _=D;have k1:C.sub D:=by subst e;exact aS
 have bm:D hb=some (.cells (ab b G L P)):=by subst e;exact aS
 have bt:D T=some (.cells v):=by subst e;exact aS
 clear e;have E:=W.cE w;have a10:= @U.set_set;refine lX (DC a [c] _ _ D j9 (bR.J k0) a9l) ?_;refine bp λk2 f=> ?_;have a11:=U.gW f bm;obtain⟨z,A⟩: ∃z,D.set k2 (.cells [.ptr d 0,.v (.int .i64 (a))])=z:=⟨_,rfl⟩;have g:D.sub z:=by rw[<-A];exact U.ae U.a1 f
 have cf:z k2=some (.cells [.ptr d 0,.v (.int .i64 (a))]):=by rw[<-A,U.ah]
 have l4:=U.af cf;have a13:=rd g bm;have i:=U.au k1 g;have k3:=W.cE (U.bF k1 f);have k4: ∀(y) (r) (res) (k),bB r d h y->Ext d h z r->ha res k-> ∃o F,o.length=37/\o.take 37=o/\putAt v 0 o=o/\k= .aL [.agg o,.v (.int .i64 F)]/\eg r T=some v/\bB (r.set T (.cells o)) d h y/\Ext d h C (r.set T (.cells o)):=by intro y r res k j k5 l5;obtain⟨O,Q,X,Y,F,B,rfl⟩:=l5.shape;exact⟨_,F,(aW B).len,(aW B).t37,t _ _ _ _ B,rfl,U.aI (k5 _ _ E.1 E.2 (g _ _ bt)),j.set E,((Ext.of i).trans k5).set w⟩
 refine lX (nk b G L P z n M) ?_;clear l1 f l3 A t;refine aG (λH=> ?_) λH=> ?_
 .rw[if_pos H]at p;refine jL λa14 l6=> ?_;have j:=U.ae (Y:= .buf 1 1 1) (U.a1) l6;refine cl (xH _ d h x (W.mono (U.au i j)) [c] _ _ a q s j9 (bR.J k0) a9l) ?_;rintro k r ⟨l,m,V⟩;rw[p]at l V;obtain⟨o,F,l7,l8,l9,rfl,n0,I,sH⟩:=k4 _ r _ k l ((Ext.of j).trans m) V;refine aa ?_;exact⟨_,U.a1,I,sH⟩
 rw[if_neg H]at p;refine cl (YM d h c S a q s (b.size.toNat+1) z x b G L P (W.mono i) n M a9k a9k) ?_;intro k r K;have k6:=λy n1 u=>xQ a c (b.size.toNat+1) x y b n1 u;generalize gq a c (b.size.toNat+1) x b=n2 at K k6 p;obtain⟨res,y⟩:=n2;cases res with
 |error F=>obtain⟨l,m,n3,rfl⟩:=K;subst p;have a15:=U.aI (m _ _ E.1 E.2 (g _ _ bt));refine aa ?_;exact⟨_,U.a1,l.set E,((Ext.of i).trans m).set w,n3,by rw[l0]⟩
 |ok bI=>
  obtain⟨n4,a16,k7,rfl,k8,_⟩:=K;obtain⟨_,a18⟩:=k6 y bI rfl;have l4:=U.af (k8.ext _ _ k3.1 k3.2 cf);obtain⟨n5,n9,a00,a01⟩:=k8.um k7;refine cl (AC.nq (g:= [_]) n9 (YC n5 d h y a00 bI n4 .any a q s k7 a9k)) ?_;rintro k a02 ⟨k9,a03,V⟩
  dsimp only at p
  rw[p]at k9 V;obtain⟨o,F,l7,l8,l9,rfl,n0,I,sH⟩:=k4 _ a02 _ k k9 (a01.trans a03) V;refine aa ?_;exact⟨_,U.a1,I,sH⟩
end Go.Proofs.YtlgnfcaolejgeaaGreat
namespace Go.bz
open Go
variable{n b3:R}{f t e4:U}{g A e1:List R}{e i v O b9 j1:Nat}
theorem ar.emp (b:ar e4 f e g n) (k: ∀a c d,n= .an a c d e->t a=f a):ar (λ_=>none) t e g n:=by
 refine⟨(λ_ _ b=>by cases b),?_⟩;rcases b.2 with h|⟨a,c,d,o,rfl,p,r,x⟩
 .exact .inl h
 grind
theorem ar.put {a:R} (h:ar t f e (flat g) (.an v O b9 e)) (z:0<e) (d:aT e g) (C:g[i]? =some n) (o:a.cells.length=e):
  ∃b,f v=some (.cells b)/\i*e+e<=b.length/\O=g.length/\ar t (f.set v (.cells (putAt b (i*e) a.cells))) e (flat (g.set i a)) (.an v O b9 e):=by
 obtain⟨D,c⟩:=h;rcases c with ⟨_,c|c⟩|⟨W,j,l,b,p,r,E,F,G,m,x,L⟩
 .cases c
 .cases c
 simp only[R.an.injEq,and_true]at p;obtain⟨rfl,rfl,rfl⟩:=p;have y:=(a4P.1 C).1;have q:=dc d;have P:O=g.length:=a7d z a9k;subst P;have s:i*e+e<=g.length*e:=by rw[<-a9e];exact a4W _ y
 have u:g.length*e<=b9*e:=a4W _ x;refine⟨b,E,a9k,rfl,U.ae D r,.inr ⟨v,g.length,b9,_,rfl,r,U.ah _ _ _,by rw[eH _ _ _ a9k];exact F,?_,?_,x,L⟩⟩
 .have k:g.set i a=g.take i++a::g.drop (i+1):=by rw[a5Y,if_pos y]
  have S:flat (g.take i++a::g.drop (i+1))=(flat g).take (i*e)++a.cells++(flat g).drop ((i+1)*e):=by rw[(fV i d).2,(fV (i+1) d).1];simp[flat]
  rw[k,S,putAt,o,<-G];have w:(b.take (i*e)++a.cells).length=i*e+e:=by grind
  grind[List.take_append,List.take_of_length_le,Nat.min_eq_left,List.drop_take,Nat.succ_mul]
 .have T:aT e (g.set i a):=λk V=>by
   rcases a6Q V with h|rfl
   .exact d k h
   .exact o
  rw[dc T,a7H]
end Go.bz
namespace Go.Proofs.YtlgnfcaolejgeaaGreat
open Go Go.bz
structure hZ where
 leaf:Bool
 rows:List (List Int)
 kids:List ay
structure iE (a:U) (x:hZ) (d h:R) (b c:List R):Prop where
 r:az isRow x.rows b
 k:az bu x.kids c
 aj:bR a 1 d b
 uu:bR a 37 h c
 ow:jR a 1 d x.rows.length b
 jS:jR a 37 h x.kids.length (flat c)
 ky:x.rows.length<=1000
 iw:x.kids.length<=1000
def iE.mono {c d:U}{h:hZ}{k o:R}{p r:List R} (a:iE c h k o p r) (b:c.sub d):iE d h k o p r:=⟨a.r,a.k,a.aj.mono b,a.uu.mono b,a.ow.mono b,a.jS.mono b,a.ky,a.iw⟩
variable{n b3:R}{f t e4:U}{g A e1:List R}
theorem iE.of {s:U}{a:hZ} (b:az isRow a.rows g) (c:az bu a.kids A) (d:ar f s 1 (flat g) n) (h:ar t s 37 (flat A) b3) (o:a.rows.length<=1000) (p:a.kids.length<=1000):iE s a n b3 g A:=by obtain⟨r,x,k⟩:=d.aj a9k;obtain⟨y,z,C⟩:=h.aj a9k;rw[nn b]at x k;rw[dc (c.cells λ_ _=>bu.cells)]at z;have:=b.len;have:=c.len;obtain rfl:r=a.rows.length:=a9k;obtain rfl:y=a.kids.length:=a9k;exact⟨b,c,bR.dQ d a9k rfl (b.cells λ_ _=>isRow.cells),bR.dQ h a9k rfl (c.cells λ_ _=>bu.cells),k,C,o,p⟩
def hc (a:c3):hZ:=⟨decide (a.kind=2),a.rows.map Prod.fst,a.kids⟩
def kC (b:ag) (c:Nat) (a d:hZ):Except Int (List ay)×ag:=if a.leaf=true then ou b c (a.rows++d.rows)else jQ b c (a.kids++d.kids)
theorem YO (d:U) (r T:Nat) (V:ag) (B:bB d r T V) (a b:hZ) (W e D f g:R) (X Y Z j9:List R) (k:iE d a W e X Y) (o:iE d b f g Z j9) (k5:D.cells= [D]) (p:Nat) (H:1<=p) (I:p<=8):
  AC Tryz.prog 313 [dT r p,.agg [.v (.bool a.leaf),W,e],.agg [D,f,g]] d λs k0=>fK d k0 r T (kC V p a b) s:=by
 refine bc hm RO a9l ?_;have c: ∀K,(R.agg K).cells=K:=λ_=>rfl;have i: ∀a b:R,List.take 2 [a,b]= [a,b]:=λ_ _=>rfl;have j: ∀a b,aX true 2 [a,b]= .agg [a,b]:=λ_ _=>rfl;have M: ∀a b z:R,aX false 1 [a,b,z]=a:=λ_ _ _=>rfl;have N: ∀a b z:R,aX false 1 ([a,b,z].drop 1)=b:=λ_ _ _=>rfl;have O: ∀a b z:R,aX false 1 ([a,b,z].drop 2)=z:=λ_ _ _=>rfl;refine aj @c ?_;refine aN λdg k6=> ?_;refine aj @c ?_;refine aN λeo l=> ?_;have E:dg≠eo:=by rintro rfl;rw[U.ah]at l;cases l
 have k7:d eo=none:=by rw[U.ao _ _ (a4Q E)]at l;exact l
 refine aj @c ?_;refine aN λhb m=> ?_;have t:eo≠hb:=by rintro rfl;rw[U.ah]at m;cases m
 have u:dg≠hb:=by rintro rfl;rw[U.ao _ _ E,U.ah]at m;cases m
 have k8:d hb=none:=by simp_all [U.ao,a4Q]
 obtain⟨C,x⟩: ∃C:U,C=((d.set dg (.cells [.ptr r 0,.v (.int .i64 (p))])).set eo (.cells [.v (.bool a.leaf),W,e])).set hb (.cells [D,f,g]):=⟨_,rfl⟩;have Q:d.sub C:=by grind[U.ae,U.a1]
 have aH:C dg=some (.cells [.ptr r 0,.v (.int .i64 (p))]):=by rw[x,U.ao _ _ u,U.ao _ _ E,U.ah]
 have aJ:C eo=some (.cells [.v (.bool a.leaf),W,e]):=by rw[x,U.ao _ _ t,U.ah]
 have bm:C hb=some (.cells [D,f,g]):=by rw[x,U.ah]
 unfold kC;have k9:=k.ky;have l0:=o.ky;have l1:=k.iw;have l2:=o.iw;cases n:a.leaf with
 |true=>rw[n]at aJ x;refine aj (cf @c @U.ao @E @u @t @U.ah @M @N @O @n) ?_;rw[<-x];refine dd U.a1 (by intro k1 F;simp only[a5g,a6h,or_false]at F;rcases F with rfl|rfl;(·rw[k.ow.one];rfl);(·rw[o.ow.one];rfl)) λv G L=> ?_;have h:=U.au Q L.sub;have P:=L.sub _ _ aH;simp -dsimp -implicitDefEqProofs (disch:=first|omega|assumption|(simp only[bk,Nat.reduceAdd];try omega)) only[go_sem,simprocAttr,-List.reduceReplicate,c,U.af P,j,i];refine ai (YH G _ _ v _ _ _ _ (k.ow.mono h) (o.ow.mono h) a9k a9k) ?_;intro ds w y;have A:=y.1 _ _ P;have q:=k.r.append o.r;rw[<-nn q]at y;simp -dsimp -implicitDefEqProofs (disch:=first|omega|assumption|(simp only[bk,Nat.reduceAdd];try omega)) only[go_sem,simprocAttr,-List.reduceReplicate,c,U.af A,j,i];refine ai (DR G w r T V (B.mono h) _ _ ds y p H I q (by rw[a4J];omega)) ?_;intro s k2 S;obtain⟨k3,k4,rfl⟩:=S.shape;refine aj @c ?_;exact⟨_,U.a1,fK.base S (Ext.of h)⟩
 |false=>rw[n]at aJ x;refine aj (cf @c @U.ao @E @u @t @U.ah @M @N @O @n) ?_;rw[<-x];refine dd U.a1 (by intro k1 F;simp only[a5g,a6h,or_false]at F;rcases F with rfl|rfl;(·rw[k.jS.one];rfl);(·rw[o.jS.one];rfl)) λv G L=> ?_;have h:=U.au Q L.sub;have P:=L.sub _ _ aH;simp -dsimp -implicitDefEqProofs (disch:=first|omega|assumption|(simp only[bk,Nat.reduceAdd];try omega)) only[go_sem,simprocAttr,-List.reduceReplicate,c,U.af P,j,i];refine ai (YJ G _ _ v _ _ _ _ (k.jS.mono h) (o.jS.mono h) a9k a9k) ?_;intro ds w y;have A:=y.1 _ _ P;have q:=k.k.append o.k;rw[<-oU]at y;simp -dsimp -implicitDefEqProofs (disch:=first|omega|assumption|(simp only[bk,Nat.reduceAdd];try omega)) only[go_sem,simprocAttr,-List.reduceReplicate,c,U.af A,j,i];refine ai (DS G w r T V (B.mono h) _ _ ds y p H I q (by rw[a4J];omega)) ?_;intro s k2 S;obtain⟨k3,k4,rfl⟩:=S.shape;refine aj @c ?_;exact⟨_,U.a1,fK.base S (Ext.of h)⟩
def jT (d:ag) (k:Nat) (h:List ay) (a:Nat) (b:hZ):Except Int (List ay)×ag:=
 if 2<=b.rows.length+b.kids.length then
  match mg d k b.leaf b.rows b.kids with
  |(.error o,c)=>(.error o,c)
  |(.ok r,c)=>(.ok (h.set a r),c)
 else match h[if a=0 then 1 else a - 1]? with
  |none=>(.error 21,d)
  |some x=>match iC d k x with
   |none=>(.error 21,d)
   |some p=>match kC d k (if a=0 then b else hc p) (if a=0 then hc p else b)with
    |(.error o,c)=>(.error o,c)
    |(.ok y,c)=>(.ok (h.take (a - 1)++(y++h.drop (a - 1+2))),c)
def YP (k b:U) (c d:Nat) (h:Except Int (List ay)×ag) (o:R):Prop:=
 match h.1 with
 | .error p=>bB b c d h.2/\Ext c d k b/\p≠0/\ ∃a,o= .aL [a,.v (.int .i64 p)]/\a.cells= [a]
 | .ok bI=> ∃r a,az bu bI r/\o= .aL [a,.v (.int .i64 0)]/\dq k b c d h.2 37 (flat r) a
theorem az.set {c:Type}{d:c->R->Prop}: ∀ {k:List c}{o:List R}{p:c}{r:R} (b:Nat),az d k o->d p r->az d (k.set b p) (o.set b r)
 | [],[],_,_,_,a,_=>a
 | _:: _,_:: _,_,_,0,a,h=>⟨h,a.2⟩
 | _:: _,_:: _,_,_,b+1,a,h=>⟨a.1,az.set b a.2 h⟩
variable{e i v O b9 j1:Nat}{H:ag}
theorem DU {h:ag}{b c:hZ}{d:List ay} (a:kC H e b c=(.ok d,h)) (o:b.rows.length<=1000/\c.rows.length<=1000/\b.kids.length<=1000/\c.kids.length<=1000):d.length<=501:=by
 unfold kC at a;split at a
 .rename_i k;have:=qK a;rw[this];simp only[a4R,a5h,a6.chunks,(np).1,a6.bU,a4J];omega
 .rename_i k;have:=qK a;rw[this];simp only[a4R,a5h,a6.chunks,(np).1,a6.bU,a4J];omega
def bu.c {a:List ay} (b:az bu a g):aT 37 g:=b.cells λ_ _=>bu.cells
def Ext.no (b:Ext i v f t) (a:e≠i/\e≠v) (c:t e=none):f e=none:=by
 cases d:f e with
 |none=>rfl
 |some h=>have:=b _ _ a.1 a.2 d;rw[c]at this;cases this
theorem YQ (V C r:U) (D E:Nat) (I W:ag) (d k:List ay) (h:List R) (x e:Nat) (F:R) (G:dq V C D E I 37 (flat h) (.an x d.length e 37)) (c:az bu d h) (K:fK C r D E (.ok k,W) (.aL [F,.v (.int .i64 0)])) (b a:Nat) (y:Int) (f:y=(a:Int)) (g:b<a) (i:a<=d.length) (l1:d.length<=1000) (l2:k.length<=501):
  AC Tryz.prog 242 [.an x d.length e 37,.v (.int .i64 (b:Int)),.v (.int .i64 y),F] r λM N=> ∃j,az bu (d.take b++(k++d.drop a)) j/\dq V N D E W 37 (flat j) M:=by
 obtain⟨o,F,L,P,⟨l3,S,l,m⟩,O⟩:=K;simp only[R.aL.injEq,a7c,and_true]at P;subst P;have l4:=c.len;have Q:=L.len;have l5:=dc (bu.c c);have X:(flat o).length=k.length*37:=by rw[dc (bu.c L),Q]
 have Y: ∃n,C x=some (.cells n):=by obtain⟨_,Z,_⟩:=G;obtain⟨_,_,_,n,P,_,q,_⟩:=Z.an (by grind);simp_all
 obtain⟨j9,s,t,u⟩:=G.step (m.trans (Ext.of S.1)) (l.mono S.1);by_cases v:k= []
 .subst v;obtain rfl:=O rfl;refine(YF _ r (flat h) _ d.length b a y f s a9k g i a9k).mono λds k0 p=> ?_;rw[(fV b (bu.c c)).2,(fV a (bu.c c)).1,<-oU]at p;exact⟨_,(c.take b).append (c.drop a),_,p,t,u⟩
 have l6:=a5P.2 v;obtain⟨z,w,A,B,rfl,H,k1,k2,k3,k4,k5,k6⟩:=ar.an S (by grind);have T:=l.cE H;have k7:=m.no T H;obtain⟨l7,l8⟩:=Y;have l9:x≠z:=by grind
 have k8:=ar.add s k1 (by simp_all);have k9:ar (λ_=>none) (j9.set z (.cells B)) 37 (flat o) (.an z w A 37):=⟨(λ_ _ q=>by cases q),.inr ⟨z,w,A,B,rfl,rfl,U.ah _ _ _,k2,k3,k4,k5,k6⟩⟩;refine(DQ _ _ r (flat h) (flat o) _ _ d.length k.length b a y f k8 a9k k9 X a9k g i a9k a9k).mono λds k0 p=> ?_;have l0:(flat h).take (b*37)++(flat o++(flat h).drop (a*37))=flat (h.take b++(o++h.drop a)):=by rw[(fV b (bu.c c)).2,(fV a (bu.c c)).1];simp[flat]
 rw[l0]at p;exact⟨_,(c.take b).append (L.append (c.drop a)),_,p,t.set T,u.set (G.ext.no T k7)⟩
theorem YR (H I:U) (D W:Nat) (y:ag) (k8:bB H D W y) (z:List ay) (K:List R) (a11:R) (k9:ar H I 37 (flat K) a11) (S:az bu z K) (b:hZ) (E F:R) (a13 a14:List R) (T:iE I b E F a13 a14) (b40:2<=z.length) (a92:z.length<=1000) (a:Nat) (b41:a<z.length) (d:Nat) (l0:1<=d) (l1:d<=8):
  AC Tryz.prog 250 [dT D d,a11,.v (.int .i64 (a:Int)),.agg [.v (.bool b.leaf),E,F]] I λl l2=>YP H l2 D W (jT y d z a b) l:=by
 have b42:=S.len;have a94:=k8.mono k9.1;have b43:=dc (bu.c S);obtain⟨l3,a95,a15,b44,rfl,b45,b46,a16,a96,a97,m,b47⟩:=ar.an k9 (by grind);obtain rfl:a95=z.length:=a9k;have b48:=T.ky;have b49:=T.iw;have b50:=(aW (M:= .nil) (e6:= .nil) (h5:= .nil) bj).len;obtain⟨a18,h⟩: ∃a18,jT y d z a b=a18:=⟨_,rfl⟩;rw[h];rw[jT]at h;clear a16 a96 a97;refine aM hm Qx ?_;refine bp λeo a19=> ?_;refine cX λa27 a29 _ _=> ?_;have M:=U.ae (Y:= .cells [.v (.bool b.leaf),E,F]) (U.ae (Y:= .cells [.ptr D 0,.v (.int .i64 (d))]) (U.a1) a19) a29;obtain⟨C,N⟩: ∃C:U,(I.set eo (.cells [.ptr D 0,.v (.int .i64 (d))])).set a27 (.cells [.v (.bool b.leaf),E,F])=C:=⟨_,rfl⟩;rw[N]at M|-;have aJ:C eo=some (.cells [.ptr D 0,.v (.int .i64 (d))]):=by rw[<-N,U.ao _ _ a9n,U.ah]
 have c6:C a27=some (.cells [.v (.bool b.leaf),E,F]):=by rw[<-N,U.ah]
 have a98:=U.af aJ;have a99:=U.af c6;clear N a19 a29;have l4:=ar.mono k9 M;have a30:=dq.of l4 k8 Ext.refl;have n:=T.mono M;have l5:=a94.mono M;refine lX (Yw (.v (.bool b.leaf)) E F _ _ T.ow.one T.jS.one rfl T.ow.len T.jS.len a9k a9k C) ?_;refine aG (λa34=> ?_) λa34=> ?_
 .rw[if_pos a9k]at h;refine cl (DE C D W y l5 b.leaf b.rows a13 E b.kids a14 F d l0 l1 n.r n.aj a9k n.k n.uu a9k) ?_;rintro l l6 ⟨a36,b00,O⟩;generalize mg y d b.leaf b.rows b.kids=l7 at*;obtain⟨res,q⟩:=l7
  dsimp only at a36 O
  obtain⟨Q,o,p,r,b01,l8,rfl⟩:=O.shape;have b02:=(aW (M:=o) (e6:=p) (h5:=r) l8).len;have b51:=(aW (M:=o) (e6:=p) (h5:=r) l8).t37;have b52:putAt (ab aA .nil .nil .nil) 0 (ab Q o p r)=ab Q o p r:=cD bj l8;have b53:=cq;generalize ab aA .nil .nil .nil=b54 at*;refine aa ?_;refine bp λb55 b03=> ?_;obtain⟨b04,b05,a38,a42⟩:=dq.mono (a30.step b00 a36) (U.ae (Y:= .cells (ab Q o p r)) U.a1 b03);obtain⟨b56,b06,b57,-,l9⟩:=ar.put (a:= .agg (ab Q o p r)) b05 a9k (bu.c S) (a4H (show a<K.length by omega)) b02;have b58:cP 37 (.an l3 z.length a15 37) (.v (.int .i64 (a)))=some (.ptr l3 (a*37)):=by simp_all [jH]
  have b59:=U.aI b06;have b07:=a42.trans (Ext.of l9.1);refine aa ?_;refine⟨_,U.a1,?_⟩;subst h;cases res with
  |error b60=>obtain⟨n0,x⟩:=O;simp only[R.aL.injEq,a7c,R.v.injEq,Value.int.injEq,true_and,and_true]at x;obtain⟨_,rfl⟩:=x;exact⟨a38.mono l9.1,b07,n0,_,rfl,rfl⟩
  |ok b61=>obtain⟨b08,b09,b10,b11,b12,x⟩:=O;simp only[R.aL.injEq,a7c,R.v.injEq,Value.int.injEq,true_and,and_true,R.agg.injEq]at x;obtain⟨x,rfl⟩:=x;exact⟨_,_,az.set a S ⟨b08,b09,b10,b11,b12,by rw[x]⟩,rfl,⟨b04,l9,a38,a42⟩⟩
 rw[if_neg a9k]at h;have b62:max ((a:Int) - 1) 0=((a - 1:Nat)):=a9k;obtain⟨e,f⟩: ∃e,(if a=0 then 1 else a - 1)=e:=⟨_,rfl⟩;rw[f]at h;refine o6 [1,2,4,7,12] (λ_:Unit=> [(13,.v (.int .i64 (e)))]) (λ_ l2=>l2=C) (λk=> ?_) (λk=> ?_) ?_
 .rw[if_pos (by have:=of_decide_eq_true k;omega)]at f;subst f;exact aS
 .rw[if_neg (by have:=of_decide_eq_false k;omega)]at f;subst f;exact aS
 rintro _ C rfl b13;have b14:e<z.length:=by rw[<-f];split<;>omega
 have n1:=a4H b14;rw[n1]at h
 dsimp only at h
 generalize z[e]=G at*;obtain⟨b63,a43,a47,b15,o,p,r,rfl⟩:=S.get n1;obtain⟨b16,b17,n2⟩:=(bR.dQ l4 a9k rfl (bu.c S)).get e _ a43;have a48:=aW (M:=o) (e6:=p) (h5:=r) a47;change nj C b16 (ab G o p r)at n2;have a52:=n2.ld C U.a1 true 37 a9k (by rw[a48.len];omega);rw[show aX true 37 (ab G o p r)= .agg (ab G o p r) by rw[aX,if_pos rfl,a48.t37]]at a52;refine cl (xJ C D W y l5 G o p r a47 b15 d l0 l1) ?_;rintro l a56 ⟨a57,x⟩;cases n3:iC y d G with
 |none=>rw[n3]at x h;obtain rfl:=x;subst h;refine aa ?_;refine bp λn4 X=> ?_;have a61:=λG=>U.au l4.1 (U.au a57 (U.ae (Y:=G) U.a1 X));exact⟨_,U.a1,k8.mono (a61 _),Ext.of (a61 _),a9o,_,rfl,rfl⟩
 |some c=>
 rw[n3]at x h
 dsimp only at h
 obtain⟨Y,g,rfl,b18⟩:=x;obtain⟨b19,b64⟩:=sG n3;obtain⟨b65,b66,b67⟩:=lh b19.ok;clear a52 b17 n2 a98 a99 a34 a43 n1;refine aa ?_;refine bp λn4 X=> ?_;obtain⟨s,n5⟩: ∃s,a56.set n4 (.cells [.v (.int .u8 (c.kind.toNat)),Y,g])=s:=⟨_,rfl⟩;have n9:a56.sub s:=by rw[<-n5];exact U.ae U.a1 X
 have ft:s n4=some (.cells [.v (.int .u8 (c.kind.toNat)),Y,g]):=by rw[<-n5,U.ah]
 have a00:=U.au a57 n9;obtain⟨b68,a62,a63,b20,a01,a65,Z,b21,b22⟩:=b18;have a68:=fY.mono ⟨a65,Z,(bR.dQ b20 a9k rfl (a65.cells λ_ _=>df.cells)).mono a01.1,bR.dQ a01 a9k rfl (bu.c Z),b21,b22⟩ n9;have m:=rd a00 c6;have b23:=U.af ft;have b69:= @rQ;refine cl (xK c a62 a63 Y g s a68) ?_;rintro _ j9 ⟨a69,b70,rfl,b24,a71⟩;clear n5 X;have t:=a71.1;have u:=t _ _ (a00 _ _ c6);have m:=U.af u;refine aa ?_;refine bp λw a02=> ?_;have b71:=U.gW a02 u;refine cX λA a03 _ _=> ?_;have b72:=U.gW a03 u;have b25:= @U.set_set;obtain⟨V,k0⟩: ∃V,(j9.set w (.cells [.v (.bool (decide (c.kind=2))),a69,g])).set A (.cells [.v (.bool b.leaf),E,F])=V:=⟨_,rfl⟩;have L:j9.sub V:=by rw[<-k0];exact U.ae (U.ae U.a1 a02) a03
 have lW:V w=some (.cells [.v (.bool (decide (c.kind=2))),a69,g]):=by rw[<-k0,U.ao _ _ a9n,U.ah]
 have mX:V A=some (.cells [.v (.bool b.leaf),E,F]):=by rw[<-k0,U.ah]
 have a73:=U.au a00 t;have a74:=n.mono a73;have a81:=ar.mono a01 (U.au n9 t);have k1:(hc c).rows.length<=1000/\(hc c).kids.length<=1000:=by simp[hc];omega
 refine aa ?_;clear b25 m;refine o6 [1,4,12,16,17] (λ_:Unit=> []) (λ_ P=>j9.sub P/\ ∃k2 k3 B k4 k5 a04 a05 a06 a07,P w=some (.cells [.v (.bool (if a=0 then b else hc c).leaf),k2,k3])/\P A=some (.cells [B,k4,k5])/\B.cells= [B]/\iE P (if a=0 then b else hc c) k2 k3 a04 a05/\iE P (if a=0 then hc c else b) k4 k5 a06 a07) (λk=> ?_) (λk=> ?_) ?_
 .have k:=of_decide_eq_true k;have k:a=0:=a9k;simp only[if_pos k];have m:=rd L u;have b23:=rd (U.au t L) ft;refine cl (xK c a62 a63 Y g V (a68.mono (U.au t L))) ?_;rintro _ l6 ⟨b73,b74,rfl,b26,i⟩;have m:=rd i.1 (L _ _ u);have b75:=U.aI (i.1 _ _ lW);have b76: ∀a83,eg (l6.set w a83) A=some [.v (.bool b.leaf),E,F]:=λa83=>U.aI (by rw[U.ao _ _ a9n];exact i.1 _ _ mX);have k6: ∀G a84,j9.sub ((l6.set w G).set A a84):=λG a84 b77 v a08=>by
   rw[U.ao _ _ (U.gW a03 a08),U.ao _ _ (U.gW a02 a08)];exact i.1 _ _ (L _ _ a08)
  refine aa ?_;refine⟨(),_,_,_,_,_,_,_,_,_,rfl,rfl,rfl,a74.mono (k6 _ _),iE.of b26 Z (ar.emp i ?_) (ar.mono a81 (k6 _ _)) k1.1 k1.2⟩;rintro b27 b78 b79 rfl;have a86:V b27=none:=by
   rcases i.2 with ⟨_,j|j⟩|⟨b80,_,_,_,j,b81,_⟩
   .cases j
   .cases j
   simp_all
  rw[U.ao _ _ (U.gW a86 mX).symm,U.ao _ _ (U.gW a86 lW).symm]
 .have k:=of_decide_eq_false k;have k: ¬a=0:=a9k;simp only[if_neg k];refine aa ?_;subst k0;exact⟨(),_,_,_,_,_,_,_,_,_,rfl,rfl,rfl,iE.of b24 Z (a71.mono L) (a81.mono L) k1.1 k1.2,a74.mono L⟩
 rintro _ P ⟨k6,k2,k3,B,k4,k5,a04,a05,a06,a07,lW,mX,b28,b29,b30⟩ b13;have b31:(if a=0 then b else hc c).rows.length<=1000/\(if a=0 then hc c else b).rows.length<=1000/\(if a=0 then b else hc c).kids.length<=1000/\(if a=0 then hc c else b).kids.length<=1000:=by split<;>omega
 have b32:=λq k7 j=>DU (H:=y) (h:=q) (e:=d) (d:=k7) j b31;generalize (if a=0 then b else hc c)=a88 at*;generalize (if a=0 then hc c else b)=a89 at*;have a09:=U.au a73 k6;have a16:=rd a09 aJ;have b82:=U.af lW;have b83:=U.af mX;refine cl (YO P D W y (l5.mono a09) a88 a89 k2 k3 B k4 k5 a04 a05 a06 a07 b29 b30 b28 d l0 l1) ?_;intro l b33 a10;generalize kC y d a88 a89=l7 at*;obtain⟨res,q⟩:=l7;have a90:=dq.mono a30 a09;cases res with
 |error b01=>obtain⟨b34,b35,n0,rfl⟩:=a10;subst h;refine aa ?_;exact⟨_,U.a1,b34,a90.ext.trans b35,n0,_,rfl,rfl⟩
 |ok k7=>obtain⟨_,a3,_,rfl,_⟩:=id a10;have b36:=b32 q k7 rfl;have b37:((a - 1:Nat))+2=((a - 1+2:Nat):Int):=rfl;refine cl (YQ H P b33 D W y q z k7 K l3 a15 a3 a90 S a10 (a - 1) (a - 1+2) _ b37 a9k a9k a92 b36) ?_;rintro l b84 ⟨b85,b38,b39⟩;subst h;refine aa ?_;exact⟨_,U.a1,_,_,b38,rfl,b39⟩
end Go.Proofs.YtlgnfcaolejgeaaGreat
set_option maxHeartbeats 1000000
namespace Go.bz
open Go
variable{n b3:R}{f t e4:U}{g A e1:List R}{e i v O b9 j1:Nat}
theorem ar.o7 (x:ar t f e g n): ∃d:U,ar d f e g n/\d.sub f/\t.sub d/\ ∀a,(∀b h k,n= .an b h k e->b≠a)->d a=f a:=by
 obtain⟨p,o⟩:=x;rcases o with o|⟨b,h,k,y,rfl,z,C,D⟩
 .exact⟨f,⟨U.a1,.inl o⟩,U.a1,p,λ_ _=>rfl⟩
 .have r:(f.del b).sub f:=λa E c=>by
   grind[U.il,U.eG]
  refine⟨f.del b,⟨r,.inr ⟨b,h,k,y,rfl,U.il _ _,C,D⟩⟩,r,λa E c=> ?_,λa c=>U.eG _ (a4Q (c _ _ _ rfl))⟩;have F:a≠b:=by rintro rfl;rw[z]at c;cases c
  rw[U.eG _ F];exact p _ _ c
theorem ar.own (c:ar f t i g (.an e v O i)):f e=none/\ ∃b,t e=some (.cells b):=by
 rcases c.2 with ⟨_,a|a⟩|⟨d,h,k,b,o,p,r,_⟩
 .cases a
 .cases a
 simp_all
end Go.bz
namespace Go.Proofs.YtlgnfcaolejgeaaGreat
open Go Go.bz
def ia (d:Nat) (c:List Int):Nat->ag->ay->Except Int hZ×ag
  |0,b,_=>(.error 21,b)
  |p+1,b,r=>match iC b d r with
    |none=>(.error 21,b)
    |some a=>
      if a.kind=2 then
        (if kB (a.rows.map Prod.fst) c=true then(.ok ⟨true,(a.rows.map Prod.fst).take (eW (a.rows.map Prod.fst) c)++(a.rows.map Prod.fst).drop (eW (a.rows.map Prod.fst) c+1),a.kids⟩,b)
         else(.error 9,b))
      else match a.kids[hx c a]? with
        |none=>(.error 21,b)
        |some x=>match ia d c p b x with
          |(.error h,k)=>(.error h,k)
          |(.ok y,k)=>match jT k d a.kids (hx c a) y with
            |(.error h,o)=>(.error h,o)
            |(.ok bI,o)=>(.ok ⟨false,a.rows.map Prod.fst,bI⟩,o)
def YS (x c:U) (d h:Nat) (k:Except Int hZ×ag) (o:R):Prop:=
 bB c d h k.2/\Ext d h x c/\match k.1 with
 | .error p=>p≠0/\ ∃y a b,o= .aL [.agg [y,a,b],.v (.int .i64 p)]
 | .ok r=> ∃a b z C,o= .aL [.agg [.v (.bool r.leaf),a,b],.v (.int .i64 0)]/\iE c r a b z C
variable{e i v O b9 j1:Nat}{H:ag}
theorem YT {h:ag}{c d:List ay}{b:hZ} (a:jT H e c i b=(.ok d,h)) (o:c.length<=4) (p:b.rows.length<=1000/\b.kids.length<=1000):d.length<=1000:=by
 unfold jT at a;split at a;grind
 .rename_i r;split at a
  .simp_all
  .split at a
   .simp_all
   .rename_i x k;obtain⟨y,z,C⟩:=lh (sG k).1.ok;grind[Prod.mk.inj,Except.ok.inj,DU,hc,List.length_append,List.length_take,List.length_drop]
theorem YU (D S:Nat) (G:List Int) (a38:Own) (E:Nat) (a96:1<=E) (a97:E<=8): ∀(l:Nat) (e:U) (m:ag) (f:ay) (l5 l6 l7:Own),bB e D S m->f.sum.length=32->f.cC->0<l->f.size<l->
  AC Tryz.prog 160 [dT D E,.agg (ab f l5 l6 l7),.J (ad G) a38] e λl8 b25=>YS e b25 D S (ia E G l m f) l8:=by
 intro l
 induction l with
 |zero=>intros;omega
 |succ l ih=>
 intro e m f l5 l6 l7 L a98 b26 b61 b62;have l9:=(aW (M:=l5) (e6:=l6) (h5:=l7) a98).lt;have b27:= @U.set_set;have b63:= @rQ;obtain⟨a99,b⟩: ∃a99,ia E G (l+1) m f=a99:=⟨_,rfl⟩;rw[b];rw[ia]at b;refine aM hm NW ?_;refine bp λdg b00=> ?_;refine cX λeo b28 _ _=> ?_;refine hp λek O _ _ _ _=> ?_;generalize w:((e.set dg _).set eo _).set ek _=n0;have n1:e.sub n0:=by subst w;exact aS
 have aH:n0 dg=some (.cells [.ptr D 0,.v (.int .i64 (E))]):=by subst w;exact aS
 have bs:n0 ek=some (.cells [.v (.bool false),.J [] .nil,.J [] .nil]):=by subst w;exact aS
 clear w;have b01:=L.cE b00;have z:=L.cE O;refine cl (xJ n0 D S m (L.mono n1) f l5 l6 l7 a98 b26 E a96 a97) ?_;rintro l8 a42 ⟨a43,n2⟩;have k2:=a43 _ _ bs;have b02:=U.au n1 a43;clear b00 b28;cases a47:iC m E f with
 |none=>rw[a47]at n2 b;obtain rfl:=n2;subst b;refine aa ?_;refine bp λn3 k3=> ?_;have b03:=λb29=>U.au b02 (U.ae (Y:=b29) U.a1 k3);have b30:=U.gW k3 k2;have k4: ∀k,eg (a42.set n3 k) ek=some [.v (.bool false),.J [] .nil,.J [] .nil]:=λk=>U.aI (by rw[U.ao _ _ b30];exact k2);refine aa ?_;exact⟨_,U.a1,(L.mono (b03 _)).set z,(Ext.of (b03 _)).set O,a9o,_,_,_,rfl⟩
 |some p=>
  rw[a47]at n2 b
  dsimp only at b
  obtain⟨n4,x,rfl,b64,b04,n5,k5,n,b05,Q,b31,b32⟩:=n2;obtain⟨b06,b33⟩:=sG a47;obtain⟨b65,b66,b67⟩:=lh b06.ok;refine aa ?_;refine bp λn3 k3=> ?_;obtain⟨k6,a48⟩: ∃k6,a42.set n3 (.cells [.v (.int .u8 (p.kind.toNat)),n4,x])=k6:=⟨_,rfl⟩;have A:a42.sub k6:=by rw[<-a48];exact U.ae U.a1 k3
  have bt:k6 n3=some (.cells [.v (.int .u8 (p.kind.toNat)),n4,x]):=by rw[<-a48,U.ah]
  have b07:=fY.mono ⟨b05,Q,(bR.dQ k5 a9k rfl (b05.cells λ_ _=>df.cells)).mono n.1,bR.dQ n a9k rfl (bu.c Q),b31,b32⟩ A;have a52:=U.af bt;refine cl (xK p b04 n5 n4 x k6 b07) ?_;rintro _ b08 ⟨P,a56,rfl,q,B⟩;clear a48 k3 a52;refine aa ?_;refine bp λF k7=> ?_;obtain⟨C,n9⟩: ∃C,b08.set F (.cells [.v (.bool (decide (p.kind=2))),P,x])=C:=⟨_,rfl⟩;rw[b27,n9];have g:b08.sub C:=by rw[<-n9];exact U.ae U.a1 k7
  have cf:C F=some (.cells [.v (.bool (decide (p.kind=2))),P,x]):=by rw[<-n9,U.ah]
  clear n9;have H:=B.1;have a00:=U.au b02 A;have X:=U.au a00 (U.au H g);have a01:=U.au A (U.au H g);have a57:=U.bF (U.au a00 H) k7;have T:=L.cE a57;have a02:=a01 _ _ k2;have a61:=a01 _ _ (a43 _ _ aH);have a62:=U.gW k7 (H _ _ (A _ _ k2));have k8:=U.af cf;have k4:=U.aI a02;have a03: ∀a c d,x= .an a c d 37->a≠D/\a≠S/\a≠ek/\a≠F/\a≠dg:=by
   rintro a c d rfl;obtain⟨h,a63,y⟩:=n.own;have a65:=k5.1 _ _ bs;have a68:=k5.1 _ _ aH;have I:=(L.mono (U.au n1 k5.1)).cE h;refine⟨I.1,I.2,?_,?_,?_⟩
   .rintro rfl;rw[a65]at h;cases h
   .rintro rfl;rw[H _ _ (A _ _ y)]at k7;cases k7
   .rintro rfl;rw[a68]at h;cases h
  have a04: ∀a c d,P= .an a c d 1->a≠D/\a≠S/\a≠ek/\a≠F/\ ∀K Y Z,x= .an K Y Z 37->K≠a:=by
   rintro a c d rfl;obtain⟨h,a63,y⟩:=B.own;have I:=(L.mono a00).cE h;refine⟨I.1,I.2,?_,?_,?_⟩
   .rintro rfl;rw[A _ _ k2]at h;cases h
   grind
   .rintro K Y Z rfl rfl;obtain⟨_,b68,r⟩:=n.own;rw[A _ _ r]at h;cases h
  refine aG (λk9=> ?_) λk9=> ?_
  .rw[if_pos k9]at b;have b69:(p.rows.map Prod.fst).length=p.rows.length:=a4T _;generalize b34:p.rows.map Prod.fst=l0 at*;refine cl (DG l0 a56 P G a38 C q ((bR.dQ B a9k rfl (q.cells λ_ _=>isRow.cells)).mono g) a9k) ?_;rintro _ C ⟨rfl,b70,rfl⟩;have b35:kB l0 G=true->eW l0 G<l0.length:=λo=>by
    grind[kB,List.getElem?_eq_some_iff]
   generalize eW l0 G=V at*;refine aa ?_;refine aG (λa05=> ?_) λa05=> ?_
   .rw[if_neg (by simp[a05])]at b;subst b;exact⟨_,U.a1,(L.mono X).set z,(Ext.of X).set O,a9o,_,_,_,rfl⟩
   .rw[if_pos a05]at b;have b71:=b35 a05;obtain⟨b36,b09,b72,_,b37⟩:=ar.o7 (ar.mono B g);rw[nn q]at b09;have b73:=q.len;refine cl (YD b36 C a56 P b09 V a9k a9k) ?_;intro a5 s M;have b10:=(q.take V).append (q.drop (V+1));rw[<-nn b10]at M;have a06: ∀i k,C i=some k->(∀a c d,P= .an a c d 1->a≠i)->s i=some k:=λi k o b38=>M.1 _ _ (by rw[b37 i b38];exact o);have a07:=a06 _ _ cf λa c d o=>(a04 a c d o).2.2.2.1;have a08:=a06 _ _ a02 λa c d o=>(a04 a c d o).2.2.1;have t:e.sub s:=λi k l1=>a06 i k (X _ _ l1) (by
     rintro a c d rfl rfl;have:=B.own.1;rw[a00 _ _ l1]at this;cases this)
    have b74:=fH M;obtain⟨W,j⟩: ∃W,(s.set F (.cells [.v (.bool true),a5,x])).set ek (.cells [.v (.bool true),a5,x])=W:=⟨_,rfl⟩;have k4: ∀k,eg (s.set F k) ek=some [.v (.bool false),.J [] .nil,.J [] .nil]:=λk=>U.aI (by rw[U.ao _ _ a62];exact a08);have b11:=U.aI a07;have b12:W.read ek=some [.v (.bool true),a5,x]:=U.af (by rw[<-j,U.ah]);clear b34 k8;refine aa ?_;refine⟨W,U.a1,?_⟩;subst b;refine⟨by rw[<-j];exact((L.mono t).set T).set z,by rw[<-j];exact((Ext.of t).set a57).set O,a5,x,_,n5,rfl,iE.of b10 Q (ar.emp M ?_) (ar.emp n ?_) a9m a9m⟩
    .rintro a c d rfl;have l2:=M.own.1;have h:a≠F:=by grind
     have y:a≠ek:=by grind
     rw[<-j,U.ao _ _ y,U.ao _ _ h]
    .rintro a c d rfl;obtain⟨_,a63,r⟩:=n.own;have u:=a03 _ _ _ rfl;rw[<-j,U.ao _ _ u.2.2.1,U.ao _ _ u.2.2.2.1,r];exact a06 _ _ (a01 _ _ r) λK Y Z o=>a4Q ((a04 K Y Z o).2.2.2.2 _ _ _ rfl)
  .rw[if_neg k9]at b;rw[decide_eq_false k9]at cf k8;have b75:=q.len;have a52:=rd (U.au H g) bt;refine cl (DF p b04 n5 n4 x G a38 C (b07.mono (U.au H g))) ?_;rintro _ C ⟨rfl,rfl⟩;obtain⟨-,a65,a68,I⟩:=b06.inner (b33.resolve_left k9);have a09:hx G p<p.kids.length:=by grind[xP,List.length_map]
   generalize hx G p=V at*;have a69:=a4H a09;have b13:p.kids[V]'a09∈p.kids:=a5k _;rw[a69]at b;simp only at b;generalize p.kids[V]'a09=j9 at a69 b13 b;obtain⟨b76,b39,b14,b40,h,y,r,rfl⟩:=Q.get a69;obtain⟨_,_,_,b77,b78⟩:=I j9 b13;have b15:=ar.mono n a01;obtain⟨b41,b42,b79,_,l3⟩:=b15.o7;have b16:e.sub b41:=λi k l1=>by
    rw[l3 i (by
     rintro a c d rfl rfl;have:=n.own.1;rw[k5.1 _ _ (n1 _ _ l1)]at this;cases this)]
    exact X _ _ l1
   have b17:=(l3 _ λa c d o=>(a03 a c d o).2.2.2.1).trans cf;have b18:=(l3 _ λa c d o=>(a03 a c d o).2.2.1).trans a02;have b80:=(l3 _ λa c d o=>(a03 a c d o).2.2.2.2).trans a61;have b43:=L.mono X;have a71:=U.af a61;obtain⟨b44,b45,a73⟩:=(bR.dQ b15 a9k rfl (bu.c Q)).get V _ b39;have b19:=aW (M:=h) (e6:=y) (h5:=r) b14;change nj C b44 (ab j9 h y r)at a73;have b20:=a73.ld C U.a1 true 37 a9k (by rw[b19.len];omega);rw[show aX true 37 (ab j9 h y r)= .agg (ab j9 h y r) by rw[aX,if_pos rfl,b19.t37]]at b20;refine aa ?_;refine cl (ih C m j9 h y r b43 b14 b40 a9k a9k) ?_;intro l8 s k0;generalize ia E G l m j9=a74 at k0 b;obtain⟨res,a81⟩:=a74;obtain⟨a10,t,k0⟩:=k0
   dsimp only at a10 k0 b
   have a08:=t _ _ z.1 z.2 a02;have a07:=t _ _ T.1 T.2 cf;have b21:=t _ _ b01.1 b01.2 a61;clear a71 a52 k8 b20 b45 a73;cases res with
   |error b46=>obtain⟨a83,a,a11,a13,rfl⟩:=k0;subst b;refine aa ?_;refine bp λa14 v=> ?_;have b47:=U.gW v a08;have k4: ∀k,eg (s.set a14 k) ek=some [.v (.bool false),.J [] .nil,.J [] .nil]:=λk=>U.aI (by rw[U.ao _ _ b47];exact a08);have b22:=a10.cE v;have w:=(Ext.of X).trans t;refine aa ?_;exact⟨_,U.a1,(a10.set b22).set z,(w.set (w.no b22 v)).set O,a83,_,_,_,rfl⟩
   |ok a15=>
    obtain⟨a11,a13,b48,b49,rfl,a84⟩:=k0
    dsimp only at b
    refine aa ?_;refine bp λa14 v=> ?_;obtain⟨W,j⟩: ∃W,s.set a14 (.cells [.v (.bool a15.leaf),a11,a13])=W:=⟨_,rfl⟩;have a16:s.sub W:=by rw[<-j];exact U.ae U.a1 v
    have b50:W.read a14=some [.v (.bool a15.leaf),a11,a13]:=U.af (by rw[<-j,U.ah]);have k8:=rd a16 a07;have a71:=rd a16 b21;have b81:=U.gW v a07;have b82:=U.gW v b21;have b51:=dq.mono ((dq.of b42 (L.mono b16) Ext.refl).step t a10) a16;obtain⟨b23,M,b52,a18⟩:=b51;refine cl (YR b23 W D S a81 b52 p.kids n5 x M Q a15 a11 a13 b48 b49 (a84.mono a16) a65 a9k V a09 E a96 a97) ?_;intro l8 N l9;clear j v b50 k8 a71;have a19:=λl4 a86 o=>YT (H:=a81) (h:=l4) (e:=E) (i:=V) (d:=a86) o a68 ⟨a84.ky,a84.iw⟩;generalize jT a81 E p.kids V a15=a74 at b l9 a19;obtain⟨res,l4⟩:=a74;have a27: ∀(a29),bB N D S l4->Ext D S b23 N->N ek=some (.cells [.v (.bool false),.J [] .nil,.J [] .nil])/\N F=some (.cells [.v (.bool false),P,x])/\
      ∃k1:U,(N.set F (.cells [.v (.bool false),P,a29])).set ek (.cells [.v (.bool false),P,a29])=k1/\k1.read ek=some [.v (.bool false),P,a29]/\bB k1 D S l4/\Ext D S e k1:=by
     intro a29 h y;have r:=a18.trans y;exact⟨r _ _ z.1 z.2 b18,r _ _ T.1 T.2 b17,_,rfl,U.af (U.ah _ _ _),(h.set T).set z,((((Ext.of b16).trans r).set a57).set O)⟩
    cases res with
    |error b46=>
     obtain⟨b24,b53,a83,a30,rfl,b54⟩:=l9
     dsimp only at b b24
     subst b;obtain⟨a88,a89,k1,a90,b12,a92,a94⟩:=a27 a30 b24 b53;have k4: ∀k,eg (N.set F k) ek=some [.v (.bool false),.J [] .nil,.J [] .nil]:=λk=>U.aI (by rw[U.ao _ _ a62];exact a88);have b11:=U.aI a89;clear a19 a27;refine aa ?_;exact⟨_,U.a1,a92,a94,a83,_,_,_,rfl⟩
    |ok a86=>
     obtain⟨b55,a30,b56,rfl,a34⟩:=l9;have b57:=a19 l4 a86 rfl
     dsimp only at b a34
     subst b;obtain⟨a88,a89,k1,a90,b12,a92,a94⟩:=a27 a30 a34.ga a34.ext;have k4: ∀k,eg (N.set F k) ek=some [.v (.bool false),.J [] .nil,.J [] .nil]:=λk=>U.aI (by rw[U.ao _ _ a62];exact a88);have b11:=U.aI a89;obtain⟨b83,a36,b84,a95⟩:=a34;have b54:=fH a36;clear a19 a27;refine aa ?_;have b58:=a18.trans (a95.trans (Ext.of a36.1));refine⟨_,U.a1,a92,a94,P,a30,a56,b55,rfl,iE.of q b56 (ar.emp (ar.mono B g) ?_) (ar.emp a36 ?_) a9m b57⟩
     .rintro a c d rfl;have u:=a04 _ _ _ rfl;obtain⟨_,a63,r⟩:=B.own;rw[<-a90,U.ao _ _ u.2.2.1,U.ao _ _ u.2.2.2.1,g _ _ r];exact b58 _ _ u.1 u.2.1 (by rw[l3 _ (λK Y Z o=>u.2.2.2.2 K Y Z o)];exact g _ _ r)
     .rintro a c d rfl;have l2:=a36.own.1;have b59:=a95 _ _ T.1 T.2 (a18 _ _ T.1 T.2 b17);have b60:=a95 _ _ z.1 z.2 (a18 _ _ z.1 z.2 b18);have h:a≠F:=by rintro rfl;rw[b59]at l2;cases l2
      have y:a≠ek:=by rintro rfl;rw[b60]at l2;cases l2
      rw[<-a90,U.ao _ _ y,U.ao _ _ h]
def lo (d:Nat) (k:List Int) (h:ag) (c:ay):Except Int ay×ag:=
 if c=aA then(.error 9,h)
 else match ia d k (c.size.toNat+1) h c with
  |(.error o,b)=>(.error o,b)
  |(.ok a,b)=>
   if a.leaf=true/\a.rows.length=0 then(.ok aA,b)
   else if a.leaf=false/\a.kids.length=1 then(.ok (a.kids.headD aA),b)
   else mg b d a.leaf a.rows a.kids
def YV (V:U) (x W:Nat) (L:ag) (H:bB V x W L) (c:ay) (e f g:Own) (I:c.sum.length=32) (k3:c.cC) (o:List Int) (n:Own) (b:Nat) (k4:1<=b) (k5:b<=8) (a13:o.length=b):
  AC Tryz.prog 87 [.ptr x 0,.agg (ab c e f g),.J (ad o) n,.v (.int .i64 (b:Int))] V λK k6=>bB k6 x W (lo b o L c).2/\Ext x W V k6/\ha (lo b o L c).1 K:=by
 have a14:=(aW (M:=e) (e6:=f) (h5:=g) I).lt;have a15:=(aW (M:= .nil) (e6:= .nil) (h5:= .nil) bj).lt;have a16:=cq;have M:=λN d h k i=>cD (a:= .nil) (b:= .nil) (c:= .nil) (w:=N) (M:=d) (e6:=h) (h5:=k) bj i;have a18:=M aA .nil .nil .nil bj;generalize O:ab aA .nil .nil .nil=k7 at*;obtain⟨k8,a⟩: ∃k8,lo b o L c=k8:=⟨_,rfl⟩;rw[a];unfold lo at a;have a19:qJ (b) [o]=true:=by simp[qJ];omega
 refine aM hm LO ?_;refine bp λhb n2=> ?_;refine cX λQ P _ _=> ?_;refine tY λn3 a27 _ _ _ _=> ?_;generalize y:((V.set hb _).set Q _).set n3 _=E;have q:V.sub E:=by subst y;exact aS
 have bm:E hb=some (.cells (ab c e f g)):=by subst y;exact aS
 have bt:E Q=some (.cells k7):=by subst y;exact aS
 clear y;have k9:=H.mono q;have r:=H.cE P;have l0:=U.af bm;have X:=U.aI bt;have n4:= @U.set_set;refine lX (DC b [o] [.J (ad o) n] _ E ⟨⟨n,rfl⟩,trivial⟩ (bR.J (by simp[aT,R.cells])) a9l) ?_;refine lX (nk c e f g E I k3) ?_;refine aG (λY=> ?_) λY=> ?_
 .rw[if_pos Y]at a;subst a;exact⟨_,U.a1,k9.set r,(Ext.of q).set P,a9o,by rw[O]⟩
 rw[if_neg Y]at a;refine bp λl1 s=> ?_;have a29:=U.gW s bm;obtain⟨j,z⟩: ∃j,E.set l1 (.cells [.ptr x 0,.v (.int .i64 (b))])=j:=⟨_,rfl⟩;have t:E.sub j:=by rw[<-z];exact U.ae U.a1 s
 have cf:j l1=some (.cells [.ptr x 0,.v (.int .i64 (b))]):=by rw[<-z,U.ah]
 have l2:=U.af cf;have l0:=rd t bm;refine cl (YU x W o n b k4 k5 (c.size.toNat+1) j L c e f g (k9.mono t) I k3 a9k a9k) ?_;intro K Z C;generalize ia b o (c.size.toNat+1) L c=n5 at C a;obtain⟨res,n9⟩:=n5;obtain⟨u,j9,C⟩:=C
 dsimp only at u C a
 have v:=j9 _ _ r.1 r.2 (t _ _ bt);have l3:=H.cE (U.bF q s);have a00:=j9 _ _ l3.1 l3.2 cf;have y:=(Ext.of (U.au q t)).trans j9;clear z l2 l0;cases res with
 |error a01=>obtain⟨a02,a30,w,l,rfl⟩:=C;subst a;refine aa ?_;refine bp λA S=> ?_;have l4:=u.cE S;have a03:=U.gW S v;have X: ∀l5,eg (Z.set A l5) Q=some k7:=λl5=>U.aI (by rw[U.ao _ _ a03];exact v);refine aa ?_;exact⟨_,U.a1,(u.set l4).set r,(y.set (y.no l4 S)).set P,a02,by rw[O]⟩
 |ok T=>
  obtain⟨w,l,a04,a05,rfl,p⟩:=C
  dsimp only at a
  refine aa ?_;refine bp λA S=> ?_;obtain⟨F,B⟩: ∃F,Z.set A (.cells [.v (.bool T.leaf),w,l])=F:=⟨_,rfl⟩;have D:Z.sub F:=by rw[<-B];exact U.ae U.a1 S
  have a34:F.read A=some [.v (.bool T.leaf),w,l]:=U.af (by rw[<-B,U.ah]);have l2:=rd D a00;have X:=U.aI (D _ _ v);have k0:=u.mono D;have k1:=y.trans (Ext.of D);have a36:=p.ow.len;have a38:=p.jS.len;have a42:=p.ky;have a43:=p.iw;rw[n4,B];clear S s n2 B;refine aG (λG=> ?_) λG=> ?_
  all_goals refine aG (λc2=> ?_) λc2=> ?_
  .rw[if_pos ⟨G,a9k⟩]at a;subst a;exact⟨_,U.a1,k0.set r,k1.set P,bj,me,.nil,.nil,.nil,by rw[O]⟩
  rotate_left
  .obtain⟨m,l6⟩:=a6I.1 (show T.kids.length=1 by omega);rw[if_neg (by simp[G]),if_pos ⟨G,a9k⟩,l6]at a;subst a;obtain⟨a47,a06,k2,a07,d,h,k,rfl⟩:=p.k.get (show T.kids[0]? =some m by rw[l6];rfl);obtain⟨l7,l8,l9⟩:=(p.uu.mono D).get 0 _ a06;have z:=aW (M:=d) (e6:=h) (h5:=k) k2;change nj F l7 (ab m d h k)at l9;have l8:cP 37 l (.v (.int .i64 0))=some l7:=l8;have a08:=l9.ld F U.a1 true 37 a9k (by rw[z.len];omega);rw[show aX true 37 (ab m d h k)= .agg (ab m d h k) by rw[aX,if_pos rfl,z.t37]]at a08;have a09:=M m d h k k2;have z:=z.lt;refine aa ?_;exact⟨_,U.a1,k0.set r,k1.set P,k2,a07,d,h,k,rfl⟩
  all_goals
   rw[if_neg (by rintro⟨i,a10⟩;first|omega|simp[G]at i),if_neg (by rintro⟨i,a10⟩;first|omega|simp[G]at i),G]at a;subst a;refine cl (DE F x W n9 k0 _ T.rows a04 w T.kids a05 l b k4 k5 p.r (p.aj.mono D) a9k p.k (p.uu.mono D) a9k) ?_;rintro K a48 ⟨a11,n0,C⟩;have X:=U.aI (n0 _ _ r.1 r.2 (D _ _ v));obtain⟨N,d,h,k,a01,n1,rfl⟩:=C.shape;have a52:=(aW (M:=d) (e6:=h) (h5:=k) n1).lt;have a09:=M N d h k n1;refine aa ?_;exact⟨_,U.a1,a11.set r,(k1.trans n0).set P⟩
end Go.Proofs.YtlgnfcaolejgeaaGreat
namespace Go.bz
open Go
end Go.bz
namespace Go.Proofs.YtlgnfcaolejgeaaGreat
open Go Go.bz
inductive qL where
 |row (r:List Int)
 |hd (k:ay)
def YW (h:qL) (b:R):Prop:=
 match h with
 | .row c=>c≠ []/\ ∃d,d≠ .nil/\b= .agg (.J (ad c) d::ab aA .nil .nil .nil)
 | .hd a=>a.sum.length=32/\a.cC/\ ∃k o p,b= .agg (.J [] .nil::ab a k o p)
abbrev YX (a b:Nat) (c:List R) (d:Own):List R:= [.ptr a 0,.v (.int .i64 (b:Int)),.J c d]
def DV (b:U) (c d h:Nat) (k:List qL):Prop:= ∃a o,b c=some (.cells (YX d h a o))/\az YW k a
structure DW where
 A:List qL
 B:List qL
 gone:List (List Int)
 xR:List (List Int)
 ox:Int
abbrev YY (a b:Nat) (c d:List R) (h k:Own) (o:Int):List R:= [.ptr a 0,.ptr b 0,.J c h,.J d k,.v (.int .i64 o)]
structure a4B (h k:U) (W o p z C d:Nat) (w:DW):Prop where
 sub:h.sub k
 xS:h W=none
 na:h o=none
 nb:h p=none
 a4C:o≠p
 a:DV k o z d w.A
 b:DV k p C d w.B
 w: ∃lZ fa r gr,k W=some (.cells (YY o p lZ r fa gr w.ox))/\az isRow w.gone lZ/\az isRow w.xR r/\bf h k 1 lZ fa/\bf h k 1 r gr/\ ∀x c y D,fa= .buf x c->gr= .buf y D->x≠y
end Go.Proofs.YtlgnfcaolejgeaaGreat
namespace Go.bz
open Go
end Go.bz
namespace Go.Proofs.YtlgnfcaolejgeaaGreat
open Go Go.bz
variable{w j3:ay}{e i v O b9 j1:Nat}{c0:c3}{H:ag}
def xT (a:fj H e w=some c0):ps e w c0:=by
 unfold fj at a;split at a
 .cases a
 .split at a
  .cases a
  .split at a
   .rename_i b;obtain rfl:=a4G a;exact ur b
   .cases a
end Go.Proofs.YtlgnfcaolejgeaaGreat
namespace Go.bz
open Go
end Go.bz
namespace Go.Proofs.YtlgnfcaolejgeaaGreat
open Go Go.bz
def wt:qL->Nat
 | .row _=>1
 | .hd a=>if 1<=a.size/\a.size<=1048576 then 3*a.size.toNat - 1 else 1
def kD (a:List qL):Nat:=(a.map wt).sum
structure Bd (w a:DW):Prop where
 wt:kD a.A+kD a.B<kD w.A+kD w.B
 rows:a.gone.length+a.xR.length+(kD a.A+kD a.B)<=w.gone.length+w.xR.length+(kD w.A+kD w.B)
 ox:w.ox<=a.ox/\a.ox+2*(kD a.A+kD a.B:Nat)<=w.ox+2*(kD w.A+kD w.B:Nat)
end Go.Proofs.YtlgnfcaolejgeaaGreat
namespace Go.bz
open Go
theorem YZ (a:Nat) (c:a<18446744073709551616):a^^^9223372036854775808=(a+9223372036854775808)%18446744073709551616:=by
 have h:(9223372036854775808)=2^63:=a9o;have d:(18446744073709551616)=2^64:=a9o;rw[d]at c;rw[h,d];apply a7f;intro b;rw[a8b,a9b,a8B,a8t];by_cases h1:b<63
 .rw[a8l h1];grind
 .by_cases k:b=63;grind
  .have o: ¬b<64:=a9k;have p:a.testBit b=false:=a6J (a5U c (a6t a9k a9k));grind
end Go.bz
namespace Go.Proofs.YtlgnfcaolejgeaaGreat
open Go Go.bz
theorem DX (a:Int):(ck a:Int)=(a+9223372036854775808)%18446744073709551616:=by grind[BitVec.ofInt,BitVec.toNat_ofInt,ck,BitVec.toNat_xor,YZ]
def Z0 (a:Int):IntKind.u64.wrap (IntKind.u64.wrap a+9223372036854775808)=(ck a:Int):=by rw[DX,kt,kt];omega
variable{b1:Int}
theorem DY (a: -9223372036854775808<=b1) (b:b1<9223372036854775808):(ck b1:Int)=b1+9223372036854775808:=by rw[DX];omega
variable{b0:Type}
theorem uv {a b:List b0}{d:b0} (h:a.length=b.length) (k: ∀c<a.length,a.getD c d=b.getD c d):a=b:=
 a8w h λc o p=>by grind
theorem nr (a c:List Int) (o p:Own) (h:U) (D:a.length<=1000000000000):
  AC Tryz.prog 14 [.J (ad a) o,.J (ad c) p] h λr x=>x=h/\r= .v (.bool (decide (a=c))):=by
 have E:=bH (q:=a);have F:=bH (q:=c);have G:= @dJ a;have L:= @dJ c;refine aM hm JX ?_;refine aG (λy=> ?_) λy=> ?_
 .exact aP (by grind)
 refine gK [0,1] (λb:Nat=> [(5,.v (.int .i64 b))]) (λb=>b<=a.length/\ ∀d<b,a.getD d 0=c.getD d 0) (λb=>a.length - b) 0 ⟨a9k,λd z=>by omega⟩ aS ?_;rintro b ⟨P,k⟩ S;refine aa ?_;refine aG (λC=> ?_) λC=> ?_;rotate_left
 .exact aP (by simp[uv a9k (λd z=>k d a9k)])
 refine aG (λc2=> ?_) λc2=> ?_
 .exact aP (by grind)
 .exact⟨b+1,⟨a9k,upto k c2⟩,rfl,a9k⟩
variable{g A e1:List R}{e i v O b9 j1:Nat}
theorem az.at {b:b0->R->Prop}{a:List b0} (d:b0) (h:az b a g) (k:e<a.length): ∃c,g[e]? =some c/\b (a.getD e d) c:=h.get (by simp_all)
theorem Z1 (b d:List (List Int)) (k o:List R) (z C:Own) (p:U) (r:az isRow b k) (x:az isRow d o) (P:b.length<=1000000000000) (D: ∀h∈b,h.length<=1000000000000):
  AC Tryz.prog 28 [.J k z,.J o C] p λh E=>E=p/\h= .v (.bool (decide (b=d))):=by
 have S:=r.len;have T:=x.len;refine aM hm Kj ?_;refine aG (λF=> ?_) λF=> ?_
 .exact aP (by grind)
 refine gK [0,1] (λa:Nat=> [(5,.v (.int .i64 a))]) (λa=>a<=b.length/\ ∀c<a,b.getD c []=d.getD c []) (λa=>b.length - a) 0 ⟨a9k,λc G=>by omega⟩ aS ?_;rintro a ⟨V,y⟩ W;refine aa ?_;refine aG (λL=> ?_) λL=> ?_;rotate_left
 .exact aP (by simp[uv a9k (λc G=>y c a9k)])
 obtain⟨_,e,_,rfl⟩:=r.at [] (e:=a) a9k;obtain⟨_,f,_,rfl⟩:=x.at [] (e:=a) a9k;refine lX (nr _ _ _ _ _ (D (b.getD a []) (by grind))) ?_;refine aG (λc2=> ?_) λc2=> ?_
 .exact aP (by grind)
 .exact⟨a+1,⟨a9k,upto y c2⟩,rfl,a9k⟩
def ib (a:Bool):UInt8:=if a=true then 1 else 0
def sI (a:List Int):List UInt8:=(a6.cc (a.map ck) 64).map ib
theorem ns (a:List Int) (b:Nat):(a6.cc (a.map ck) b).length=a.length*b:=by rw[a6.Dj,a4T]
theorem Z2 (c:List Int) (P:Own) (o:U) (n:c.length<=1000):
  AC Tryz.prog 345 [.J (ad c) P] o λS k=> ∃C,bf o k 1 ((sI c).map al) C/\S= .J ((sI c).map al) C:=by
 have q:=bH (q:=c);have D:= @dJ c;have T:(sI c).length=c.length*64:=by rw[sI,a4T,ns]
 refine aM hm Sr ?_;refine ch [0] (λa:Nat×List UInt8×Own=> [(3,.J (a.2.1.map al) a.2.2),(4,.v (.int .i64 ((a.1) - 1)))]) (λa k=>a.1<=64/\a.2.1++(a6.cc (c.map ck) a.1).map ib=sI c/\bf o k 1 (a.2.1.map al) a.2.2) (λa=>a.1) (64,[],.nil) ⟨⟨a9o,rfl,bf.nil U.a1⟩,aS⟩ ?_;rintro⟨x,E,V⟩ s ⟨y,p,h⟩ W
 dsimp only at y p h|-
 refine aa ?_;refine aG (λF=> ?_) λF=> ?_
 .obtain⟨b,rfl⟩: ∃b,x=b+1:=⟨x - 1,a9k⟩;have e:=congrArg List.length p;rw[a4J,T]at e;rw[a6.cc,a5J,<-a4U]at p;have f:((b+1:Nat)) - 1=(b:Int):=a9k;have t:IntKind.u64.wrap (b)=(b):=wrap_u64 a9k a9k;rw[f]at F|-;refine ch [0,4] (λa:Nat×List UInt8×Own=> [(3,.J (a.2.1.map al) a.2.2),(5,.v (.int .i64 (a.1)))]) (λa k=>a.1<=c.length/\E++((c.take a.1).map λg=>ib ((ck g).testBit b))=a.2.1/\bf o k 1 (a.2.1.map al) a.2.2) (λa=>c.length - a.1) (0,E,V) ⟨⟨a9l,a9l,h⟩,aS⟩ ?_;clear h;rintro⟨r,G,i⟩ u ⟨j,z,h⟩ W
  dsimp only at j z h|-
  have v:G.length<=65000:=by grind
  refine aa ?_;refine aG (λl=> ?_) λl=> ?_
  .have w:=eQ (a:=c) (b:=0) (e:=r) a9k;have A:=D (b:=r) a9k;clear D;generalize c.getD r 0=d at*;have B:bn .shr (.int .u64 (ck d)) (.int .u64 (b))=some (.int .u64 ((ck d>>>b))):=by rw[rX _ _ _ a9k a9k];simp
   have H:bn .rem (.int .u64 ((ck d>>>b))) (.int .u64 2)=some (.int .u64 (((ck d>>>b)%2:Nat))):=by simp only[bn,fp,hF,a5L,if_false,if_true];rfl
   have I:IntKind.u8.wrap (((ck d>>>b)%2:Nat))=((ib ((ck d).testBit b)).toNat):=by
    rw[wrap_u8 a9k a9k];have:(ck d).testBit b=decide ((ck d>>>b)%2=1):=by simp
    rw[this,ib];rcases Nat.mod_two_eq_zero_or_one (ck d>>>b)with L|L<;>simp[L]
   have K:=Z0 d;refine Xb h λM m N y _=> ?_;exact⟨(r+1,_,m),⟨by simp only;omega,by grind,y⟩,⟨rfl,rfl⟩,by simp only;omega⟩
  .rw[a4I a9k]at z;refine⟨(b,G,i),⟨by simp only;omega,by simp only[<-z,<-p,a6.fJ,a6K];rfl,h⟩,⟨rfl,rfl⟩,a9l⟩
 .obtain rfl:x=0:=a9k;grind[a6.cc,U.a1]
def Z3 (b:Nat) (c:List Bool) (a:Nat) (d:a<b):a6.iB (b - a) (c.drop (8*a))=UInt8.ofNat (a6.val ((c.drop (8*a)).take 8))::a6.iB (b -(a+1)) (c.drop (8*(a+1))):=by rw[show b - a=(b -(a+1))+1 by omega,a6.iB,a5w,show 8*(a+1)=8*a+8 by omega]
theorem xU: ∀(b:List Bool) (a:Bool),a6.val (b++ [a])=2*a6.val b+(if a=true then 1 else 0)
 | [],a=>by simp[a6.val]
 |c::b,a=>by
  simp only[a5V,a6.val,a4J,a4M,a4R,xU b a,a8v];split<;>omega
theorem Z4 (b:List Bool) (h:Nat) (l:b.length=8*h) (D:Own) (G:U) (O:h<=100000):
  AC Tryz.prog 344 [.J ((b.map ib).map al) D] G λm z=> ∃W,bf G z 1 ((a6.iB h b).map al) W/\m= .J ((a6.iB h b).map al) W:=by
 refine bc hm Sp a9l ?_;have e:((b.map ib).map al).length=8*h:=by simp[l]
 refine bT ?_;refine cu (λd z=> ∃(a:Nat) (x:List UInt8) (C:Own),a<=h/\x++a6.iB (h - a) (b.drop (8*a))=a6.iB h b/\x.length=a/\bf G z 1 (x.map al) C/\d 0= .J ((b.map ib).map al) D/\d 3= .J (x.map al) C/\d 4= .v (.int .i64 ((8*a:Nat))))
  (λd _=>match d 4 with| .v (.int _ L)=>8*h - L.toNat| _=>0) ⟨0,[],.nil,a9k,rfl,rfl,bf.nil U.a1,?_⟩ ?_
 .exact mW
 rintro d n ⟨a,x,C,Q,P,X,f,p,r,o⟩;by_cases g:((8*a:Nat))+7<((8*h:Nat):Int)
 .rw[Z3 h b a a9k]at P;refine aj (bm @p @r @o @e @g) ?_;refine cu (λd z=> ∃c:Nat,c<=8/\z=n/\d 0= .J ((b.map ib).map al) D/\d 3= .J (x.map al) C/\d 4= .v (.int .i64 ((8*a:Nat)))/\d 5= .v (.int .u8 (a6.val ((b.drop (8*a)).take c)))/\d 6= .v (.int .i64 c))
   (λd _=>match d 6 with| .v (.int _ L)=>8 - L.toNat| _=>0) ⟨0,a9k,rfl,?_⟩ ?_
  .refine aj (aH @p @r @o) ?_;rfl
  have q:=o;clear p r o;rintro Y s ⟨c,Z,rfl,p,r,o,E,F⟩;by_cases i:(c:Int)<8
  .have S:b[8*a+c]? =some b[8*a+c]:=a4H a9k;have j:(b.drop (8*a)).take (c+1)=(b.drop (8*a)).take c++ [b[8*a+c]]:=by rw[a5T,a7J,S];rfl
   generalize b[8*a+c]'a9k=k at S j;have T:=a6.nm ((b.drop (8*a)).take (c+1));have V:a6.val ((b.drop (8*a)).take (c+1))<256:=a5U T (by
    have:((b.drop (8*a)).take (c+1)).length<=8:=by rw[a4K];omega
    exact a6t a9k this)
   rw[j,xU]at V;have t:cP 1 (.J ((b.map ib).map al) D) (.v (.int .i64 (((8*a:Nat))+(c))))=some (.bV [.v (.int .u8 ((ib k).toNat))]):=by rw[show((8*a:Nat))+(c)=((8*a+c:Nat):Int) by omega,hJ a9k];rw[a5l,a5i,a5i,S];rfl
   have u:dn false 1 s (.bV [.v (.int .u8 ((ib k).toNat))])=some (.v (.int .u8 ((ib k).toNat))):=rfl;have j9:((ib k).toNat:Int)=if k=true then 1 else 0:=by cases k<;>rfl
   generalize k0:a6.val ((b.drop (8*a)).take c)=y at*;have k1:(if k=true then 1 else 0)<=1:=by split<;>omega
   have v:IntKind.u8.wrap (2*(y))=((2*y:Nat)):=by rw[wrap_u8 a9k a9k];omega
   have w:IntKind.u8.wrap (((2*y:Nat))+((ib k).toNat))=((2*y+(if k=true then 1 else 0):Nat)):=by grind[wrap_u8]
   have A:bn .mul (.int .u8 2) (.int .u8 (y))=some (.int .u8 ((2*y:Nat))):=by rw[<-v];rfl
   have B:bn .add (.int .u8 ((2*y:Nat))) (.int .u8 ((ib k).toNat))=some (.int .u8 ((2*y+(if k=true then 1 else 0):Nat))):=by rw[<-w];rfl
   refine aj (cf @p @r @o @E @F @i @t @u @A @B) ?_;grind[xU]
  .obtain rfl:c=8:=a9k;refine aj (bs @p @r @o @E @F @i) ?_;refine dd U.a1 (by simp[aT,R.cells]) λk2 k3 H=> ?_;refine aj (bm @p @r @o @E @F) ?_;refine ea (f.mono H.sub) (by intro k4 I;obtain⟨k5,_,rfl⟩:=a5c.1 I;rfl) (by simp[aT,R.cells]) (by grind) (by grind) λk6 k7 K=> ?_;have T:=a6.nm ((b.drop (8*a)).take 8);have V:a6.val ((b.drop (8*a)).take 8)<256:=a5U T (by
    grind)
   have M:R.v (.int .u8 (a6.val ((b.drop (8*a)).take 8)))=al (UInt8.ofNat (a6.val ((b.drop (8*a)).take 8))):=by show _=R.v (.int .u8 ((UInt8.ofNat (a6.val ((b.drop (8*a)).take 8))).toNat));rw[a5O,a6s V]
   have N:x.map al++ [R.v (.int .u8 (a6.val ((b.drop (8*a)).take 8)))]=(x++ [UInt8.ofNat (a6.val ((b.drop (8*a)).take 8))]).map al:=by rw[M,a5J];rfl
   rw[N]at K|-;refine aj (bs @p @r @o @E @F @q) ?_;grind
 .obtain rfl:a=h:=a9k;rw[a6Z,a6.iB,a5M]at P;subst P;refine aj (bm @p @r @o @e @g) ?_;exact⟨_,U.a1,C,f,rfl⟩
def codeF (a:List Int):List UInt8:=a6.iB (8*a.length) (a6.cc (a.map ck) 64)
def uw (a:List Int):(codeF a).length=8*a.length:=a6.Dp _ _
def DZ (a:List Int) (c:Own) (b:U) (d:a.length<=1000):
  AC Tryz.prog 315 [.J (ad a) c] b λh k=>b.sub k/\ ∃o,h= .J ((codeF a).map al) o:=by
 refine bc hm RS a9l ?_;refine bT ?_;refine ai (Z2 a c b d) ?_;rintro _ p ⟨r,x,rfl⟩;refine bT ?_;refine ai (Z4 (a6.cc (a.map ck) 64) (8*a.length) (by rw[ns];omega) r p a9k) ?_;rintro _ C ⟨y,z,rfl⟩;refine bT ?_;exact⟨_,U.a1,U.au x.sub z.sub,y,rfl⟩
def kE (a b:List Int):Bool:=if a.length=b.length then Op.bytesLess (codeF a) (codeF b)else decide (a.length<b.length)
def Z5 (a b:List UInt8):iW .lss (bb a) (bb b)=some (.v (.bool (Op.bytesLess a b))):=by show(bn .lss (.string ⟨a.toArray⟩) (.string ⟨b.toArray⟩)).map R.v= _;simp only[bn,pX,toList_mk,a5I]
theorem Z6 (a b:List Int) (d h:Own) (k:U):
  AC Tryz.prog 314 [.J ((codeF a).map al) d,.J ((codeF b).map al) h] k λy z=>z=k/\y= .v (.bool (kE a b)):=by
 refine bc hm RQ a9l ?_;have o:((codeF a).map al).length=8*a.length:=by rw[a4T,uw]
 have p:((codeF b).map al).length=8*b.length:=by rw[a4T,uw]
 have r:mU (.J ((codeF a).map al) d)=some (bb (codeF a)):=p4;have x:mU (.J ((codeF b).map al) h)=some (bb (codeF b)):=p4;unfold kE;by_cases C:a.length=b.length
 .have c:((8*a.length:Nat))=((8*b.length:Nat):Int):=a9k;refine aj (bs @o @p @c @r @x @Z5) ?_;exact⟨_,U.a1,rfl,by rw[if_pos C]⟩
 .have c: ¬((8*a.length:Nat))=((8*b.length:Nat):Int):=a9k;refine aj (bm @o @p @c @r @x) ?_;refine⟨_,U.a1,rfl,?_⟩;simp_all
theorem E0 (a b:List Int) (d h:Own) (c:U) (o:a.length<=1000) (p:b.length<=1000):
  AC Tryz.prog 251 [.J (ad a) d,.J (ad b) h] c λr x=>c.sub x/\r= .v (.bool (kE a b)):=by
 refine bc hm Qz a9l ?_;refine bT ?_;refine ai (DZ a d c o) ?_;rintro _ y ⟨D,z,rfl⟩;refine bT ?_;refine ai (DZ b h y p) ?_;rintro _ k ⟨E,C,rfl⟩;refine bT ?_;refine ai (Z6 a b z C k) ?_;rintro _ k ⟨rfl,rfl⟩;refine bT ?_;grind
theorem E1: ∀ {a b:List UInt8},a.length=b.length->Op.bytesLess a b=a6.sC a b
 | [],[],_=>rfl
 |h::a,k::b,c=>by
  have d:a.length=b.length:=by simpa using c
  simp only[Op.bytesLess,a6.sC,E1 d];grind
theorem E2 (d h:List Int): ∀(b:List (Int×Int)) (a:(Int×Int)×Nat),(b.map λc=>(ck c.1,ck c.2)).foldl a6.pick ((ck a.1.1,ck a.1.2),a.2)=((ck (b.foldl gO a).1.1,ck (b.foldl gO a).1.2),(b.foldl gO a).2)
 | [],a=>rfl
 |c::b,a=>by
  simp only[a5f,a5N];rw[<-E2 d h b];grind[a6.pick,gO]
structure bL (d:Nat) (p:List Int):Prop where
 len:p.length=d
 jU:cI p
def E3 (a b:List Int):(a.map ck).zip (b.map ck)=(a.zip b).map λc=>(ck c.1,ck c.2):=by rw[List.zip_map];rfl
theorem Z7 {b:(Int×Int)×Nat}: ∀(a:List (Int×Int)),(a.foldl gO b).1=b.1\/(a.foldl gO b).1∈a:=by
 intro a
 induction a generalizing b with
 |nil=>simp
 |cons d a ih=>
  rw[a5N];rcases ih (b:=gO b d)with c|c
  .rw[c];unfold gO;split
   .simp
   .simp
  .simp_all
variable{q b6:List Int}
theorem qM (z:1<=e) (C:e<=8) (h:bL e q) (k:bL e b6):bC q b6=a6.lexB (a6.cc (q.map ck) 64) (a6.cc (b6.map ck) 64):=by
 unfold bC;have D:=h.len;have E:=k.len;rw[if_pos ⟨a9k,a9k,a9k⟩];have F:q.zip b6≠ []:=by intro c;have:=congrArg List.length c;simp_all
 obtain⟨a,d,b⟩: ∃a d,q.zip b6=a::d:=by
  cases G:q.zip b6 with
  |nil=>trivial
  |cons a d=>simp
 have y:(q.zip b6).headD (0,0)=a:=by rw[b];rfl
 rw[y];have o:=a6.Dn 64 (q.map ck) (b6.map ck) a9m (λa b=>by
  obtain⟨L,P⟩:=a;have hm:=List.of_mem_zip b;obtain⟨p,_,rfl⟩:=a5c.1 hm.1;obtain⟨r,_,rfl⟩:=a5c.1 hm.2;exact a7n (oq _) (oq _)) (ck a.1,ck a.2) (by rw[E3,b];simp)
 rw[E3,E2 q b6 (q.zip b6) (a,0)]at o;rw[<-Bool.coe_iff_coe,decide_eq_true_eq];rw[<-o];simp only;have x:((q.zip b6).foldl gO (a,0)).1∈q.zip b6:=by grind[Z7]
 generalize ((q.zip b6).foldl gO (a,0)).1=c at x;obtain⟨p,r⟩:=c;have hm:=List.of_mem_zip x;have S:=h.jU p hm.1;have T:=k.jU r hm.2;grind[DY]
theorem E4 (c:1<=e) (d:e<=8) (a:bL e q) (b:bL e b6):kE q b6=bC q b6:=by have h:=a.len;have k:=b.len;rw[qM c d a b];unfold kE;rw[if_pos a9k,E1 (by rw[uw,uw];omega)];grind[codeF,a6.Dq,ns]
def E5: ∀(c:List Int),∀b∈c.zip c,b.1=b.2
 | [],b,a=>by cases a
 |d::c,b,a=>by
  rw[List.zip_cons_cons]at a;rcases a5g.1 a with rfl|a
  .rfl
  .exact E5 c b a
theorem sJ (a:List Int):bC a a=false:=by
 unfold bC;split
 .have: ∀(b:List (Int×Int)) (c),(∀d∈b,d.1=d.2)->c.1.1=c.1.2->(b.foldl gO c).1.1=(b.foldl gO c).1.2:=by
   intro b
   induction b with
   |nil=>intro c _ h;exact h
   |cons d b ih=>grind[gO]
  have k:=E5 a;have o:((a.zip a).headD (0,0)).1=((a.zip a).headD (0,0)).2:=by
   cases h:a.zip a with
   |nil=>rfl
   |cons d b=>simp_all
  grind
 .rfl
theorem gu (d:1<=e) (h:e<=8):a6.Ord bC (bL e) where
 ja:=sJ
 trans C D L b a p h1 k:=by rw[qM d h b a]at h1;rw[qM d h a p]at k;rw[qM d h b p];exact a6.Yp (by rw[ns,ns,b.len,a.len]) (by rw[ns,ns,a.len,p.len]) h1 k
 total C D b a h1 k:=by
  rw[qM d h b a]at h1;rw[qM d h a b]at k;have:=a6.Yq (by rw[ns,ns,b.len,a.len]) h1 k;have F:=a6.Yn (by simp[b.len,a.len]) 64 this (λr x=>by obtain⟨o,_,rfl⟩:=a5c.1 x;exact oq o) (λr x=>by obtain⟨o,_,rfl⟩:=a5c.1 x;exact oq o);refine a8p λy=> ?_;have c:=congrArg (λG=>G[y]?) F;simp only[a5i]at c;cases E:C[y]? with
  |none=>grind
  |some r=>rw[E]at c;cases z:D[y]? with
   |none=>rw[z]at c;cases c
   |some o=>rw[z]at c;simp only[a5I,a4S]at c;have P:=b.jU r (a4O E);have S:=a.jU o (a4O z);grind[DY]
variable{Q:List (List Int)}
def iF (a:az isRow Q g):aT 1 g:=a.cells λ_ _=>isRow.cells
theorem E6 {a:List Int->List Int->Bool} (d: ∀b<e,a (Q.getD b []) q=true) (c:e<=Q.length) (h:e<Q.length->a (Q.getD e []) q=false):a6.dL a Q q=Q.take e++ [q]++Q.drop e:=by
 rw[a4U];change _=Q.take e++q::Q.drop e
 induction Q generalizing e with
 |nil=>simp at c;subst c;rfl
 |cons k Q ih=>
  cases e with
  |zero=>grind[a6.dL,List.takeWhile_cons,List.dropWhile_cons]
  |succ e=>have p:a k q=true:=d 0 a9k;have:=ih (λb r=>d (b+1) a9k) (by simpa using c) (λo=>h (by simpa using o));simp_all [a6.dL]
theorem Z8 (b:List (List Int)) (L:List R) (W o:Own) (k:List Int) (y:U) (h:az isRow b L) (t:b.length<=1000) (e: ∀z∈b,z.length<=1000) (f:k.length<=1000):
  AC Tryz.prog 166 [.J L W,.J (ad k) o] y λz p=>y.sub p/\ ∃P C,z= .J P C/\az isRow (a6.dL kE b k) P:=by
 have u:=h.len;have v:=iF h;refine aM hm O8 ?_;refine ch [0,1] (λa:Nat×List R×Own=> [(5,.J a.2.1 a.2.2),(6,.v (.int .i64 (a.1)))]) (λa p=>a.1<=b.length/\(∀S<a.1,kE (b.getD S []) k=true)/\az isRow (b.take a.1) a.2.1/\bf y p 1 a.2.1 a.2.2) (λa=>b.length - a.1) (0,[],.nil) ⟨⟨a9l,λS w=>by omega,trivial,bf.nil U.a1⟩,aS⟩ ?_;rintro⟨d,A,on⟩ g ⟨D,r,c,x⟩ B
 dsimp only at D r c x|-
 have i:=c.len;rw[a4K]at i;refine aa ?_;refine aG (λj=> ?_) λj=> ?_
 .obtain⟨_,H,T,rfl⟩:=h.at [] (e:=d) a9k;have l:=eQ (a:=b) (b:= []) (e:=d) a9k;refine cl (E0 (b.getD d []) k T o g (e _ (by grind)) f) ?_;rintro _ I ⟨V,rfl⟩;refine aa ?_;refine aG (λc2=> ?_) λc2=> ?_
  .refine hP (x.mono V) (iF c) λ_ C p m _=> ?_;exact⟨(d+1,_,C),⟨by simp only;omega,upto r c2,by simp only[l];exact c.snoc ⟨T,rfl⟩,m⟩,⟨rfl,rfl⟩,by simp only;omega⟩
  .rw[E6 r D λ_=>c2];refine hP (x.mono V) (iF c) λ_ n q E _=> ?_;refine kv E (Cq (iF c) rfl) (iF (h.drop d)) λF s G _=> ?_;exact⟨G.sub,_,F,rfl,(c.snoc ⟨o,rfl⟩).append (h.drop d)⟩
 .rw[E6 r D λ_=>by omega];refine hP x (iF c) λ_ n q E _=> ?_;refine kv E (Cq (iF c) rfl) (iF (h.drop d)) λF s G _=> ?_;exact⟨G.sub,_,F,rfl,(c.snoc ⟨o,rfl⟩).append (h.drop d)⟩
def hf (a:Nat):List Nat:=(List.range (a6.bU a)).map λb=>a/a6.bU a+if b<a%a6.bU a then 1 else 0
def iG (a:List Nat):List R:=a.map λ(b:Nat)=>R.v (.int .i64 (b:Int))
def xV {a:Nat}:a6.bU a<=a:=by unfold a6.bU;omega
def ux {a:List Nat}:(iG a).length=a.length:=by simp[iG]
def E7 {a:List Nat}:aT 1 (iG a):=λc b=>by obtain⟨_,_,rfl⟩:=a5c.1 b;rfl
def uy {a:Nat}:(hf a).length=a6.bU a:=by simp[hf]
def xW {a b:Nat} (c:b<a6.bU a):(hf a).getD b 0=a/a6.bU a+if b<a%a6.bU a then 1 else 0:=by simp[hf,c]
def E8 (a:Nat) (g:a<=1000) (o:U):
  AC Tryz.prog 253 [.v (.int .i64 (a:Int))] o λG d=>o.sub d/\ ∃L,G= .J (iG (hf a)) L:=by
 have P:(a:Int).tdiv 4=((a/4:Nat)):=rfl;have x:a6.bU a=if 4*(a/4)<a then a/4+1 else a/4:=by unfold a6.bU;split<;>omega
 refine aM hm QD ?_;refine o6 [0] (λ_:Unit=> [(3,.v (.int .i64 (a6.bU a)))]) (λ_ d=>d=o) (λh=> ?_) (λh=> ?_) ?_
 .have h:=of_decide_eq_true h;rw[if_pos a9k]at x;have b:((a/4:Nat))+1=(a6.bU a:Int):=a9k;exact aS
 .have h:=of_decide_eq_false h;rw[if_neg a9k]at x;have b:((a/4:Nat))=(a6.bU a:Int):=a9k;exact aS
 rintro _ o rfl S;have i:iG []= []:=rfl;clear x P;have j:= @xV a;have T:= @uy a;have E:= @xW a;refine aa ?_;refine ch [0,3] (λc:Nat×Own=> [(4,.J (iG ((hf a).take c.1)) c.2),(5,.v (.int .i64 (c.1)))]) (λc d=>c.1<=a6.bU a/\bf o d 1 (iG ((hf a).take c.1)) c.2) (λc=>a6.bU a - c.1) (0,.nil) ⟨⟨a9l,bf.nil U.a1⟩,aS⟩ ?_;rintro⟨k,V⟩ l ⟨W,p⟩ S
 dsimp only at W p|-
 have m:=a7F a (a6.bU a);have n:(a:Int).tdiv (a6.bU a:Int)=((a/a6.bU a:Nat)):=rfl;have q:(a:Int).tmod (a6.bU a:Int)=((a%a6.bU a:Nat)):=rfl;refine aa ?_;refine aG (λh=> ?_) λh=> ?_
 .have F:=E (b:=k) a9k;have y:=eQ (a:=hf a) (b:=0) (e:=k) a9k;rw[F]at y;have z: ∀r:Nat,(if k<a%a6.bU a then 1 else 0)=r->iG ((hf a).take k)++ [R.v (.int .i64 ((a/a6.bU a+r:Nat)))]=iG ((hf a).take (k+1)):=λr b=>by
   rw[y,b,iG,iG,a5J];rfl
  have e:=z 0;have f:=z 1;clear E F y z T;generalize a/a6.bU a=r at*;generalize a%a6.bU a=s at*;generalize hf a=t at*;refine aG (λc2=> ?_) λc2=> ?_
  .have b:=f (if_pos a9k);refine hP p E7 (λ_ C d D _=> ?_) (P:=by rw[ux,a4K];omega);exact⟨(k+1,C),⟨by simp only;omega,b▸D⟩,⟨by simp only[<-b];rfl,rfl⟩,by simp only;omega⟩
  .have b:=e (if_neg a9k);refine hP p E7 (λ_ C d D _=> ?_) (P:=by rw[ux,a4K];omega);exact⟨(k+1,C),⟨by simp only;omega,b▸D⟩,⟨by simp only[<-b];rfl,rfl⟩,by simp only;omega⟩
 .rw[a4I a9k]at p|-;exact⟨p.sub,V,rfl⟩
end Go.Proofs.YtlgnfcaolejgeaaGreat
