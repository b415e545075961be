import Derived.Test.YtlgnfcaolejgeaaGreatMC
import Derived.ProofKit
import Derived.OpenShut
import Derived.WideKeyArgs
import Derived.Test.YtlgnfcaolejgeaaGreatMI
import Derived.Test.YtlgnfcaolejgeaaGreatRows
import Derived.JoinedOf
set_option linter.all false
namespace Go.bA
open Go Go.ChangeShapes Go.WideShapes Go.RowKit
def lF (a:World):bl:=λb c=>a.cell? ⟨b,c,none⟩
def a4a (b:World):Holds (lF b) U.emp b:=⟨λ_ _ _ a=>a,λ_ _ a=>by cases a⟩
def fF (k:bl) (a:List Value) (b:List R):Prop:=a.length=b.length/\ ∀(c:Nat) (d:Value) (h:R),a[c]? =some d->b[c]? =some h->aZ k d h
variable{u:bl}
theorem fF.nil:fF u [] []:=⟨rfl,λb c d a=>by simp at a⟩
variable{g A e1:List R}
def fF.append {h k:List Value} (c:fF u h g) (o:fF u k A):fF u (h++k) (g++A):=by
 refine⟨by simp[c.1,o.1],λx p r b a=> ?_⟩;rw[a8k]at b a;rw[<-c.1]at a;split at b
 .rename_i d;rw[if_pos d]at a;exact c.2 x p r b a
 .rename_i d;rw[if_neg d]at a;exact o.2 _ p r b a
variable{n b3:R}{e4:Value}
theorem fF.one (a:aZ u e4 n):fF u [e4] [n]:=⟨rfl,λb c d h k=>by
 grind⟩
variable{j8:Array Value}
def fF.a4b (a:fF u j8.toList g):br u j8 g:=br.dT.2 a
def dk (h:Program) (k:TypeId) (o:List R->Prop):Prop:=
 ∀ {b:Type} (p:TypeId×Value->b) (c:World) (r:Nat) (x:Nat->Bool) (y:Bool) (z:Nat) (d:List Value) (C:DataW b×List MemPlace),DataW.trod p h c r x y z k d=some C->
  ∃a,o a/\(∀D∈a,D.one=true)/\fF (lF c) d a
def a4D (a:List R):Prop:= ∃b:Bool,a= [.v (.bool b)]
def SInt (a:IntKind) (c:List R):Prop:= ∃b:Int,(Lit.int a b).wf=true/\c= [.v (.int a b)]
def vD (a:List R):Prop:= ∃b:UInt8,a= [ak b]
def rr (a:List R):Prop:= ∃aR:List UInt8,aR.length<=maxLen/\a= [bd aR]
def vE:List (List R->Prop)->List R->Prop
 | [],us=>us= []
 |c::d,us=> ∃a b,c a/\vE d b/\us=a++b
def a4c (a:List R->Prop):Nat->List R->Prop
 |0,us=>us= []
 |d+1,us=> ∃b c,a b/\a4c a d c/\us=b++c
def vF (b:List R->R) (c:List R->Prop) (d:List R):Prop:= ∃a:List (List R),(∀h∈a,c h)/\a.length<=maxLen/\d= [.J (a.map b) .any]
variable{e2:IntKind}{m:Program}{b2:TypeId}
def dk.int (a:m.underlying b2=some (.int e2)):dk m b2 (SInt e2):=λh k o p r x y z b=>by
 obtain⟨c,rfl,_,d⟩:=DataW.trod_int a b;exact⟨_,⟨c,d,rfl⟩,by simp[R.one],fF.one (.v _ rfl)⟩
def dk.byte (b:m.underlying b2=some (.int .u8)):dk m b2 vD:=λk o p r x y z C c=>by
 obtain⟨a,rfl,_,d⟩:=DataW.trod_int b c;obtain⟨D,E⟩:=bounds_u8 d;have h:(Value.int .u8 a)= .int .u8 ((UInt8.ofNat a.toNat).toNat:Int):=by congr 1;rw[a5L];omega
 refine⟨_,⟨UInt8.ofNat a.toNat,rfl⟩,by simp[ak,R.one],fF.one ?_⟩;rw[ak,<-h];exact .v _ rfl
def dk.str (b:m.underlying b2=some .string):dk m b2 rr:=λk o p r x y z C c=>by
 obtain⟨a,rfl,_,d⟩:=DataW.trod_string b c;refine⟨_,⟨a.data.toList,by simpa using d,rfl⟩,by simp[bd,R.one],fF.one ?_⟩;have h:(⟨a.data.toList.toArray⟩:ByteArray)=a:=by cases a;simp
 rw[bd,h];exact .v _ rfl
def A6 (a:Program):List Field->List (List R->Prop)->Nat->Nat->Prop
 | [],[],off,b=>off=b
 |c::d,h::rs,off,b=>c.offset=off/\dk a c.type h/\A6 a d rs (off+a.cellsOf c.type) b
 | _,_,_,_=>False
theorem dk.struct {b:Array Field}{x:List (List R->Prop)} (F:m.underlying b2=some (.struct b)) (G:A6 m b.toList x 0 (m.cellsOf b2)):dk m b2 (vE x):=λL y P S T H r I V=>by
 obtain⟨W,e,_,_,f,g,i⟩:=DataW.trod_struct F V;have j: ∀(k:List Field) (c:List (List R->Prop)) (a d:Nat),b.toList.drop a=k->A6 m k c d (m.cellsOf b2)-> ∃h,vE c h/\(∀l∈h,l.one=true)/\fF (lF y) (r.drop d) h:=by
  intro k
  induction k with
  |nil=>
   intro c a d n o;cases c with
   |cons _ _=>exact o.elim
   |nil=>exact⟨[],rfl,a9q,by rw[a5T (by rw[f];exact a9i o.symm)];exact fF.nil⟩
  |cons p k ih=>
   intro c a d n o;cases c with
   |nil=>exact o.elim
   |cons K c=>
    obtain⟨z,C,D⟩:=o;have q:a<b.toList.length:=by grind[List.drop_of_length_le]
    have s:b.toList[a]=p/\b.toList.drop (a+1)=k:=by grind[List.drop_eq_getElem_cons,List.cons.inj]
    obtain⟨h,t,M,u⟩:=ih c (a+1) _ s.2 D;have v:b[a]? =some p:=by grind
    have:=i a p v;have w:a<W.length:=by rw[g];simpa using q
    rw[a4H w,z]at this;obtain⟨E,A,N,a3⟩:=C L y P S T e _ _ this;refine⟨E++h,⟨E,h,A,t,rfl⟩,?_,?_⟩;grind
    .have B:r.drop d=(r.drop d).take (m.cellsOf p.type)++r.drop (d+m.cellsOf p.type):=by rw[<-a5B,a5p]
     rw[B];exact a3.append u
 obtain⟨h,z,C,D⟩:=j b.toList x 0 0 rfl G;grind
theorem GS {h p:Type} (c:h->Option p): ∀(a:List h) (d:List p),a.mapM c=some d->d.length=a.length/\ ∀(r:Nat) (x:h),a[r]? =some x-> ∃y,d[r]? =some y/\c x=some y
 | [],d,b=>by simp_all
 |z::a,d,b=>by
  rw[List.mapM_cons]at b;cases k:c z with
  |none=>simp[k]at b
  |some D=>
   cases o:a.mapM c with
   |none=>simp[k,o]at b
   |some C=>simp[k,o]at b;subst b;obtain⟨E,F⟩:=GS c a C o;grind
variable{e i v M c0 j0:Nat}{l h8:World}
def GU {d:Addr}{c:List Value} (b:l.cells? i d e=some c):c.length=e/\ ∀a,a<e->c[a]? =l.cell? (d.add a):=by
 unfold World.cells? at b;split at b
 .obtain⟨h,k⟩:=GS _ _ _ b;refine⟨by simpa using h,λa o=> ?_⟩;obtain⟨x,p,r⟩:=k a a (by simp[o]);rw[p,r]
 .cases b
theorem a4d {b:Addr} (a:l.cell? b=some e4):b.spot=none:=by
 unfold World.cell? at a;split at a;simp_all
 .cases a
theorem add_add {a:Addr} (d:a.spot=none) (b:Nat):a.add b=⟨a.block,a.off+b,none⟩:=by
 unfold Addr.add;split
 .rename_i c;subst c;cases a;simp_all
 .rfl
structure tp (b:List R->R) (a:List R->Prop) (k:Nat):Prop where
 len: ∀us,a us->us.length=k
 cells: ∀us,a us->(b us).cells=us
def GV {c:List R->R}{d:List R->Prop}{o:Nat} (h:tp c d o): ∀b:List (List R),(∀a∈b,d a)->flat (b.map c)=b.flatten
 | [],_=>rfl
 |a::b,k=>by
  simp only[a5h,flat,a5l,a6A];rw[h.cells a (k a a9q)];have:=GV h b λa p=>k a (by simp[p]);simp only[flat]at this;rw[this]
theorem dk.slice {w:TypeId}{x:List R->Prop}{n:List R->R} (Z:m.underlying w=some (.slice b2)) (j9:m.cellsOf b2=e) (q:0<e) (F:tp n x e) (k0:dk m b2 x):dk m w (vF n x):=λk1 k A k2 k3 n1 n2 o k4=>by
 rcases DataW.trod_slice Z k4 with ⟨rfl,_⟩|⟨f,len,B,k5,n3,k6,_,rfl,_,n4,k7,n5,n9,H,_,_⟩
 .exact⟨_,⟨[],a9q,a9q,rfl⟩,by simp[R.one],fF.one (.di none 0 .any (λ_=>rfl) trivial)⟩
 .rw[j9]at H;have I: ∀c,c<len-> ∃b p,x b/\(∀y∈b,y.one=true)/\k.cells? A (f.add (c*e)) e=some p/\fF (lF k) p b:=λc r=>by
   have K:=H c r;have k8:c<k5.length:=a9p;rw[a4H k8,Option.bind_eq_some_iff]at K;obtain⟨p,S,s⟩:=K;obtain⟨b,g,t,u⟩:=k0 k1 k A k2 k3 k6 p _ s;exact⟨b,p,g,t,S,u⟩
  by_cases k9:len=0
  .subst k9;exact⟨_,⟨[],a9q,a9q,rfl⟩,by simp[R.one],fF.one (.di (some f) B .any (λl0=>by cases l0) trivial)⟩
  .have M:f.spot=none:=by obtain⟨b,p,_,_,S,_⟩:=I 0 a9p;obtain⟨s,v⟩:=GU S;have T:=v 0 q;simp only[a8g]at T;grind[List.getElem?_eq_getElem,Addr.add,a4d]
   obtain⟨z,C,a00⟩:=f;simp only at M;subst M;have l1: ∃d:List (List R),d.length=len/\ ∀c b,d[c]? =some b->x b/\(∀y∈b,y.one=true)/\ ∀a h,b[a]? =some h-> ∃o,k.cell? ⟨z,C+(c*e+a),none⟩=some o/\aZ (lF k) o h:=by
    have: ∀D,D<=len-> ∃d:List (List R),d.length=D/\ ∀c b,d[c]? =some b->x b/\(∀y∈b,y.one=true)/\ ∀a h,b[a]? =some h-> ∃o,k.cell? ⟨z,C+(c*e+a),none⟩=some o/\aZ (lF k) o h:=by
     intro D
     induction D with
     |zero=>simp
     |succ D ih=>
      intro a01;obtain⟨d,V,W⟩:=ih a9p;obtain⟨b,p,g,t,S,u⟩:=I D a9p;refine⟨d++ [b],by simp[V],λc N r=> ?_⟩;rw[a8k]at r;split at r
      .exact W c N r
      .rename_i a02;have l2:c=D:=by grind
       subst l2;have:N=b:=by simp_all
       subst this;refine⟨g,t,λa h i=> ?_⟩;have l3:a<e:=by have:=(a4P.1 i).1;rw[F.len _ g]at this;exact this
       obtain⟨s,v⟩:=GU S;have T:=v a l3;have O:a<p.length:=a9p;rw[a4H O]at T;have l4:((⟨z,C,none⟩:Addr).add (c*e)).add a=⟨z,C+(c*e+a),none⟩:=by rw[add_add (by rw[add_add rfl]),add_add rfl];simp[a7W]
       rw[l4]at T;exact⟨p[a],T.symm,u.2 a _ _ (a4H O) i⟩
    exact this len (a5k _)
   obtain⟨d,V,W⟩:=l1;have G: ∀b2∈d,x b2:=λb2 E=>by
    obtain⟨c,r,rfl⟩:=a5y E;exact(W c _ (a4H r)).1
   have Q:=GV F d G;have l5: ∀(L:List (List R)),(∀b2∈L,x b2)-> ∀a h,L.flatten[a]? =some h-> ∃b,L[a/e]? =some b/\b[a%e]? =some h:=by
    intro L
    induction L with
    |nil=>intro _ a h P;simp at P
    |cons b2 L ih=>
     intro X a h P;have a03:=F.len b2 (X b2 a9q);rw[a6A,a8k]at P;split at P;grind[Nat.div_eq_of_lt,Nat.mod_eq_of_lt]
     .rename_i i;obtain⟨b,l6,l7⟩:=ih (λb2 E=>X b2 (by simp[E])) (a - b2.length) h P;have Y:a=(a - b2.length)+e:=a9p;refine⟨b,?_,?_⟩
      .rw[Y,Nat.add_div_right _ q];exact l6
      .rw[Y,Nat.add_mod_right];exact l7
   have a04:d.flatten.length=len*e:=by
    rw[<-V];clear l5 Q V W
    induction d with
    |nil=>simp
    |cons b2 d ih=>rw[a6A,a4J,ih (λb2 E=>G b2 (by simp[E])),F.len b2 (G b2 a9q),a4M,a5J,a7g,a8B]
   refine⟨_,⟨d,G,a9p,rfl⟩,by simp[R.one],fF.one ?_⟩;have l8: ∀a h,d.flatten[a]? =some h-> ∃o,k.cell? ⟨z,C+a,none⟩=some o/\aZ (lF k) o h:=λa h P=>by
    grind[Nat.div_add_mod']
   refine aZ.J z C len B e (λa=>(k.cell? ⟨z,C+a,none⟩).getD undef) (d.map n) .any q (by simp[V]) k7 ?_ ?_ ?_ ?_ trivial
   .intro b2 E;obtain⟨b,j,rfl⟩:=a5d.1 E;rw[F.cells b (G b j),F.len b (G b j)]
   .intro y l;rw[Q,a8z]at l;obtain⟨b,j,l⟩:=l;obtain⟨c,r,rfl⟩:=a5y j;exact(W c _ (a4H r)).2.1 y l
   .intro a i;have l9:a<d.flatten.length:=a9p;obtain⟨o,n0,a05⟩:=l8 a _ (a4H l9);show k.cell? _= _;rw[n0];rfl
   grind
def tq (b:Program) (c:TypeId) (k:R->Prop):Prop:=
 ∀ {d:Type} (o:TypeId×Value->d) (a:World) (p:Nat) (r:Nat->Bool) (v:Value) (x:DataW d) (y:List MemPlace),Value.okWide b a .any p c v->DataW.Trod o b a 0 r true c v x y-> ∃h,k h/\aZ (lF a) v h
theorem a4e {a:Reach}{v:Value} (b:Cell.okWide m l a e b2 v):v.cells= #[v]:=by
 cases v with
 |agg cs=>simp_all [Cell.okWide,Cell.ok]
 |tuple cs=>simp_all [Cell.okWide,Cell.ok]
 | _=>rfl
def isRow (a:Option TypeDesc):Bool:=
 match a with
 |some (.struct _)=>true
 |some (.array _ _)=>true
 | _=>false
def vG (a:List R->Prop) (b:R):Prop:=a [b]
def a4E (b:List R->Prop) (c:R):Prop:= ∃a,b a/\c= .agg a
def tq.cell {k:List R->Prop} (b:isRow (m.underlying b2)=false) (p:dk m b2 k):tq m b2 (vG k):=λr x L y v P S c z=>by
 obtain⟨C,D⟩:=z;obtain⟨E,d,T,a⟩:=p r x 0 y true C _ _ D;have F:v.cells= #[v]:=by
  unfold Value.okWide at c;split at c
  .rename_i h;rw[h]at b;cases b
  .rename_i h;rw[h]at b;cases b
  .exact a4e c
 rw[F]at a;have G:=a.1
 match E,G,d,a with
 | [o],_,d,a=>exact⟨o,d,a.2 0 v o rfl rfl⟩
def tr (a:Program):List TypeId->List (R->Prop)->Prop
 | [],[]=>True
 |b::sl,c::lG=>tq a b c/\tr a sl lG
 | _,_=>False
def ts:List (R->Prop)->List R->Prop
 | [],a=>a= []
 |d::lG,a=> ∃b c,a=b::c/\d b/\ts lG c
def GW {r:Program}{z:Type}{C:TypeId×Value->z}{k:World}{D:Nat}{E:Nat->Bool}: ∀(a:List TypeId) (lG:List (R->Prop)) (c:List Value) (o:List (DataW z)) (x:List MemPlace),
  tr r a lG->(∀(p:Nat) b v,a[p]? =some b->c[p]? =some v->Value.okWide r k .any D b v)->DataW.TrodAll C r k 0 E true a c o x-> ∃d,ts lG d/\fF (lF k) c d/\o.length=a.length
 | [],[],c,o,x,_,_,y=>by
  obtain⟨rfl,rfl,rfl⟩:=trodAll_nil y;exact⟨[],rfl,fF.nil,rfl⟩
 |b::a,q::lG,c,o,x,F,G,y=>by
  obtain⟨v,P,S,T,V,W,rfl,rfl,rfl,e,f⟩:=trodAll_cons y;obtain⟨L,g,i⟩:=F.1 C k D E v S V (G 0 b v rfl rfl) e;obtain⟨d,j,l,m⟩:=GW a lG P T W F.2 (λp b v h n=>G (p+1) b v (by simpa using h) (by simpa using n)) f;exact⟨L::d,⟨L,d,rfl,g,j⟩,(fF.one i).append l,by simp[m]⟩
 | [],_:: _,_,_,_,h,_,_=>h.elim
 | _:: _,[],_,_,_,h,_,_=>h.elim
def a4f {a:MemPlace} (b:h8.heap[a.block]? =l.heap[a.block]?):l.sameAt h8 a:=by
 cases a with
 |cell c off=>show h8.cell? _=l.cell? _;have b:h8.heap[c]? =l.heap[c]? :=b;simp only[World.cell?,b]
 |map c=>exact b
theorem GX {b:Program}{z:Type}{C:TypeId×Value->z}{D E:World}{y:Nat} (F:laidOutB b=true) (G: ∀c,c<y->E.heap[c]? =D.heap[c]?): ∀(d:List TypeId) (o:List Value) (p:List (DataW z)) (h:List MemPlace),
  (∀a∈d,b.readableRec a=true/\a<b.types.size)->(∀L∈h,L.block<y)->DataW.TrodAll C b D 0 (λ_=>true) true d o p h->DataW.TrodAll C b E 0 (λc=>decide (c<y)) true d o p h
 | [],o,p,h,_,_,k=>by
  obtain⟨rfl,rfl,rfl⟩:=trodAll_nil k;exact trodAll_mk0
 |a::d,o,p,h,P,S,k=>by
  obtain⟨v,T,j,V,L,W,rfl,rfl,rfl,e,f⟩:=trodAll_cons k;obtain⟨g,i⟩:=P a a9q;refine trodAll_cons_mk (WideElems.Trod_stays F g i e (λr x=>a4f (G _ (S r (a6Z _ x)))) (λr x=>by simp_all)) ?_;exact GX F G d T V W (λa k=>P a (by simp[k])) (λr x=>S r (a6V _ x)) f
theorem a4g {b:MemPlace->Prop} (c:h8.os=l.os) (d:h8.output=l.output) (h: ∀a,a<l.heap.size->h8.heap[a]? =l.heap[a]?):l.keptBut h8 b:=by refine⟨c,d,λk o=> ?_⟩;grind
variable{I:Bool}{b4:FuncId}{b0:Type}
def a4h {V:TypeId×Value->b0}{d:Func}{k:ChangeSpec}{s t:Bool}{C:List (R->Prop)} (u:laidOutB m=true) (w: ∀h∈d.params.toList,m.readableRec h=true/\h<m.types.size)
  (W:k.vars= []) (A:d.resultTypes= #[b2]) (o:m.underlying b2=some .bool) (B:tr m d.params.toList C) (D: ∀c:List (DataW b0),c.length=d.params.toList.length->k.fn b0 c= {results:= [.lit (.bool true)],args:=c,vars:= []})
  (p:U) (a:World) (H:Holds (lF a) p a) (K: ∀b r,p b=some r-> ∃E,r= .ro E)
  (M: ∀x,ts C x->AC m b4 x p λe _=>e= .v (.bool true))
  (f:Nat) (args:Array Value) (c N:List (DataW b0)) (O:List MemPlace) (Q: ∀(y:Nat) h v,d.params[y]? =some h->args[y]? =some v->Value.okWide m a .any f h v)
  (g:DataW.Whole V m d.params.toList k.vars I a args.toList c N O):
  Calls m b4 args a λi F=> ∃v,i= .returned v/\k.post V m d I s t false a args v F:=by
 have j:=g;obtain⟨G,k3,l,n,rfl,_,_⟩:=g;rw[W]at n;obtain⟨rfl,rfl⟩:=trodVars_none n;obtain⟨x,X,Y,L⟩:=GW (D:=f) _ C _ _ _ B (λy h v P Z=>Q y h v (by rwa[a6g]at P) (by rwa[a6g]at Z)) l;have j9: ∀S∈G,S.block<a.heap.size:=λS k0=>j.lt S (a6Z _ k0);refine(M x X args a (lF a) Y.a4b H).mono ?_;rintro i F ⟨v,e,k4,k5,rfl,z,k1,rfl⟩;have k2:v= .bool true:=by cases k1;rfl
 subst k2;have q: ∀b,b<a.heap.size->F.heap[b]? =a.heap[b]? :=λb o=>by
  cases T:p b with
  |none=>exact z.block b o T
  |some r=>obtain⟨E,rfl⟩:=K b r T;exact(z.jz b E o T).1
 refine⟨_,rfl,c,[],G++ [],[],G,[],j,?_,?_,?_,a4g z.os z.output.1 q,λP=>by cases P⟩
 .rw[a5R,D c L,A];exact trodAll_cons_mk (shut_bool o true) trodAll_mk0
 .rw[a5R,D c L];exact GX u q _ _ _ _ w j9 l
 .rw[a5R,D c L,W];rfl
def a4i {k:TypeId×Value->b0}{a:Func}{h:ChangeSpec}{C D:Bool}{o:List (R->Prop)} (E:laidOutB m=true) (F: ∀d∈a.params.toList,m.readableRec d=true/\d<m.types.size)
  (G:h.vars= []) (L:a.resultTypes= #[b2]) (P:m.underlying b2=some .bool) (S:tr m a.params.toList o) (T: ∀b:List (DataW b0),b.length=a.params.toList.length->h.fn b0 b= {results:= [.lit (.bool true)],args:=b,vars:= []})
  (V: ∀p,ts o p->AC m b4 p U.emp λW _=>W= .v (.bool true))
  (c:World) (r:Nat) (args:Array Value) (b x:List (DataW b0)) (y:List MemPlace) (e: ∀(z:Nat) d v,a.params[z]? =some d->args[z]? =some v->Value.okWide m c .any r d v)
  (f:DataW.Whole k m a.params.toList h.vars I c args.toList b x y):
  Calls m b4 args c λg i=> ∃v,g= .returned v/\h.post k m a I C D false c args v i:=
 a4h E F G L P S T U.emp c (a4a c) (λ_ _ j=>by cases j) V r args b x y e f
open Go
def ru (a:List R):R:=a.headD (.aL [])
end Go.bA
set_option maxRecDepth 100000
namespace Go.Proofs.YtlgnfcaolejgeaaGreat
open Go Go.bA
variable{b1:Int}
def wf_i64 (b:(Lit.int .i64 b1).wf=true): -9223372036854775808<=b1/\b1<=9223372036854775807:=by
 have a:IntKind.i64.min<=b1/\b1<=9223372036854775807:=by simpa[Lit.wf] using b
 have c:IntKind.i64.min= -9223372036854775808:=a9t;rw[c]at a;exact a
def a4j:tp ru (SInt .i64) 1:=⟨by rintro a ⟨b,_,rfl⟩;rfl,by rintro a ⟨b,_,rfl⟩;rfl⟩
abbrev vH:List R->Prop:=vF ru (SInt .i64)
variable{g A e1:List R}
theorem a4k (o:vH g): ∃h:List Int,cK h/\g= [.J (ad h) .any]:=by
 obtain⟨b,k,p,r⟩:=o;have: ∃a:List Int,cK a/\b.map ru=ad a:=by
  clear p r
  induction b with
  |nil=>exact⟨[],(λF x=>by cases x),rfl⟩
  |cons c b ih=>
   obtain⟨a,y,z⟩:=ih λc C=>k c (by simp[C]);obtain⟨D,E,rfl⟩:=k c a9q;refine⟨D::a,?_,by simp only[a5h,z];rfl⟩;intro v d;rcases a5i.1 d with rfl|d
   .have:=wf_i64 E;omega
   .exact y v d
 simp_all
def a4l:tp ru rr 1:=⟨by rintro a ⟨b,_,rfl⟩;rfl,by rintro a ⟨b,_,rfl⟩;rfl⟩
abbrev vI:List R->Prop:=vF ru rr
theorem a4m (h:vI g): ∃k:List (List UInt8),g= [.J (bE k) .any]:=by
 obtain⟨a,d,o,p⟩:=h;have: ∃b:List (List UInt8),a.map ru=bE b:=by
  clear o p
  induction a with
  |nil=>exact⟨[],rfl⟩
  |cons c a ih=>obtain⟨b,r⟩:=ih λc x=>d c (by simp[x]);obtain⟨y,z,rfl⟩:=d c a9q;exact⟨y::b,by simp only[a5h,r];rfl⟩
 simp_all
abbrev vJ:List R->Prop:=vE [vD,rr,vI,vH]
def GY (b:vJ g): ∃a:cf,cK a.d.row/\g=a.C:=by obtain⟨_,_,⟨c,rfl⟩,⟨_,_,⟨d,_,rfl⟩,⟨_,_,h,⟨_,_,k,o,rfl⟩,rfl⟩,rfl⟩,rfl⟩:=b;obtain⟨p,rfl⟩:=a4m h;obtain⟨r,x,rfl⟩:=a4k k;cases o;exact⟨⟨⟨c,d,p,r⟩,.any,.any⟩,x,rfl⟩
def a4n:tp R.agg vJ 4:=⟨λb a=>by obtain⟨c,_,rfl⟩:=GY a;rfl,λb a=>rfl⟩
abbrev tt:List R->Prop:=vF R.agg vJ
theorem a4o (p:tt g): ∃d:List cf,(∀h∈d,cK h.d.row)/\d.length<=maxLen/\g= [.J (jx d) .any]:=by
 obtain⟨b,o,r,x⟩:=p;have: ∃a:List cf,a.length=b.length/\b.map R.agg=jx a/\ ∀h∈a,cK h.d.row:=by
  clear r x
  induction b with
  |nil=>exact⟨[],rfl,rfl,λc k=>by cases k⟩
  |cons c b ih=>obtain⟨a,y,z,D⟩:=ih λc k=>o c (by simp[k]);obtain⟨C,E,rfl⟩:=GY (o c a9q);refine⟨C::a,by simp[y],by rw[a5h,z];rfl,?_⟩;grind
 grind
variable{n b3:R}
theorem GZ (b:vG tt n): ∃a:List cf,(∀c∈a,cK c.d.row)/\a.length<=9223372036854775807/\n= .J (jx a) .any:=by obtain⟨a,d,h,k⟩:=a4o b;grind[hm,maxLen,List.cons.inj]
def a4p:dk Tryz.prog 5 vD:=dk.byte a9u
def H0:dk Tryz.prog 9 rr:=dk.str a9u
def a4q:dk Tryz.prog 2 (SInt .i64):=dk.int a9u
def a4r:dk Tryz.prog 24 vH:=dk.slice (e:=1) (by kernel_rfl:Tryz.prog.underlying 24=some (.slice 2)) a9u a9p a4j a4q
def a4s:dk Tryz.prog 46 vI:=dk.slice (e:=1) (by kernel_rfl:Tryz.prog.underlying 46=some (.slice 9)) a9u a9p a4l H0
def a4t:dk Tryz.prog 64 vJ:=dk.struct (x:= [vD,rr,vI,vH]) Tryz.underlying64 (by
 refine⟨a9u,a4p,a9u,H0,a9u,a4s,a9u,a4r,(by show _= _;kernel_rfl)⟩)
def H2:dk Tryz.prog 22 tt:=dk.slice (e:=4) (by kernel_rfl:Tryz.prog.underlying 22=some (.slice 64)) a9u a9p a4n a4t
end Go.Proofs.YtlgnfcaolejgeaaGreat
namespace Go.Proofs.YtlgnfcaolejgeaaGreat.stateAll
open Go
def jA:(Rows.stateAllRow.inPlace==Tryz.prog.inPlace 6)=true:=a9u
def jB:(Rows.stateAllRow.unfollowed==Tryz.prog.unfollowed 6)=true:=a9u
def jC:(Rows.stateAllRow.named==Tryz.prog.varsNamed 6)=true:=a9u
def jD:(laidOutB Tryz.prog&&mapsRowed Tryz.prog&&Tryz.f6.params.all (Tryz.prog.readableRec·)&&namedTie Tryz.prog Rows.stateAllRow.named Rows.stateAllSpec.vars&&(Tryz.prog.stops== [])&&(Tryz.prog.stopKnobs== []))=true:=a9u
def sL:(Rows.stateAllRow.lifted==Tryz.prog.liftsFinal)=true:=a9u
def jF:(Tryz.prog.stopsHeard&&Tryz.prog.mayEnter&&(Tryz.prog.make==some Rows.stateAllRow.make)&&(Rows.stateAllRow.pinned==Rows.stateAllRow.pinnedBy))=true:=a9u
def a4u:joinedFacts Tryz.prog 6 Tryz.f6 Rows.stateAllSpec Rows.stateAllRow=true:=by
 unfold joinedFacts;have d:=jA;have a:=jB;have h:=jC;have b:=jD;have k:=sL;have c:=jF;simp only[a4K]at b c;obtain⟨⟨⟨⟨⟨o,p⟩,r⟩,x⟩,y⟩,z⟩:=b;obtain⟨⟨⟨C,D⟩,E⟩,F⟩:=c;have G:(Rows.stateAllRow.recurses==Tryz.prog.recurses 6)=true:=by have L:Rows.stateAllRow.unfollowed=Tryz.prog.unfollowed 6:=eq_of_beq a;unfold Program.recurses;rw[<-L];rfl
 rw[d,a,h,o,p,r,x,y,z,k,C,D,E,F,G];decide+kernel
end Go.Proofs.YtlgnfcaolejgeaaGreat.stateAll
