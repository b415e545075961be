import Derived.Test.YtlgnfcaolejgeaaGreatMA
import Derived.Lib.Overlaps
import Derived.Laws.Externs
import Derived.KernelRfl
import Derived.Test.YtlgnfcaolejgeaaGreatProg
set_option linter.all false
namespace Go.bB
open Go
variable{n b3:R}{s a7:R -> U -> Prop}{j8:Array Value}{j:Fr}{f t e7:U}{g A e1:List R}{e i v M c0 j0:Nat}{u:bm}{m:Program}{e4:Value}{l h8:World}
section
variable  {o:Oper}{a:Act}   
def I9 (x:TypeId) (b:Operand) (y:o.op= .call {callee:= .builtin .cap,args:= #[b],argTypes:= #[x]}) (F:TypeId) (z:m.underlying x=some (.slice F)) (L:aT b=true) (P:bM u a j) (C:Holds u f l) (c:G ⟨m,s⟩ (.mE b) j f a7):bS m s o a l u f a7:=by
 have d:=P.aj b L;simp only[G]at c;generalize D:a.eval b=W at d;split at c
 case h_2=>exact c.elim
 rename_i e h;unfold qa at h;split at h
 .rename_i S T k E r;rw[r]at d;obtain rfl:=a4I h;cases d with
  |al S T k E hk V=>exact .same C (v:= .int .i64 k) (by simp[execOp,y,resolve,invoke,builtin,D,Builtin.cap_,run_underlying z,goInt]) (.v _ rfl) c
 .rename_i r;rw[r]at d;obtain rfl:=a4I h;cases d with
  |dj g k dp bQ p=>simp only[Own.lI]at p;subst p;have:=bQ rfl;subst this;exact .same C (v:= .int .i64 0) (by simp[execOp,y,resolve,invoke,builtin,D,Builtin.cap_,run_underlying z,goInt]) (.v _ rfl) c
  |J i off len k E n xs dp hk hlen V q t hH v p=>exact p.elim
 .cases h
theorem Ia (z r:Nat) (y d h:Option Operand) (k b c:Int) (C:(y=none/\k=0)\/ ∃p,valOf a y=some (.int p k)) (D:(d=none/\b=z)\/ ∃p,valOf a d=some (.int p b)) (L:(h=none/\c=r)\/ ∃p,valOf a h=some (.int p c))
  (P:h=none\/d.isSome=true) (S:0<=k) (T:k<=b) (j:b<=c) (l:c<=r) (E:World):(Instr.sliceBounds true z r (valOf a y) (valOf a d) (valOf a h)).run m E= .ok (k.toNat,b.toNat,c.toNat) E:=by
 have n:(b.toNat:Int)=b:=a6q a9r;have q:(c.toNat:Int)=c:=a6q a9r;have V:0<=b:=a9r;have s:0<=c:=a9r;have W:b<=(r:Int):=a9r;have x:valOf a none=none:=rfl;rcases L with ⟨rfl,rfl⟩|⟨t,hm⟩
 .rcases C with ⟨rfl,rfl⟩|⟨e,F⟩<;>rcases D with ⟨rfl,rfl⟩|⟨f,G⟩
  .simp[Instr.sliceBounds,x]
  .simp only[Instr.sliceBounds,x,G];simp[run_sliceBound,W,V]
  .simp only[Instr.sliceBounds,x,F];simp[run_sliceBound,S,T]
  simp_all [Instr.sliceBounds,run_sliceBound]
 .have g:h≠none:=by rintro rfl;rw[x]at hm;cases hm
  have i:d.isSome=true:=P.resolve_left g;rcases D with ⟨rfl,rfl⟩|⟨f,G⟩
  .simp at i
  rcases C with ⟨rfl,rfl⟩|⟨e,F⟩;simp_all [Instr.sliceBounds,run_sliceBound];simp_all [Instr.sliceBounds,run_sliceBound]
def Ib (k2:TypeId) (e:Operand) (F P S:Option Operand) (k4:o.op= .slice k2 e F P S) (k5:S=none\/P.isSome=true) (Y:TypeId) (k6:m.underlying k2=some (.slice Y)) (g:Nat) (H:(m.info? Y).map (·.size)=some g) (k7:aT e=true) (I:F.all aT=true) (K:P.all aT=true) (M:S.all aT=true)
  (p:bM u a j) (N:Holds u f l) (T:G ⟨m,s⟩ (.lP g e F P S) j f a7):bS m s o a l u f a7:=by
 have r:=p.aj e k7;have O: ∀(i:Option Addr) (len k:Nat) (c h d:Int),((F=none/\c=0)\/ ∃q,valOf a F=some (.int q c))->((P=none/\h=len)\/ ∃q,valOf a P=some (.int q h))->((S=none/\d=k)\/ ∃q,valOf a S=some (.int q d))->0<=c->c<=h->h<=d->d<=k->
   a.eval e= .slice i len k->(execOp a.eval o).run m l= .ok (.value (sliced i c.toNat h.toNat d.toNat g)) l:=by
  intro i len k c h d x y z t v w C n;have k3:=Ia (m:=m) len k F P S c h d x y z k5 t v w C l;simp only[valOf]at k3;cases Z:m.info? Y with
  |none=>simp[Z]at H
  |some ii=>
   have k8:ii.size=g:=by simpa[Z] using H
   simp[execOp,k4,n,Instr.sliceAt,Instr.slice,run_underlying k6,k3,sizeOf,typeInfo,Z,k8,sliced]
 simp only[G]at T;generalize n:a.eval e=l6 at r;split at T
 case h_2=>exact T.elim
 rename_i L b;unfold rD at b;split at b
 .rename_i A len k Q V;rw[V]at r;split at b
  case h_2=>cases b
  rename_i c h d D W hm;split at b
  case isFalse=>cases b
  rename_i C;obtain⟨rfl,t,v,w,j9⟩:=C;obtain rfl:=a4I b;have x:=gm p I D;have y:=gm p K W;have z:=gm p M hm;cases r with
  |al A k9 k Q X k0=>
   have L:=O _ len k c h d (by simpa using x) y z t v w j9 n;refine .same N L ?_ T;cases F with
   |none=>
    simp only[dg,a4U]at D;subst D;simp only[a6K,a5S,if_false];have:sliced (some ⟨A,0,none⟩) ((0:Nat):Int).toNat h.toNat d.toNat Q= .slice (some ⟨A,0,none⟩) h.toNat d.toNat:=by unfold sliced;simp[Addr.add]
    rw[this];exact .al _ _ _ _ X a9r
   |some F=>
    simp only[a7k,if_true];by_cases B:c<d
    .rw[if_pos B];unfold sliced;rw[if_neg a9r,a5O,hj,a5g];exact .bx _ _ _ _ _ X a9r
    .rw[if_neg B];unfold sliced;have:h.toNat - c.toNat=0:=a9r;rw[this];exact .dj _ _ _ (λl0=>by omega) (show d.toNat - c.toNat=0 by omega)
 .rename_i A k1 len k Q V;rw[V]at r;split at b
  case h_2=>cases b
  rename_i c h d D W hm;split at b
  case isFalse=>cases b
  rename_i C;obtain⟨rfl,t,v,w,j9⟩:=C;obtain rfl:=a4I b;have x:=gm p I D;have y:=gm p K W;have z:=gm p M hm;cases r with
  |bx A k1 k9 k Q X k0=>
   have L:=O _ len k c h d (by simpa using x) y z t v w j9 n;refine .same N L ?_ T;by_cases B:c<d
   .rw[if_pos B];unfold sliced;rw[if_neg a9r,a5O,hj];exact .bx _ _ _ _ _ X a9r
   .rw[if_neg B];unfold sliced;have:h.toNat - c.toNat=0:=a9r;rw[this];exact .dj _ _ _ (λl0=>by omega) (show d.toNat - c.toNat=0 by omega)
 .rename_i V;rw[V]at r;split at b
  case h_2=>cases b
  rename_i c h d D W hm;split at b
  case isFalse=>cases b
  rename_i C;obtain⟨rfl,rfl,rfl⟩:=C;obtain rfl:=a4I b;have x:=gm p I D;have y:=gm p K W;have z:=gm p M hm;cases r with
  |dj i k dp bQ E=>simp only[Own.lI]at E;subst E;have:=bQ rfl;subst this;have L:=O none 0 0 0 0 0 (by simpa using x) (by simpa using y) (by simpa using z) a9r a9r a9r a9r n;exact .same N L (.dj _ _ .nil (λ_=>rfl) rfl) T
  |J l1 k1 len k g l2 xs dp H hlen k0 l3 l4 hH l5 E=>exact E.elim
 .rename_i V;rw[V]at r;split at b
  case h_2=>cases b
  rename_i c h d D W hm;split at b
  case isFalse=>cases b
  rename_i C;obtain⟨rfl,rfl,rfl⟩:=C;obtain rfl:=a4I b;have x:=gm p I D;have y:=gm p K W;have z:=gm p M hm;cases r with
  |dj i k dp bQ E=>simp only[Own.lI]at E;subst E;have L:=O i 0 0 0 0 0 (by simpa using x) (by simpa using y) (by simpa using z) a9r a9r a9r a9r n;refine .same N L ?_ T;unfold sliced;exact .dj _ _ .zero (λ_=>rfl) rfl
  |J l1 k1 len k g l2 xs dp H hlen k0 l3 l4 hH l5 E=>exact E.elim
 .cases b
theorem w3 (h:j8.size=e) (E: ∀b∈j8.toList,b.oneCell'=true) (z:0<e) (c:Nat):bs u (Builtin.zeroCells j8 c) (List.replicate c (j8.toList.map cZ)).flatten/\(∀p∈(List.replicate c (j8.toList.map cZ)).flatten,p.one=true):=by
 have r:(j8.toList.map cZ).length=e:=by simp[h]
 refine⟨bs.dU.2 ⟨by simp[size_zeroCells,jI],λx b F d C=> ?_⟩,λp k=> ?_⟩
 .have y:x<c*e:=by grind[List.getElem?_eq_some_iff,jI]
  rw[w0 _ _ _ (by rw[r];exact y),r,a5l]at C;rw[a6i]at d;have G:x%e<j8.size:=by rw[h];exact a6U _ z
  simp only[Builtin.zeroCells,h]at d;rw[a8q]at d;simp only[a9b,y,if_true,a5O,a4U]at d;grind[Array.getElem?_eq_getElem,Option.some.injEq,aZ.cZ]
 .obtain⟨L,D,k⟩:=a8B.1 k;obtain rfl:=(List.mem_replicate.1 D).2;obtain⟨b,_,rfl⟩:=a5f.1 k;exact nL b
theorem Ic (P:TypeId) (h:Operand) (C:o.op= .call {callee:= .builtin .clear,args:= #[h],argTypes:= #[P]}) (S:TypeId) (D:m.underlying P=some (.slice S)) (p:TypeInfo) (w:m.info? S=some p) (c:Value) (A:p.zero=some c) (V:c.cells.size=p.size) (W: ∀h∈c.cells.toList,h.oneCell'=true) (e:0<p.size)
  (B:aT h=true) (H:bM u a j) (g:Holds u f l) (y:G ⟨m,s⟩ (.mF p.size (c.cells.toList.map cZ) h) j f a7):bS m s o a l u f a7:=by
 have z:=H.aj h B;simp only[G]at y;generalize E:a.eval h=k3 at z;split at y
 case h_2=>exact y.elim
 rename_i k4 d;unfold kq at d;split at d
 .rename_i r k b F I L;rw[L]at z;split at d
  case h_2=>cases d
  rename_i k5 K;split at d
  case isFalse=>cases d
  rename_i M;obtain⟨rfl,N⟩:=M;obtain rfl:=a4I d;obtain⟨i,n⟩:=w3 (u:=u) V W e b;have q:(List.replicate b (c.cells.toList.map cZ)).flatten.length=b*p.size:=by rw[jI];simp[V]
  obtain⟨x,T,t,k6,O⟩:=Step.store g K k _ _ i n (by rw[q];exact N);refine .value (v:= .tuple #[]) ?_ O (.undef _) y;have v:=run_storeCells_at m r k T (Builtin.zeroCells c.cells b).toList 0 x l t (by have:=i.1;simp only[a7L];omega) (Ao W b);simp only[a6z]at v;have Q:(storeCells ⟨r,k,none⟩ (Builtin.zeroCells c.cells b).toList).run m l= .ok () (l.setRow r (cY x k (Builtin.zeroCells c.cells b).toList)):=by rw[v];rfl
  cases z with
  |bx r k b F I k7 X=>
   cases b with
   |zero=>
    have Y:(Builtin.zeroCells c.cells 0).toList= []:=a4P (by simp[size_zeroCells]);have Z:cY x k []=x:=by simp[cY]
    rw[Y,Z];have j9:l.setRow r x=l:=setRow_self l r x T (0,0) t;simp[execOp,C,resolve,invoke,builtin,E,Builtin.clear_,run_underlying D,j9]
   |succ b=>simp[execOp,C,resolve,invoke,builtin,E,Builtin.clear_,run_underlying D,zeroValue,w,A,typeInfo,Q]
 .rename_i k8 L;rw[L]at z;obtain rfl:=a4I d;have k0:(execOp a.eval o).run m l= .ok (.value (.tuple #[])) l:=by
   cases z with
   |dj k1 F dp bQ k2=>cases k1<;>simp[execOp,C,resolve,invoke,builtin,E,Builtin.clear_,run_underlying D]
   |J k9 k len F l0 l1 xs dp e q X l2 n hH l3 k2=>simp_all [execOp,resolve,invoke,builtin,Builtin.clear_,run_underlying]
  exact .same g k0 (.undef _) y
 .cases d
theorem Ie (L:aZ u e4 n) (M:Holds u f l) (c:bN f e n=some (i,g)) (y:Program) (b:Nat) (x:b<=i):
  ∃z:List Value,(Builtin.firstCells e b e4).run y l= .ok z.toArray l/\bs u z.toArray (g.take (b*e))/\(g.take (b*e)).length=b*e:=by
 have P: ∀(S:Value) (T:R) (V:List R),aZ u S T->bN f e T=some (b,V)->V=g.take (b*e)->(Builtin.firstCells e b S).run y l=(Builtin.firstCells e b e4).run y l->
   ∃z:List Value,(Builtin.firstCells e b e4).run y l= .ok z.toArray l/\bs u z.toArray (g.take (b*e))/\(g.take (b*e)).length=b*e:=by
  intro S T V N W t O;obtain⟨Q,v,w,k4,_⟩:=vZ N M W y;refine⟨Q,by rw[<-O];exact v.cells,?_,by rw[<-t,<-w];exact v.size⟩;rw[<-t];refine bs.dU.2 ⟨by simpa using w,λC k5 j k6 k7=> ?_⟩;grind
 have k8:=c;unfold bN at c;split at c
 .rename_i k A;split at c
  case isFalse=>cases c
  rename_i k9;simp only[a4U,a5W]at c;obtain⟨rfl,rfl⟩:=c;have l0: ∀D∈k,D.cells.length=e:=by simp_all
  cases L with
  |dj X d A bQ Y=>simp only[a4T,Nat.le_zero]at x;subst x;exact⟨[],by cases X<;>simp[Builtin.firstCells,loadCells,loadCellsFrom],⟨a9s,λC j c=>by simp at c⟩,a9s⟩
  |J B r len d F Z k A hk hlen H I l1 hH l2 Y=>
   subst hlen;have j9: ∀D∈k.take b,D.cells.length=F:=λD k0=>I D (a5b k0);have k1:flat (k.take b)=(flat k).take (b*F):=((ga b I).2).symm;by_cases K:k= []
   .subst K;simp only[a4T,Nat.le_zero]at x;subst x;exact⟨[],by simp[Builtin.firstCells,loadCells,loadCellsFrom],⟨a9s,λC j c=>by simp at c⟩,a9s⟩
   obtain rfl:F=e:=by
    match k,K with
    |l3::l4,_=>simp_all
   refine P (.slice (some ⟨B,r,none⟩) b d) (.J (k.take b) .any) (flat (k.take b)) (.J B r b d F Z (k.take b) .any hk a9t a9r j9 (λl5 G=> ?_) (λC k2=>hH C (a5Z k2 (a5a _ x))) (λC j l6=> ?_) trivial) ?_ k1 rfl;grind;grind
   .unfold bN;simp_all
 .rename_i p E d h;split at c
  case h_2=>cases c
  rename_i m q;split at c
  case isFalse=>cases c
  rename_i G;simp only[a4U,a5W]at c;obtain⟨rfl,rfl⟩:=c;obtain⟨rfl,k3⟩:=G;have W:b*h<=E*h:=a5a _ x;cases L with
  |al p E d h s H=>refine P (.slice (some ⟨p,0,none⟩) b d) (.al p b d h) (m.take (b*h)) (.al p b d h s a9r) ?_ (by grind) rfl;simp only[bN,q];rw[if_pos ⟨trivial,a9r⟩]
 .rename_i p r E d h;split at c
  case h_2=>cases c
  rename_i m q;split at c
  case isFalse=>cases c
  rename_i G;simp only[a4U,a5W]at c;obtain⟨rfl,rfl⟩:=c;obtain⟨rfl,k3⟩:=G;have W:b*h<=E*h:=a5a _ x;cases L with
  |bx p r E d h s H=>refine P (.slice (some ⟨p,r,none⟩) b d) (.bx p r b d h) ((m.drop r).take (b*h)) (.bx p r b d h s a9r) ?_ (by grind) rfl;simp only[bN,q];rw[if_pos ⟨trivial,a9r⟩]
 .cases c
theorem Ig (N k2:TypeId) (D E:Operand) (q:o.op= .call {callee:= .builtin .copy,args:= #[D,E],argTypes:= #[N,k2]}) (t:TypeId) (v:m.underlying N=some (.slice t)) (d:Nat) (k3:(m.info? t).map (·.size)=some d)
  (k4:aT D=true) (k5:aT E=true) (O:bM u a j) (V:Holds u f l) (W:G ⟨m,s⟩ (.mG d D E) j f a7):bS m s o a l u f a7:=by
 have y:=O.aj D k4;have Q:=O.aj E k5;simp only[G]at W;generalize e:a.eval D=k6 at y;split at W
 case h_2=>exact W.elim
 rename_i n1 n2 c;unfold la at c;split at c
 case h_2=>cases c
 rename_i h z X;obtain⟨k7,g,k8,n3,k9⟩:=vZ Q V X m;have l0:k7.length=h*d:=g.size;have n4:z.length=h*d:=by rw[<-k8,l0]
 have Y: ∀b,∃r:Array Value,(Builtin.firstCells d (min h b) (a.eval E)).run m l= .ok r l/\bs u r (z.take (b*d))/\(z.take (b*d)).length=min h b*d:=by intro b;obtain⟨r,n5,n9,a00⟩:=Ie Q V X m (min h b) a9r;grind[min,Nat.mul_le_mul_right,Nat.min_eq_left,List.take_of_length_le,Nat.min_eq_right]
 have l1: ∃w,m.info? t=some w/\w.size=d:=by simp_all
 obtain⟨w,A,B⟩:=l1;have a01: ∀(k p b x:Nat) (C:List R),k6= .slice (some ⟨k,p,none⟩) b x->f k=some (.cells C)->p+b*d<=C.length->
   a7 (.v (.int .i64 (min h b:Nat))) (f.set k (.cells (putAt C p (z.take (b*d)))))->bS m s o a l u f a7:=by
  intro k p b x C l2 H Z l3;obtain⟨r,F,L,i⟩:=Y b;have I: ∀K∈z.take (b*d),K.one=true:=λK P=>k9 K (a5b P);have a02:min h b*d<=b*d:=a5a _ a9r;obtain⟨j9,T,l4,a03,l5⟩:=Step.store V H p (z.take (b*d)) r L I a9r;refine .value (v:= .int .i64 (min h b:Nat)) ?_ l5 (.v _ rfl) l3;have k0:=run_storeCells_at m k p T r.toList 0 j9 l l4 (by have:=L.1;simp;omega) (L.nJ I);simp only[a6z]at k0;have l6:(storeCells ⟨k,p,none⟩ r.toList).run m l= .ok () (l.setRow k (cY j9 p r.toList)):=by rw[k0];rfl
  have n:Nat.min h b=min h b:=rfl;rw[l2]at e;simp[execOp,q,resolve,invoke,builtin,e,Builtin.copy_,run_underlying v,g.len,sizeOf,typeInfo,A,B,n,F,l6,goInt]
 split at c
 .rename_i k p b x M S;rw[S]at y;split at c
  case h_2=>cases c
  rename_i C H;split at c
  case isFalse=>cases c
  rename_i P;obtain⟨rfl,Z⟩:=P;simp only[a4U,a5W]at c;obtain⟨rfl,rfl⟩:=c;cases y with
  |bx k p b x M l7 k1=>grind
 .rename_i k b x M S;rw[S]at y;split at c
  case h_2=>cases c
  rename_i C H;split at c
  case isFalse=>cases c
  rename_i P;obtain⟨rfl,Z⟩:=P;simp only[a4U,a5W]at c;obtain⟨rfl,rfl⟩:=c;cases y with
  |al k b x M l7 k1=>simp_all
 .rename_i a04 S;rw[S]at y;simp only[a4U,a5W]at c;obtain⟨rfl,rfl⟩:=c;have c:(execOp a.eval o).run m l= .ok (.value (.int .i64 0)) l:=by
   obtain⟨r,F,L,i⟩:=Y 0;have n:Nat.min h 0=0:=Nat.min_zero h;rw[Nat.min_zero]at F;have l8:r= #[]:=a8j (by have:=L.1;simp at this;simpa using this);subst l8;cases y with
   |dj l9 x dp bQ n0=>cases l9<;>simp[execOp,q,resolve,invoke,builtin,e,Builtin.copy_,run_underlying v,g.len,sizeOf,typeInfo,A,B,n,F,goInt,storeCells]
   |J a05 p len x d a06 xs dp k3 i k1 a07 I hH a08 n0=>simp at i;subst i;simp[execOp,q,resolve,invoke,builtin,e,Builtin.copy_,run_underlying v,g.len,sizeOf,typeInfo,A,B,n,F,goInt,storeCells]
  exact .same V c (.v _ rfl) W
 .cases c
theorem Ih (k:FuncId) (c:Func) (p r:Operand) (M:Array TypeId) (N:o.op= .call {callee:= .value (.func k),args:= #[p,r],argTypes:=M}) (O:m.funcs[k]? =some c) (Q:(c.name== "runtime.NumGoroutine")=false) (X:c.body.isNone=true) (Y:Extern.findNext c=none)
  (d:TypeId) (D:Array TypeId) (Z:Extern.find c=some (Extern.SlicesOverlaps.overlaps #[d,d] D)) (x:TypeId) (j9:m.underlying d=some (.slice x)) (E:Nat) (k0:(m.info? x).map (·.size)=some E)
  (k1:aT p=true) (k2:aT r=true) (w:bM u a j) (A:Holds u f l) (z:G ⟨m,s⟩ (.mI p r) j f a7):bS m s o a l u f a7:=by
 have B:=w.aj p k1;have H:=w.aj r k2;simp only[G]at z;generalize k3:a.eval p=n9 at B;generalize k4:a.eval r=a00 at H;split at z
 case h_2=>exact z.elim
 rename_i a01 h;unfold ks at h;split at h
 case h_2=>cases h
 rename_i F L k5 k6;split at h
 case isFalse=>cases h
 rename_i k7;obtain⟨k8,k9,l0⟩:=k7;obtain rfl:=a4I h;have I: ∀(P:R) (S:Value) (b:Nat),cR P=some b->aZ u S P-> ∃l1 l2 l3,S= .slice (some ⟨b,l1,none⟩) l2 l3:=by
  intro P S b y V;cases V<;>simp only[cR,a4U,reduceCtorEq]at y
  .subst y;exact⟨_,_,_,rfl⟩
  .subst y;exact⟨_,_,_,rfl⟩
 have K: ∀b,kr f b=true-> ∃C T,l.heap[b]? =some (.cells C T (0,0))/\C.size≠0:=by
  intro b W;unfold kr at W;split at W
  .rename_i a02 a03 l4;obtain⟨_,C,T,y,V,_⟩:=A.dT b _ l4;exact⟨C,T,y,by rw[V.1];simp⟩
  .cases W
 obtain⟨e,g,i,rfl⟩:=I _ _ _ k5 B;obtain⟨n,q,c2,rfl⟩:=I _ _ _ k6 H;obtain⟨l5,l6,t,a04⟩:=K _ k9;obtain⟨l7,l8,l9,n0⟩:=K _ l0;have n1: ∀l,(Go.sizeOf x).run m l= .ok E l:=by
  intro l;cases n2:m.info? x with
  |none=>simp[n2]at k0
  |some ii=>simp_all [sizeOf,typeInfo]
 have n3:=Lib.run_overlaps_apart (P:=m) l d (D.getD 0 0) x j9 E n1 ⟨F,e,none⟩ ⟨L,n,none⟩ g i q c2 k8 l6 l8 l5.size l7.size (by simp[World.shape?,t]) (by simp[World.shape?,l9]) n0 (by simp[World.frozen?,t]) (by simp[World.frozen?,t]);have n4:(Extern.SlicesOverlaps.overlaps #[d,d] D #[.slice (some ⟨F,e,none⟩) g i,.slice (some ⟨L,n,none⟩) q c2]).run m l= .ok (.bool false) l:=n3;have v:=run_callFunc_extern (P:=m) (f:=k) (fn:=c) O Q X Y Z #[.slice (some ⟨F,e,none⟩) g i,.slice (some ⟨L,n,none⟩) q c2] l;rw[n4]at v;simp only[Result.andThen_ok]at v;refine .same A (v:= .bool false) ?_ (.v _ rfl) z;have n5:a.eval (.func k)= .func (.func k) #[] #[]:=rfl;simp[execOp,N,resolve,n5,Deferred.ofValue,invoke,k3,k4,v]
def Av (h:World) (z x G p:TypeId) (d:TypeInfo) (y:Value) (C:IntKind) (L:m.underlying z=some (.slice p)) (P:m.underlying x=some (.int C))
  (S:m.info? p=some d) (T:d.zero=some y) (D:Option Addr) (c k:Nat) (E:List Value) (u:0<d.size)
  (V:(Builtin.firstCells d.size c (.slice D c k)).run m h.drew= .ok E.toArray h.drew)
  (b:Nat) (v:0<b) (W:k<c+b) (w:((c+b:Nat):Int)<=9223372036854775807) (e:(c+b)*d.bytes<=140737488355328):
  (Builtin.append_ #[z,x] G #[.slice D c k,.int .i64 b]).run m h=
   .ok (.slice (some ⟨h.heap.size,0,none⟩) (c+b) (grownCap h (c+b) k p))
    (h.drew.alloc (.cells (E.toArray++Builtin.zeroCells y.cells b++Builtin.zeroCells y.cells (grownCap h (c+b) k p -(c+b))) p)):=by
 have f: ¬(c+b<=k):=a9r;have g: ¬(9223372036854775807<((c:Int)+(b:Int))):=a9r;have i: ¬(281474976710656<Builtin.nextslicecap (c+b) k*d.bytes):=by have:=growslice_fits W e;omega
 have j:IntKind.i64.wrap (b:Int)=b:=by rw[IntKind.wrap_i64];omega
 have l: ¬((b:Int)<0):=a9r;have A:b*d.bytes<=(c+b)*d.bytes:=a5a _ a9r;have n: ¬(281474976710656<(b:Int)*(d.bytes:Int)):=by rw[<-Int.natCast_mul];omega
 have F:b≠0:=a9r;have q: ¬(b*d.size=0):=Nat.mul_ne_zero F a9r;have s: ∀r:World,(underlying x).run m r= .ok (.int C) r:=λr=>run_underlying P r;have t: ¬(d.size=0):=a9r;simp[Builtin.append_,run_underlying L,s,sizeOf,typeInfo,zeroValue,S,T,asInt,asIntOf,j,l,f,q,F,t,g,i,n,Question.forced,V,newRow,grownCap]
theorem Ii (r x:Operand) (C D:TypeId) (B:IntKind) (k0:m.underlying D=some (.int B)) (k1:o.op= .call {callee:= .builtin .append,args:= #[r,x],argTypes:= #[C,D]}) (k:TypeId) (k2:m.underlying C=some (.slice k)) (d:TypeInfo) (k3:m.info? k=some d) (p:Value) (k4:d.zero=some p)
  (H:p.cells.size=d.size) (k5: ∀r∈p.cells.toList,r.oneCell'=true) (y:0<d.size) (l3:aT r=true) (l4:aT x=true) (k6:bM u a j) (S:Holds u f l) (z:G ⟨m,s⟩ (.mH d.size d.bytes (p.cells.toList.map cZ) r x) j f a7):bS m s o a l u f a7:=by
 have E:=k6.aj r l3;have V:=k6.aj x l4;simp only[G]at z;generalize k7:a.eval r=l5 at E;generalize k8:a.eval x=a01 at V;have newRow: ∀(I:List Value) (b c h:Nat) (e:List R),bs u I.toArray e->(∀W∈e,W.one=true)->b+c<=h->
   ∃F:List R,F.length=(h -(b+c))*d.size/\Step u f l u (f.set l.heap.size (.cells (e++(List.replicate c (p.cells.toList.map cZ)).flatten++F))) (l.drew.alloc (.cells (I.toArray++Builtin.zeroCells p.cells c++Builtin.zeroCells p.cells (h -(b+c))) k)):=by
  intro I b c h e K M N;obtain⟨l6,a02⟩:=w3 (u:=u) H k5 y c;obtain⟨l7,a03⟩:=w3 (u:=u) H k5 y (h -(b+c));refine⟨(List.replicate (h -(b+c)) (p.cells.toList.map cZ)).flatten,by rw[jI];simp[H],?_⟩;refine(Step.drew S).trans (Step.new S.drew _ k _ (λW g=> ?_) (bs.append (bs.append K l6) l7));grind
 split at z
 .rename_i i b h a04 c O Q;rw[O]at E;rw[Q]at V;obtain rfl:=V.dV;split at z
  case h_2=>exact z.elim
  rename_i n l8;obtain⟨rfl,l9,k9,n0,X,n1,Y⟩:=z;obtain⟨M,q,T,a05,a06,l0⟩:=S.read l8;have a07:q.size=n.length:=l0.1;have Z:((c.toNat:Nat):Int)=c:=a6q k9;cases E with
  |al i b h n2 a08 N=>
   have a09:b*d.size<=n.length:=by rw[l9];exact a5a _ N
   have n3:(q.toList.take (b*d.size)).length=b*d.size:=a9t;have n4:(Builtin.firstCells d.size b (.slice (some ⟨i,0,none⟩) b h)).run m l.drew= .ok (q.toList.take (b*d.size)).toArray l.drew:=by
    refine run_firstCells_some l.drew d.size b ⟨i,0,none⟩ b h _ n3 (λl1 v E=> ?_);have a10:l1<b*d.size:=by grind
    rw[hj,a5g];show l.cell? _= _;grind[cell_of_row,List.getElem?_take_of_lt]
   have L:=Av (m:=m) l C D o.type k d p B k2 k0 k3 k4 (some ⟨i,0,none⟩) b h _ y n4 c.toNat a9r n0 a9r X;rw[Z]at L;have P:=grownCap_ge l (b+c.toNat) h k;have j9:=grownCap_le_maxLen l (b+c.toNat) h k (by unfold maxLen;omega);have K:bs u (q.toList.take (b*d.size)).toArray (n.take (b*d.size)):=by rw[bs.dU]at l0|-;grind
   obtain⟨F,t,w⟩:=newRow _ b c.toNat (grownCap l (b+c.toNat) h k) (n.take (b*d.size)) K (λW g=>M W (a5b g)) P;exact .value (iT r x C D k1 (by rw[k7,k8];exact L)) w (.al _ _ _ _ y P) (Y _ _ F S.eo P j9 t)
 .rename_i n5 l2 c O Q;rw[O]at E;rw[Q]at V;obtain rfl:=V.dV;obtain⟨rfl,rfl,k9,X,n1,Y⟩:=z;have Z:((c.toNat:Nat):Int)=c:=a6q a9r;have n9:l5= .slice none 0 0:=by
   cases E with
   |dj a11 h l2 bQ A=>simp only[Own.lI]at A;subst A;rw[bQ rfl]
   |J a13 off len h n2 a14 n5 l2 y hlen N a15 M hH a16 A=>exact A.elim
  subst n9;have L:=Av (m:=m) l C D o.type k d p B k2 k0 k3 k4 none 0 0 [] y (by simp[Builtin.firstCells]) c.toNat a9r a9r a9r (by simpa using X);rw[Z]at L;simp only[a5g]at L;have P:=grownCap_ge l c.toNat 0 k;have j9:=grownCap_le_maxLen l c.toNat 0 k (by unfold maxLen;omega);obtain⟨F,t,w⟩:=newRow [] 0 c.toNat (grownCap l c.toNat 0 k) [] ⟨rfl,λl1 a18 a00=>by simp at a00⟩ (λW g=>by simp at g) a9r;simp only[a5g,a5d]at w t;exact .value (iT r x C D k1 (by rw[k7,k8];exact L)) w (.al _ _ _ _ y P) (Y _ _ F S.eo P j9 t)
 .exact z.elim
end
def kt (a:Program) (b:TypeId):Option Nat:=(a.info? b).map (·.size)
def placeOf (a:Program) (h:TypeId) (b:Nat):Option (Nat×Nat):=
 match a.underlying h with
 |some (.struct k)=>(k.toList.mapM (λc=>(a.info? c.type).map λo=>(c.offset,o.size))).bind λp=>p[b]?
 |some (.array _ r)=>(a.info? r).map λd=>(b*d.size,d.size)
 | _=>none
def w4 (a:Program) (c:TypeId):Bool:=
 match a.underlying c with
 |some (.struct d)=>(d.toList.mapM (λb=>(a.info? b.type).map λh=>(b.offset,h.size))).isSome
 |some (.array _ k)=>(a.info? k).isSome
 | _=>false
def rG (b:Program) (c:TypeId):Option (Array Value):=
 match b.info? c with
 |some d=>match d.zero with
  |some a=>if a.cells.toList.all (·.oneCell')then some a.cells else none
  |none=>none
 |none=>none
def Aw (b:Program) (c:TypeId) (a:Nat×Operand):Option (Nat×Nat×Operand):=
 match placeOf b c a.1 with
 |some (off,cr)=>if 0<cr/\aT a.2=true then some (off,cr,a.2)else none
 |none=>none
def rH (a:Program) (b:TypeId):List (Nat×Operand)->Option (List (Nat×Nat×Operand))
 | []=>some []
 |c::d=>match Aw a b c,rH a b d with
  |some h,some k=>some (h::k)
  | _,_=>none
def rI:Nat->List (Nat×Operand)->Option (List Operand)
 | _,[]=>some []
 |a,(c,b)::d=>if a=c/\aT b=true then(rI (a+1) d).map (b:: ·)else none
def Ax (a:Program) (b:TypeId) (c:Operand):Option cb:=
 match a.underlying b,kt a b with
 |some d,some h=>if aT c=true/\(d.isRow=true\/h=1)then some (.load d.isRow h c)else none
 | _,_=>none
structure Env where
 jE:List Nat
 Ay:List Nat
 wr:List Nat
 tB:List Nat
 ty:Bool
 lR:Bool
 pins:List Nat:= []
 Az:Bool:=false
 w5:Bool:=false
def Env.Ij (a:Env):Operand->Bool
 | .tmp b=>a.Ay.contains b
 | _=>false
def Env.fH (a:Env):Option Nat->Bool
 |some b=> !a.wr.contains b
 |none=>true
def Env.mut (a:Env):Option Nat->Bool
 |some b=>a.tB.contains b
 |none=>false
def Env.box (a:Env):Option Nat->Bool
 |some b=>a.jE.contains b
 |none=>false
def w6 (h:Program) (o:Env) (r:Option Nat) (x:TypeId) (a:Operand) (c d y:Option Operand):Option cb:=
 if aT a=true/\c.all aT=true/\d.all aT=true then
  match h.underlying x,y with
  |some (.slice k),none=>match kt h k with
   |some b=>some (.oT b a c d)
   |none=>none
  |some (.array p k),none=>match kt h k with
   |some b=>if 0<b then some (if o.Ij a=true then .jG b p a c d else .kk b p a c d (o.fH r))else none
   |none=>none
  | _,_=>none
 else none
def tC (a:Program) (b:Bool) (c:TypeId) (d h:Operand):Option cb:=
 match a.underlying c with
 |some .bool=>none
 |some (.slice _)=>match h with
  | .const (.slice none 0 0)=>some (.mB b d)
  | _=>none
 |some (.pointer _)=>some (.q5 b d h)
 |some (.int _)=>some (.bin (if b then .neq else .eql) d h)
 |some .string=>some (.bin (if b then .neq else .eql) d h)
 |some k=>match flatK a 20 c with
  |some bJ=>if a.cellsOf c=bJ.length/\(a.info? c).isSome=true/\k.isRow=true/\a.eqGuardType a.depth c=false then some (.eqv b (mK bJ) d h)else none
  |none=>none
 |none=>none
def w7 (d:Program) (x:Env) (y:Option Nat) (k:Call):Option cb:=
 match k.callee,k.args.toList,k.argTypes.toList with
 | .value (.func p),args,_=>if gl d p=true/\args.all aT=true then some (.fZ p args)else none
 | .builtin .len,[a],[h]=>match d.underlying h with
  |some (.slice _)=>if aT a=true then some (.len a)else none
  |some .string=>if aT a=true then some (.q4 a)else none
  | _=>none
 | .builtin .append,[a,b],[h,z]=>match d.underlying h with
  |some (.slice o)=>match d.info? o with
   |some c=>match c.zero with
    |some r=>if h=z/\r.cells.size=c.size/\0<c.size/\aT a=true/\aT b=true then(if x.mut y=true then(if r.cells.toList.all (·.oneCell')=true then some (.lM c.size c.bytes a b)else none)else some (.app c.size c.bytes a b))else none
    |none=>none
   |none=>none
  | _=>none
 | .builtin .max,[a,b],_=>if aT a=true/\aT b=true then some (.lL true .i64 a b)else none
 | .builtin .min,[a,b],_=>if aT a=true/\aT b=true then some (.lL false .i64 a b)else none
 | .builtin .copy,[a,b],[h,_]=>match d.underlying h with
  |some (.slice o)=>match kt d o with
   |some C=>if aT a=true/\aT b=true then some (.mA C a b)else none
   |none=>none
  | _=>none
 | _,_,_=>none
def w8 (b:Program) (y:Env) (x:Oper):Option cb:=
 match x.op with
 | .move a| .assign a=>if aT a=true then some (.fc a)else none
 | .pick z a k=>if aT z=true/\aT a=true/\aT k=true then some (.pick z a k)else none
 | .alloc T=>match rG b T with
  |some o=>some (.alloc T (o.toList.map cZ))
  |none=>none
 | .box T a=>if aT a=true then some (if y.box x.dst=true then .ki T a else .box T a)else none
 | .load d a=>Ax b d a
 | .store d a k=>match kt b d with
  |some r=>if 0<r/\aT a=true/\aT k=true then some (.store r a k)else none
  |none=>none
 | .nilCheck a=>if aT a=true then some (.q1 a)else none
 | .fieldAddr d a c=>match b.underlying d with
  |some (.struct D)=>match D[c]? with
   |some fd=>match kt b fd.type with
    |some r=>if r≠0/\aT a=true then some (.kZ fd.offset a)else none
    |none=>none
   |none=>none
  | _=>none
 | .indexAddr d a c=>if aT a=true/\aT c=true then
   match b.underlying d with
   |some (.array len h)=>match kt b h with
    |some p=>some (.q2 p len a c)
    |none=>none
   |some (.slice h)=>match kt b h with
    |some p=>some (.dM p a c)
    |none=>none
   | _=>none
  else none
 | .field _ _ _=>none
 | .index d a c=>if aT a=true/\aT c=true then
   match b.underlying d with
   |some (.array len h)=>match b.underlying h,kt b h with
    |some C,some p=>if C.isRow=true\/p=1 then some (.q3 C.isRow p len a c)else none
    | _,_=>none
   |some .string=>some (.lJ a c)
   | _=>none
  else none
 | .build d parts=>match rG b d,rH b d parts.toList with
  |some o,some res=>if w4 b d=true then some (.lK (o.toList.map cZ) res)else none
  | _,_=>none
 | .buildSlice d r parts=>match b.underlying d,rI 0 parts.toList with
  |some (.slice h),some xs=>match b.info? h with
   |some c=>match c.zero with
    |some o=>if o.cells.size=c.size/\o.cells.toList.all (·.oneCell')=true/\0<c.size/\r*c.size<=2^24/\xs.length=r then some (if y.mut x.dst=true then .km c.size xs else .kj c.size xs)else none
    |none=>none
   |none=>none
  | _,_=>none
 | .slice d a aV aW E=>w6 b y x.dst d a aV aW E
 | .binOp op d a k _=>if aT a=true/\aT k=true then
   match op with
   | .eql=>tC b false d a k
   | .neq=>tC b true d a k
   |op=>some (.bin op a k)
  else none
 | .unOp op _ a=>if aT a=true then some (.un op a)else none
 | .convert st F a=>match b.underlying st,b.underlying F with
  |some (.int _),some (.int p)=>if aT a=true then some (.iR p a)else none
  |some (.slice h),some .string=>match b.underlying h with
   |some (.int .u8)=>if aT a=true then some (.q6 a)else none
   | _=>none
  |some .string,some (.slice h)=>match b.underlying h with
   |some (.int .u8)=>if aT a=true then some (.q7 a)else none
   | _=>none
  | _,_=>none
 | .makeSlice d a k=>match b.underlying d with
  |some (.slice h)=>match b.info? h with
   |some c=>match c.zero with
    |some o=>if o.cells.size=c.size/\o.cells.toList.all (·.oneCell')=true/\0<c.size/\aT a=true/\aT k=true then some (.kl c.size c.bytes (o.cells.toList.map cZ) a k)else none
    |none=>none
   |none=>none
  | _=>none
 | .extract a c=>if aT a=true then some (.ext a c)else none
 | .call z=>w7 b y x.dst z
 | _=>none
variable{e3:cb}{I:Bool}{Z e9:Operand}{b0:Type}{b2:TypeId}
section
variable  {o:Oper}{a:Act}   
def w9 {b:TypeDesc} (c:b.isRow=true\/e=1):b.isRow=false->e=1:=λd=>c.resolve_left (by simp[d])
theorem wa (c:rG m b2=some j8): ∃b v,m.info? b2=some b/\b.zero=some v/\v.cells=j8/\ ∀d∈j8.toList,d.oneCell'=true:=by unfold rG at c;grind
theorem Ik (c:rG m b2=some j8) (d:w4 m b2=true) (b:List (Nat×Value)):m.built b2 b=Instr.fill (placeOf m b2) j8 b:=by obtain⟨h,v,k,p,rfl,_⟩:=wa c;unfold w4 at d;unfold Program.built placeOf;grind[Option.isSome_iff_exists]
theorem AA {x:TypeId}: ∀ {r:List (Nat×Operand)}{res:List (Nat×Nat×Operand)},rH m x r=some res->r.length=res.length/\
  ∀(d:Nat) (h:Nat×Operand) (b:Nat×Nat×Operand),r[d]? =some h->res[d]? =some b->placeOf m x h.1=some (b.1,b.2.1)/\h.2=b.2.2/\aT h.2=true/\0<b.2.1
 | [],res,c=>by
  simp only[rH,a4U]at c;simp_all
 |h::r,res,c=>by
  simp only[rH]at c;split at c
  case h_2=>cases c
  rename_i b D y z;obtain rfl:=a4I c;obtain⟨C,E⟩:=AA z;refine⟨by simp[C],λd F G k p=> ?_⟩
  match d,k,p with
  |0,k,p=>simp only[a6w,a4U]at k p;subst k;subst p;unfold Aw at y;grind
  |d+1,k,p=>grind
theorem AB: ∀ {d:Nat}{h:List (Nat×Operand)}{c:List Operand},rI d h=some c->h=(c.zipIdx d).map (λk=>(k.2,k.1))/\ ∀p∈c,aT p=true
 |d,[],c,b=>by
  simp only[rI,a4U]at b;simp_all
 |d,(x,p)::y,c,b=>by
  simp only[rI]at b;split at b
  case isFalse=>cases b
  rename_i z;obtain⟨C,r,rfl⟩:=a7A.1 b;obtain⟨D,E⟩:=AB r;simp_all
def qe {b:Array b0}{c:b0} (d:b.toList= [c]):b= #[c]:=a8a.1 d
def iU {b:Array b0}{c d:b0} (h:b.toList= [c,d]):b= #[c,d]:=a8a.1 h
theorem Il {P:Env}{S:Option Nat}{d h E:Option Operand} (z:o.op= .slice b2 Z d h E) (b:w6 m P S b2 Z d h E=some e3) (C:bM u a j) (D:Holds u f l) (k:G ⟨m,s⟩ e3 j f a7):bS m s o a l u f a7:=by
 unfold w6 at b;split at b
 case isFalse=>cases b
 rename_i c;split at b
 .rename_i p r;split at b
  case h_2=>cases b
  rename_i x y;obtain rfl:=a4I b;exact HG b2 Z d h z p r x y c.1 c.2.1 c.2.2 C D k
 .rename_i F p r;split at b
  case h_2=>cases b
  rename_i x y;split at b
  case isFalse=>cases b
  rename_i L;obtain rfl:=a4I b;split at k
  .exact HN b2 Z d h z F p r x y L c.1 c.2.1 c.2.2 C D k
  .exact Aj b2 Z d h z F p r x y L _ c.1 c.2.1 c.2.2 C D k
 .cases b
theorem AD {c:TypeId} (d:o.op= .binOp (if I then .neq else .eql) b2 Z e9 c) (h:aT Z=true) (y:aT e9=true) (b:tC m I b2 Z e9=some e3) (k:bM u a j) (p:Holds u f l) (r:G ⟨m,s⟩ e3 j f a7):bS m s o a l u f a7:=by
 unfold tC at b;split at b
 .cases b
 .rename_i z x;split at b
  .obtain rfl:=a4I b;exact HR I b2 Z c d z x h k p r
  .cases b
 .rename_i z x;obtain rfl:=a4I b;grind[HE]
 .obtain rfl:=a4I b;exact vW _ b2 Z e9 c d h y k p r
 .obtain rfl:=a4I b;exact vW _ b2 Z e9 c d h y k p r
 .rename_i C _ _ _ _ _ x;split at b
  case h_2=>cases b
  rename_i D E;split at b
  case isFalse=>cases b
  rename_i F;obtain rfl:=a4I b;grind[HD]
 .cases b
theorem Im {V:Env}{W:Option Nat}{P:Call} (D:o.op= .call P) (b:w7 m V W P=some e3) (E:bM u a j) (F:Holds u f l) (L:G ⟨m,s⟩ e3 j f a7):bS m s o a l u f a7:=by
 obtain⟨A,B,H⟩:=P;unfold w7 at b;split at b
 .rename_i I c;simp only at c;subst c;split at b
  case isFalse=>cases b
  rename_i h;obtain rfl:=a4I b;obtain⟨y,S⟩:=h;unfold gl at y;split at y
  case h_2=>cases y
  rename_i K M;simp only[a4M,bne_iff_ne,ne_eq]at y;grind[HF,List.all_eq_true]
 .rename_i k x c d p;simp only at c d p;subst c;obtain rfl:=qe d;obtain rfl:=qe p;split at b
  .rename_i z r;split at b
   case isFalse=>cases b
   rename_i h;obtain rfl:=a4I b;exact Hx x k D z r h E F L
  .rename_i r;split at b
   case isFalse=>cases b
   rename_i h;obtain rfl:=a4I b;exact Hy x k D r h E F L
  .cases b
 .rename_i k C x T c d p;simp only at c d p;subst c;obtain rfl:=iU d;obtain rfl:=iU p;split at b
  case h_2=>cases b
  rename_i z r;split at b
  case h_2=>cases b
  rename_i e g;split at b
  case h_2=>cases b
  rename_i i n;split at b
  case isFalse=>cases b
  rename_i h;obtain⟨rfl,y,S,q,t⟩:=h;split at b
  .split at b
   case isFalse=>cases b
   rename_i N;obtain rfl:=a4I b;exact Ap k C x x _ r (.inl ⟨z,rfl⟩) D z r e g i n y (by grind) S q t E F L
  .obtain rfl:=a4I b;grind[HK]
 .rename_i k C c d;simp only at c d;subst c;obtain rfl:=iU d;split at b
  case isFalse=>cases b
  rename_i h;obtain rfl:=a4I b;grind[Aq]
 .rename_i k C c d;simp only at c d;subst c;obtain rfl:=iU d;split at b
  case isFalse=>cases b
  rename_i h;obtain rfl:=a4I b;grind[Aq]
 .rename_i k C x T c d p;simp only at c d p;subst c;obtain rfl:=iU d;obtain rfl:=iU p;split at b
  case h_2=>cases b
  rename_i z r;split at b
  case h_2=>cases b
  rename_i v w;split at b
  case isFalse=>cases b
  rename_i h;obtain rfl:=a4I b;exact HQ x T k C D z r v w h.1 h.2 E F L
 .cases b
theorem Io {K:Env} (b:w8 m K o=some e3) (x:bM u a j) (p:Holds u f l) (r:G ⟨m,s⟩ e3 j f a7):bS m s o a l u f a7:=by
 unfold w8 at b;split at b
 case h_1 d c=>split at b;(rename_i y;obtain rfl:=a4I b;exact Af d (.inl c) y x p r);(cases b)
 case h_2 d c=>split at b;(rename_i y;obtain rfl:=a4I b;exact Af d (.inr c) y x p r);(cases b)
 case h_3 M d S c=>split at b;(rename_i y;obtain rfl:=a4I b;grind[Ho]);(cases b)
 case h_4 T c=>
  split at b
  .rename_i i L;obtain rfl:=a4I b;obtain⟨z,v,g,B,rfl,n⟩:=wa L;exact Hm T c z g v B n p r
  .cases b
 case h_5 T d c=>
  split at b
  .rename_i y;obtain rfl:=a4I b;grind[HM,Hn]
  .cases b
 case h_6 k d c=>
  unfold Ax at b;split at b
  .rename_i q P C V;split at b
   .rename_i h;obtain rfl:=a4I b;exact Hj k d c q C P V (w9 h.2) h.1 x p r
   .cases b
  .cases b
 case h_7 k d S c=>
  split at b
  .rename_i P V;split at b
   .rename_i h;obtain rfl:=a4I b;exact Hl k d S c P V h.1 h.2.1 h.2.2 x p r
   .cases b
  .cases b
 case h_8 d c=>split at b;(rename_i y;obtain rfl:=a4I b;exact Hp d c y x p r);(cases b)
 case h_9 k d z c=>
  split at b
  .rename_i N C;split at b
   .rename_i O Q;split at b
    .rename_i P V;split at b
     .rename_i h;obtain rfl:=a4I b;exact Hq k d z c N C O Q P V h.1 h.2 x p r
     .cases b
    .cases b
   .cases b
  .cases b
 case h_10 k d z c=>
  split at b
  case isFalse=>cases b
  rename_i h;split at b
  .rename_i len D C;split at b
   .rename_i E W;obtain rfl:=a4I b;exact Hr k d z c len D C E W h.1 h.2 x p r
   .cases b
  .rename_i D C;split at b
   .rename_i E W;obtain rfl:=a4I b;exact Hs k d z c D C E W h.1 h.2 x p r
   .cases b
  .cases b
 case h_11 k d z c=>cases b
 case h_12 k d z c=>
  split at b
  case isFalse=>cases b
  rename_i h;split at b
  .rename_i len D C;split at b
   .rename_i q E F W;split at b
    .rename_i X;obtain rfl:=a4I b;exact Hu k d z c len D C q F E W (w9 X) h.1 h.2 x p r
    .cases b
   .cases b
  .rename_i C;obtain rfl:=a4I b;exact Hv k d z c C h.1 h.2 x p r
  .cases b
 case h_13 k H c=>
  split at b
  .rename_i i res L Y;split at b
   .rename_i Z;obtain rfl:=a4I b;obtain⟨z,v,g,B,rfl,n⟩:=wa L;obtain⟨j9,k0⟩:=AA Y;exact HI k H c (placeOf m k) _ res (Ik L Z) n j9 k0 x p r
   .cases b
  .cases b
 case h_14 k P H c=>
  split at b
  .rename_i D k4 C k1;split at b
   .rename_i z g;split at b
    .rename_i i L;split at b
     .rename_i h;obtain rfl:=a4I b;obtain⟨k5,k6⟩:=AB k1;grind[HJ,List.all_eq_true,An]
     .cases b
    .cases b
   .cases b
  .cases b
 grind[Il]
 case h_16 I k d S k2 c=>
  split at b
  case isFalse=>cases b
  rename_i h;split at b;grind[AD];grind[AD]
  .obtain rfl:=a4I b;exact vW _ k d S k2 c h.1 h.2 x p r
 case h_17 I k d c=>split at b;(rename_i y;obtain rfl:=a4I b;exact HB I k d c y x p r);(cases b)
 case h_18 t w d c=>
  split at b
  .rename_i k3 E e F;split at b
   .rename_i y;obtain rfl:=a4I b;exact HC t w d c E k3 e F y x p r
   .cases b
  .rename_i D e F;split at b
   .rename_i A;split at b
    .rename_i y;obtain rfl:=a4I b;exact HO t w d c D e A F y x p r
    .cases b
   .cases b
  .rename_i D e F;split at b
   .rename_i A;split at b
    .rename_i y;obtain rfl:=a4I b;exact HS t w d c D e F A y x p r
    .cases b
   .cases b
  .cases b
 case h_19 k d S c=>
  split at b
  case h_2=>cases b
  rename_i D C;split at b
  case h_2=>cases b
  rename_i z g;split at b
  case h_2=>cases b
  rename_i i L;split at b
  case isFalse=>cases b
  rename_i h;obtain rfl:=a4I b;grind[HP,List.all_eq_true]
 case h_20 d z c=>split at b;(rename_i y;obtain rfl:=a4I b;exact Hw d z c y x p r);(cases b)
 case h_21 M c=>exact Im c b x p r
 .cases b
end
def AE (a:Program) (b:TypeId):Bool:=
 match a.underlying b with
 |some (.slice _)=>true
 |some .string=>true
 | _=>false
def wb (b:Program) (p:Env) (r:Option Nat) (c d:Operand) (h k:TypeId):Option cb:=
 match b.underlying h with
 |some (.slice x)=>match b.info? x with
  |some a=>match a.zero with
   |some o=>if AE b k=true/\o.cells.size=a.size/\o.cells.toList.all (·.oneCell')=true/\0<a.size/\aT c=true/\aT d=true then
     (if h≠k/\p.mut r=true then some (.lM a.size a.bytes c d)else none)else none
   |none=>none
  |none=>none
 | _=>none
def wc (b:Program) (c:Env) (d:Option Nat) (a:Call):Option cb:=
 match a.callee,a.args.toList,a.argTypes.toList with
 | .value (.tmp h),args,_=>if args.all aT=true then some (.iS (.tmp h) args)else none
 | .builtin .append,[k,o],[p,r]=>wb b c d k o p r
 | _,_,_=>none
def AF:TypeDesc->Bool
 | .interface _=>true
 | _=>false
def Ip {a:TypeDesc} (c:AF a=false): ∀b,a≠ .interface b:=λb hm=>by subst hm;cases c
def rJ (a:Program) (b:TypeId) (c:List c6):Bool:=
 decide (a.cellsOf b=c.length)&&(a.info? b).isSome&&(match a.underlying b with|some (.array _ _)|some (.struct _)=>true| _=>false)
theorem AG {a:List c6} (c:flatK m 20 b2=some a) (b:rJ m b2 a=true):mM m b2 (mK a):=by simp only[rJ,a4M,decide_eq_true_eq]at b;obtain⟨⟨d,h⟩,k⟩:=b;refine⟨⟨20,a9r,by rw[tA];exact c⟩,by rw[tA];exact d,h,?_⟩;grind
def we (a:Program) (k:Op):Option cb:=
 match k with
 | .makeMap _ none=>some .ko
 | .lookup mt b c ok=>match a.underlying mt with
  |some (.map d o)=>match flatK a 20 d,a.info? o with
   |some bJ,some p=>match p.zero with
    |some h=>if rJ a d bJ=true/\rz h=true/\aT b=true/\aT c=true then some (.lN ok (mK bJ) (ofConst h) b c)else none
    |none=>none
   | _,_=>none
  | _=>none
 | .mapUpdate mt b c v| .insert mt b c v=>match a.underlying mt with
  |some (.map d _)=>match flatK a 20 d with
   |some bJ=>if rJ a d bJ=true/\aT b=true/\aT c=true/\aT v=true then some (.lO (mK bJ) b c v)else none
   |none=>none
  | _=>none
 | _=>none
def wg (c:Program) (h:Env) (d:Oper):Option cb:=
 match d.op with
 | .makeFunc (.func k) first cap=>if first.toList.all aT=true/\cap.toList.all aT=true then some (.bH k first.toList cap.toList)else none
 | .makeInterface b a=>match c.underlying b with
  |some o=>if AF o=false/\aT a=true then some (.q8 b a)else none
  |none=>none
 | .panic a=>if aT a=true then some (.mC a)else none
 | .range b a=>match c.underlying b with
  |some .string=>if aT a=true then some (.kn a)else none
  | _=>none
 | .next a true=>if aT a=true then some (.mD a)else none
 | .call p=>wc c h d.dst p
 | _=>none
def AH (a:Program) (c:FuncId):Bool:=
  match a.funcs[c]? with
  |some fn=>fn.origin== "slices.overlaps" &&fn.body.isNone&& !(fn.name== "runtime.NumGoroutine")&&(Extern.allNextRows.lookup fn.name).isNone&&(Extern.allGenericRows.lookup fn.name).isNone&&(Extern.allTypedRows.lookup fn.name).isNone&&(Extern.allRows.lookup fn.name).isNone&&
    (match fn.params.toList with
     | [b,d]=>b==d&&(match a.underlying b with|some (.slice h)=>(a.info? h).isSome| _=>false)
     | _=>false)
  |none=>false
def wh (c:Program) (r:Env) (p:Call):Option cb:=
 match p.callee,p.args.toList,p.argTypes.toList with
 | .builtin .cap,[a],[h]=>match c.underlying h with
  |some (.slice _)=>if aT a=true then some (.mE a)else none
  | _=>none
 | .builtin .clear,[a],[h]=>match c.underlying h with
  |some (.slice o)=>match c.info? o with
   |some b=>match b.zero with
    |some k=>if k.cells.size=b.size/\k.cells.toList.all (·.oneCell')=true/\0<b.size/\aT a=true then some (.mF b.size (k.cells.toList.map cZ) a)else none
    |none=>none
   |none=>none
  | _=>none
 | .builtin .copy,[a,d],[h,_]=>if r.w5=true then(match c.underlying h with
  |some (.slice o)=>match kt c o with
   |some x=>if aT a=true/\aT d=true then some (.mG x a d)else none
   |none=>none
  | _=>none)else none
 | .builtin .append,[a,d],[h,y]=>match c.underlying y with
  |some (.int _)=>match c.underlying h with
   |some (.slice o)=>match c.info? o with
    |some b=>match b.zero with
     |some k=>if k.cells.size=b.size/\k.cells.toList.all (·.oneCell')=true/\0<b.size/\aT a=true/\aT d=true then some (.mH b.size b.bytes (k.cells.toList.map cZ) a d)else none
     |none=>none
    |none=>none
   | _=>none
  | _=>none
 | .value (.func z),[a,d],_=>if AH c z=true/\aT a=true/\aT d=true then some (.mI a d)else none
 | _,_,_=>none
def wi (a:Program) (c:Env) (h:Oper):Option cb:=
 match h.op with
 | .slice k d aV aW b=>if c.w5=true then(match a.underlying k with
  |some (.slice o)=>match kt a o with
   |some p=>if aT d=true/\aV.all aT=true/\aW.all aT=true/\b.all aT=true/\(b=none\/aW.isSome=true)then some (.lP p d aV aW b)else none
   |none=>none
  | _=>none)else none
 | .call r=>wh a c r
 | _=>none
def wj (b:Program) (d:Env) (c:Oper):Option cb:=
 match wi b d c with
 |some a=>some a
 |none=>match we b c.op with
 |some a=>some a
 |none=>match wg b d c with
 |some a=>some a
 |none=>w8 b d c
def Iq:Extern.allNextRows.lookup "slices.overlaps" =none:=a9w
def Ir:Extern.allGenericRows.lookup "slices.overlaps" =none:=a9w
def Is:Extern.allTypedRows.lookup "slices.overlaps" =some Extern.SlicesOverlaps.overlaps:=a9w
section
variable  {o:Oper}{a:Act}   
theorem It {h:Env}{k:Option Nat}{d:TypeId} (y:o.op= .call {callee:= .builtin .append,args:= #[Z,e9],argTypes:= #[d,b2]}) (b:wb m h k Z e9 d b2=some e3) (z:bM u a j) (C:Holds u f l) (D:G ⟨m,s⟩ e3 j f a7):bS m s o a l u f a7:=by
 unfold wb at b;split at b
 case h_2=>cases b
 rename_i E F;split at b
 case h_2=>cases b
 rename_i L P;split at b
 case h_2=>cases b
 rename_i S T;split at b
 case isFalse=>cases b
 rename_i p;obtain⟨r,V,W,e,g,i⟩:=p;obtain⟨c,n,q⟩: ∃c,m.underlying b2=some c/\((∃x,c= .slice x)\/c= .string):=by unfold AE at r;grind
 split at b
 case isFalse=>cases b
 obtain rfl:=a4I b;grind[Ap,List.all_eq_true]
def Iu {z:Env}{C:Option Nat}{d:Call} (h:o.op= .call d) (b:wc m z C d=some e3) (k:bM u a j) (p:Holds u f l) (r:G ⟨m,s⟩ e3 j f a7):bS m s o a l u f a7:=by
 obtain⟨P,D,E⟩:=d;unfold wc at b;split at b
 .rename_i F c;simp only at c;subst c;split at b
  case isFalse=>cases b
  rename_i L;obtain rfl:=a4I b;exact HU (.tmp F) D E h rfl (by simpa only[a4Y] using L) k p r
 .rename_i S T V W c x y;simp only at c x y;subst c;obtain rfl:=iU x;obtain rfl:=iU y;exact It h b k p r
 .cases b
theorem Iv {z:Env} (b:wg m z o=some e3) (k:bM u a j) (p:Holds u f l) (r:G ⟨m,s⟩ e3 j f a7):bS m s o a l u f a7:=by
 unfold wg at b;split at b
 .rename_i D first E c
  split at b
  case isFalse=>cases b
  rename_i d;obtain rfl:=a4I b;grind[HT,List.all_eq_true]
 .rename_i x h c;split at b
  case h_2=>cases b
  rename_i C y;split at b
  case isFalse=>cases b
  rename_i d;obtain rfl:=a4I b;exact HV x h c C y (Ip d.1) d.2 k p r
 .rename_i h c;split at b
  case isFalse=>cases b
  rename_i d;obtain rfl:=a4I b;exact HW h c d k p r
 .rename_i x h c;split at b
  case h_2=>cases b
  rename_i y;split at b
  case isFalse=>cases b
  rename_i d;obtain rfl:=a4I b;exact HX x h c y d k p r
 .rename_i h c;split at b
  case isFalse=>cases b
  rename_i d;obtain rfl:=a4I b;exact HY h c d k p r
 .rename_i F c;exact Iu c b k p r
 .cases b
def Iw (b:we m o.op=some e3) (D:bM u a j) (x:Holds u f l) (y:G ⟨m,s⟩ e3 j f a7):bS m s o a l u f a7:=by
 have kh: ∀mt d h v,(o.op= .mapUpdate mt d h v\/o.op= .insert mt d h v)->(match m.underlying mt with
  |some (.map k _)=>match flatK m 20 k with
   |some p=>if rJ m k p=true/\aT d=true/\aT h=true/\aT v=true then some (.lO (mK p) d h v)else none
   |none=>none
  | _=>none)=some e3->bS m s o a l u f a7:=by
  intro mt d h v E b;split at b
  case h_2=>cases b
  rename_i k z hm;split at b
  case h_2=>cases b
  rename_i p C;split at b
  case isFalse=>cases b
  rename_i c;obtain rfl:=a4I b;exact I8 mt k z d h v E hm (AG C c.1) c.2.1 c.2.2.1 c.2.2.2 D x y
 generalize r:o.op=S at b;unfold we at b;split at b
 .obtain rfl:=a4I b;exact I6 _ r x y
 .split at b
  case h_2=>cases b
  rename_i k z hm;split at b
  case h_2=>cases b
  rename_i p T C F;split at b
  case h_2=>cases b
  rename_i L P;split at b
  case isFalse=>cases b
  rename_i c;obtain rfl:=a4I b;exact I7 _ k z _ _ _ r hm (AG C c.1) F P (aZ.ofConst u L c.2.1) c.2.2.1 c.2.2.2 D x y
 .exact kh _ _ _ _ (.inl r) b
 .exact kh _ _ _ _ (.inr r) b
 .cases b
theorem Ix {g:Env}{F:Call} (L:o.op= .call F) (b:wh m g F=some e3) (P:bM u a j) (S:Holds u f l) (T:G ⟨m,s⟩ e3 j f a7):bS m s o a l u f a7:=by
 obtain⟨k4,k5,i⟩:=F;unfold wh at b;split at b
 .rename_i r h c d k;simp only at c d k;subst c;obtain rfl:=qe d;obtain rfl:=qe k;split at b
  case h_2=>cases b
  rename_i x y;split at b
  case isFalse=>cases b
  rename_i p;obtain rfl:=a4I b;exact I9 h r L x y p P S T
 .rename_i r h c d k;simp only at c d k;subst c;obtain rfl:=qe d;obtain rfl:=qe k;split at b
  case h_2=>cases b
  rename_i x y;split at b
  case h_2=>cases b
  rename_i n q;split at b
  case h_2=>cases b
  rename_i t v;split at b
  case isFalse=>cases b
  rename_i p;obtain rfl:=a4I b;grind[Ic,List.all_eq_true]
 .rename_i r D h W c d k;simp only at c d k;subst c;obtain rfl:=iU d;obtain rfl:=iU k;split at b
  case isFalse=>cases b
  split at b
  case h_2=>cases b
  rename_i x y;split at b
  case h_2=>cases b
  rename_i w A;split at b
  case isFalse=>cases b
  rename_i p;obtain rfl:=a4I b;exact Ig h W r D L x y w A p.1 p.2 P S T
 .rename_i r D h k6 c d k;simp only at c d k;subst c;obtain rfl:=iU d;obtain rfl:=iU k;split at b
  case h_2=>cases b
  rename_i k7 k8;split at b
  case h_2=>cases b
  rename_i x y;split at b
  case h_2=>cases b
  rename_i n q;split at b
  case h_2=>cases b
  rename_i t v;split at b
  case isFalse=>cases b
  rename_i p;obtain rfl:=a4I b;grind[Ii,List.all_eq_true]
 .rename_i B r D c d;simp only at c d;subst c;obtain rfl:=iU d;split at b
  case isFalse=>cases b
  rename_i p;obtain rfl:=a4I b;obtain⟨z,H,I⟩:=p;unfold AH at z;split at z
  case h_2=>cases z
  rename_i C K;simp only[a4M,beq_iff_eq,Option.isNone_iff_eq_none,a6n]at z;obtain⟨⟨⟨⟨⟨⟨⟨e,M⟩,N⟩,O⟩,Q⟩,X⟩,Y⟩,E⟩:=z;split at E
  case h_2=>cases E
  rename_i h W Z;simp only[a4M,beq_iff_eq]at E;obtain⟨rfl,V⟩:=E;split at V
  case h_2=>cases V
  rename_i x y;obtain⟨j9,k0⟩:=a5C.1 V;have k1:C.params= #[h,h]:=iU Z;have k2:Extern.findNext C=none:=by simp[Extern.findNext,e,O,Iq]
  have k3:Extern.find C=some (Extern.SlicesOverlaps.overlaps #[h,h] C.resultTypes):=by simp[Extern.find,e,Q,X,Y,Ir,Is,k1]
  exact Ih B C r D i L K N (by rw[M];rfl) k2 h _ k3 x y j9.size (by rw[k0];rfl) H I P S T
 .cases b
def Iy {r:Env} (b:wi m r o=some e3) (h:bM u a j) (k:Holds u f l) (p:G ⟨m,s⟩ e3 j f a7):bS m s o a l u f a7:=by
 unfold wi at b;split at b
 .rename_i x y z C D d;split at b
  case isFalse=>cases b
  split at b
  case h_2=>cases b
  rename_i E F;split at b
  case h_2=>cases b
  rename_i L P;split at b
  case isFalse=>cases b
  rename_i c;obtain rfl:=a4I b;exact Ib x y z C D d c.2.2.2.2 E F L P c.1 c.2.1 c.2.2.1 c.2.2.2.1 h k p
 .rename_i S d;exact Ix d b h k p
 .cases b
def Iz {r:Env} (b:wj m r o=some e3) (d:bM u a j) (h:Holds u f l) (k:G ⟨m,s⟩ e3 j f a7):bS m s o a l u f a7:=by
 unfold wj at b;split at b
 .rename_i p c;obtain rfl:=a4I b;exact Iy c d h k
 split at b
 .rename_i p c;obtain rfl:=a4I b;exact Iw c d h k
 .split at b
  .rename_i p c;obtain rfl:=a4I b;exact Iv c d h k
  .exact Io b d h k
end
structure c7 where
 dst:Option Nat
 op:cb
 guard:Option (Nat×Bool)
def E (h:Ctx) (c:c7) (d:Fr) (a:U) (b:R->U->Prop):Prop:=
 match c.guard with
 |none=>G h c.op d a b
 |some (k,want)=>match d k with
  | .v (.bool o)=>if o=want then G h c.op d a b else b (.aL []) a
  | .aL []=>b (.aL []) a
  | _=>False
def T (c:Ctx) (a:c7) (d:Fr->U->Prop) (b:Fr) (h:U):Prop:=E c a b h λk o=>d (dn b a.dst k) o
def iV (b:Ctx):List c7->(Fr->U->Prop)->Fr->U->Prop
 | [],a=>a
 |c::d,a=>T b c (iV b d a)
variable{K:Ctx}
theorem mN {b:c7} (c: ∀d h,s d h->a7 d h) (a:E K b j f s):E K b j f a7:=by
 unfold E at*;cases k:b.guard with
 |none=>rw[k]at a;exact Ab c a
 |some fI=>
  obtain⟨p,r⟩:=fI;rw[k]at a;simp only at a|-;split at a
  .split at a
   .next o=>rw[if_pos o];exact Ab c a
   simp_all
  .exact c _ _ a
  .exact a.elim
variable{j4:Fr -> U -> Prop}
def rK {b:c7}{c:Fr->U->Prop} (h: ∀j d,j4 j d->c j d) (a:T K b j4 j f):T K b c j f:=mN (λ_ _ a=>h _ _ a) a
def tmpsOf (a:List Operand):List Nat:=a.filterMap λ| .tmp b=>some b| _=>none
def cb.operands:cb->List Operand
 | .fc a| .q8 _ a| .mC a| .kn a| .mD a| .box _ a| .ki _ a| .q6 a| .q7 a| .mB _ a| .load _ _ a| .q1 a| .kZ _ a| .len a| .q4 a| .un _ a| .iR _ a| .ext a _| .mE a| .mF _ _ a=> [a]
 | .pick d h k=> [d,h,k]
 | .alloc _ _| .ko=> []
 | .lN _ _ _ a c=> [a,c]
 | .lO _ a c v=> [a,c,v]
 | .bH _ first cap=>first++cap
 | .iS a args=>a::args
 | .store _ a b| .q2 _ _ a b| .dM _ a b| .q3 _ _ _ a b| .lJ a b| .bin _ a b| .eqv _ _ a b| .q5 _ a b| .app _ _ a b| .lM _ _ a b| .lL _ _ a b| .kl _ _ _ a b| .mA _ a b| .mG _ a b| .mH _ _ _ a b| .mI a b=> [a,b]
 | .lK _ o=>o.map λp=>p.2.2
 | .kj _ xs=>xs
 | .km _ xs=>xs
 | .oT _ a aV aW| .kk _ _ a aV aW _| .jG _ _ a aV aW=>a::(aV.toList++aW.toList)
 | .lP _ a aV aW r=>a::(aV.toList++(aW.toList++r.toList))
 | .fZ _ args=>args
def c7.reads (a:c7):List Nat:=tmpsOf a.op.operands++(match a.guard with|some (b,_)=> [b]|none=> [])
def IA {a:Fr}{b:List Operand} (d: ∀c∈tmpsOf b,j c=a c) (h:Z∈b):aj j Z=aj a Z:=by
 cases Z<;>first
  |rfl
  |exact d _ (a8r.2 ⟨_,h,rfl⟩)
def AI {b c:Fr}{k:List R->Prop}: ∀(d:List (Nat×Nat×Operand)) (h:List R),(∀a∈d,aj b a.2.2=aj c a.2.2)->(kp b h d k↔kp c h d k)
 | [],_,_=>a6R
 |(off,cr,o)::r,h,p=>by
  have x:aj b o=aj c o:=p _ (a6v);simp only[kp,x];rw[AI r _ (λa y=>p a (a6l _ y))]
theorem oX {c:Fr}{a:Option Operand} (h: ∀b∈a.toList,aj j b=aj c b) (d:Nat):dg j a d=dg c a d:=by
 cases a with
 |none=>rfl
 |some b=>simp only[dg,h b a9s]
theorem AJ {d:Fr} (z: ∀r∈tmpsOf e3.operands,j r=d r) (x:U) (y:R->U->Prop):G K e3 j x y↔G K e3 d x y:=by
 have a: ∀h∈e3.operands,aj j h=aj d h:=λh C=>IA z C;cases e3<;>simp only[cb.operands,a5k,a6p,or_false,forall_eq_or_imp,forall_eq,a5c]at a<;>simp only[G]
 case lK D E=>exact AI E D (λF L=>a _ (a5f.2 ⟨F,L,rfl⟩))
 case kj k P=>rw[a6r a]
 case km k P=>rw[a6r a]
 case fZ S T=>rw[a6r a]
 case iS h T=>rw[a.1,a6r a.2]
 case bH S first e=>grind[List.map_congr_left]
 case oT k h o p=>simp only[a.1,oX (j:=j) (c:=d) (a:=o) (λb c=>a.2 b (.inl c)),oX (j:=j) (c:=d) (a:=p) (λb c=>a.2 b (.inr c))]
 case lP k h o p V=>simp only[rD,a.1,oX (j:=j) (c:=d) (a:=o) (λb c=>a.2 b (.inl c)),oX (j:=j) (c:=d) (a:=p) (λb c=>a.2 b (.inr (.inl c))),oX (j:=j) (c:=d) (a:=V) (λb c=>a.2 b (.inr (.inr c)))]
 case kk k W h o p f=>grind[oX]
 case jG k W h o p=>grind[oX]
 all_goals simp_all
def IB {b:c7}{c:Fr} (o: ∀a∈b.reads,j a=c a) (d:U) (h:R->U->Prop):E K b j d h↔E K b c d h:=by
 have p: ∀a∈tmpsOf b.op.operands,j a=c a:=λa r=>o a (a7b _ r);unfold E;cases x:b.guard with
 |none=>exact AJ p d h
 |some fI=>
  obtain⟨k,z⟩:=fI;have y:j k=c k:=o k (a6X _ (by simp[x]));simp only[y];split
  .split
   .exact AJ p d h
   .exact a6R
  .exact a6R
  .exact a6R
def IC (c:Fr) (a:Nat) (b:R):(dn c (some a) b) a=b:=by simp[dn,kh]
theorem tD (c:Fr) (a:Option Nat) (d:R) (b:Nat) (h:a≠some b):(dn c a d) b=c b:=by
 cases a with
 |none=>rfl
 |some a=>simp[dn,kh,a4S (λk=>h (by rw[k]):a≠b)]
theorem qf (d:Fr) (a b:Option Nat) (h k:R) (o: ∀c,a=some c->b≠some c):dn (dn d a h) b k=dn (dn d b k) a h:=by
 cases a with
 |none=>rfl
 |some a=>
  cases b with
  |none=>rfl
  |some b=>have r:a≠b:=λp=>o a rfl (by rw[p]);funext c;simp only[dn,kh];grind
theorem lb {b:c7} (c:Option Nat) (p: ∀a,c=some a->a∉b.reads) (d:Fr) (o:R) (h:U) (k:R->U->Prop):E K b (dn d c o) h k↔E K b d h k:=
 IB (λa r=>tD d c o a (λx=>p a x r)) h k
theorem U.eg (a:U) (d:e≠i) (b c:bq):(a.set e b).set i c=(a.set i c).set e b:=by grind[U.set]
theorem U.ID (a:U) (c:e≠i) (b:bq):(a.set e b).del i=(a.del i).set e b:=by grind[U.set,U.del]
theorem U.tE (a:U) (b:Nat) (c:bq) (d:a b=none):a.join (U.emp.set b c)=a.set b c:=by grind[U.join,U.set,U.emp]
theorem qg (c:U) (b:Nat) (d:bq):c.pW (U.emp.set b d)↔c b=none:=by
 constructor
 .intro a;rcases a b with a|a
  .exact a
  .simp[U.set]at a
 .intro a h;grind[U.set,U.emp]
def rL (b:Nat) (c:bq) (d:R->U->Prop):R->U->Prop:=λh k=> ∃a,d h a/\a b=none/\k=a.set b c
theorem rM (a:U) (c:bq) (d:a e=none) (b:a.read i=some g):(a.set e c).read i=some g:=by
 have h:i≠e:=by rintro rfl;simp[U.read,d]at b
 simpa[U.read,U.an _ _ h] using b
theorem AK (a:U) (d:bq) (h:a e=none) {b:Nat×List R} (c:bN a i n=some b):bN (a.set e d) i n=some b:=by
 unfold bN at c|-;split
 .exact c
 grind[rM];grind[rM];simp_all
def IE (a:U) (c:bq) (h:a e=none) {d:Nat×List R} (b:mJ a i n=some d):mJ (a.set e c) i n=some d:=by
 unfold mJ at b|-;split
 .exact b
 .rename_i k;split at b
  .exact absurd rfl (k _)
  .exact AK a c h b
theorem IF (b:U) (c:bq) (h:b e=none) (a:kq i g n b=some f):kq i g n (b.set e c)=some (f.set e c)/\f e=none:=by
 unfold kq at a|-;split at a
 .rename_i k o p r x;split at a
  case h_2=>cases a
  rename_i y d;have z:k≠e:=by rintro rfl;rw[h]at d;cases d
  split at a
  case isFalse=>cases a
  rename_i C;obtain rfl:=a4I a;simp_all [U.an,if_pos,U.eg,a4S]
 simp_all
 .cases a
theorem IG (c:U) (d:bq) (h:c e=none) {o:R} (a:la i n b3 c=some (o,f)):la i n b3 (c.set e d)=some (o,f.set e d)/\f e=none:=by
 unfold la at a|-;split at a
 case h_2=>cases a
 rename_i E F p;rw[AK c d h p];simp only;split at a
 .rename_i k G r x y;split at a
  case h_2=>cases a
  rename_i z b;have C:k≠e:=by rintro rfl;rw[h]at b;cases b
  split at a
  case isFalse=>cases a
  rename_i D;simp only[a4U,a5W]at a;obtain⟨rfl,rfl⟩:=a;simp_all [U.an,if_pos,U.eg,a4S]
 .rename_i k r x y;split at a
  case h_2=>cases a
  rename_i z b;have C:k≠e:=by rintro rfl;rw[h]at b;cases b
  split at a
  case isFalse=>cases a
  rename_i D;simp only[a4U,a5W]at a;obtain⟨rfl,rfl⟩:=a;simp_all [U.an,if_pos,U.eg,a4S]
 simp_all
 .cases a
theorem IH (a:U) (c:bq) (h:a e=none) {d:R} (k:ks n b3 a=some d):ks n b3 (a.set e c)=some d:=by
 have p: ∀b,kr a b=true->kr (a.set e c) b=true:=λb o=>by
  have r:b≠e:=by rintro rfl;simp[kr,h]at o
  grind[kr,U.an]
 unfold ks at k|-;grind
variable{Y:bq}
theorem AL (c:f e=none) (a:G K e3 j f s):G K e3 j (f.set e Y) (rL e Y s):=by
 have E: ∀x,s x f->rL e Y s x (f.set e Y):=λx i=>⟨f,i,c,rfl⟩;have l6: ∀(d:Nat) (F:bq) (x:R),(f.set e Y) d=none->(f d=none->s x (f.set d F))->rL e Y s x ((f.set e Y).set d F):=λd F x S C=>by
  have b:e≠d:=by rintro rfl;simp[U.set]at S
  rw[U.an _ _ (a4S b)]at S;exact⟨_,C S,by rw[U.an _ _ b];exact c,U.eg f b Y F⟩
 cases e3<;>simp only[G]at a|-
 case fZ l7 Q=>
  have:=hL.frame (t:=U.emp.set e Y) a ((qg f e Y).2 c);rw[U.tE f e Y c]at this;refine this.mono (λx X ⟨p,l,V,m⟩=>⟨p,l,(qg p e Y).1 V,?_⟩) (λ_ _ a=>a);rw[m,U.tE p e Y ((qg p e Y).1 V)]
 case iS o Q=>
  split at a
  case h_2=>exact a.elim
  refine⟨a.1,?_⟩;have:=hL.frame (t:=U.emp.set e Y) a.2 ((qg f e Y).2 c);rw[U.tE f e Y c]at this;refine this.mono (λx X ⟨p,l,V,m⟩=>⟨p,l,(qg p e Y).1 V,?_⟩) (λ_ _ a=>a);rw[m,U.tE p e Y ((qg p e Y).1 V)]
 case mE o=>grind
 case lP=>grind
 case mF r n o=>
  split at a
  case h_2=>exact a.elim
  rename_i p q;obtain⟨t,u⟩:=IF f Y c q;rw[t];exact⟨p,a,u,rfl⟩
 case mG r o L=>
  split at a
  case h_2=>exact a.elim
  rename_i x p q;obtain⟨t,u⟩:=IG f Y c q;rw[t];exact⟨p,a,u,rfl⟩
 case mI o L=>
  grind[IH]
 case mH r bytes n o L=>
  grind[rM]
 case ko=>grind
 case lN l8 Z n o r=>
  split at a
  case h_2=>exact a.elim
  next d D z j9=>
  split at a
  case h_2=>exact a.elim
  next k0 k1 y=>
  have b:d≠e:=by rintro rfl;rw[c]at y;cases y
  grind[U.an,dy]
 case lO Z o r v=>
  split at a
  case h_2=>exact a.elim
  next d D z j9=>
  split at a
  case h_2=>exact a.elim
  next k0 k1 y=>
  have b:d≠e:=by rintro rfl;rw[c]at y;cases y
  rw[U.an _ _ b,y];exact⟨a.1,a.2.1,_,a.2.2,by rw[U.an _ _ (a4S b)];exact c,U.eg f (a4S b) Y _⟩
 case kn o=>grind
 case mC o=>
  split at a
  case h_2=>exact a.elim
  obtain⟨k2,S,C⟩:=a;refine⟨k2,λd F k3=> ?_,C⟩;have:=S d F k3;have b:d≠e:=by grind
  rw[U.an _ _ b];exact this
 case mD o=>
  split at a
  case h_2=>exact a.elim
  next d W z=>
  refine⟨a.1,?_⟩;have C:=a.2;split at C
  case h_2=>exact C.elim
  next l9 n0 y=>
  have b:d≠e:=by rintro rfl;rw[c]at y;cases y
  rw[U.an _ _ b,y];simp only;split
  .next k4=>rw[if_pos k4]at C;exact⟨_,C,by rw[U.an _ _ (a4S b)];exact c,U.eg f (a4S b) Y _⟩
  simp_all
 case lK k5 n1=>exact vR (λD k=>E _ k) _ _ a
 case alloc T k5=>grind
 case box T o=>simp_all
 case ki T o=>simp_all
 case kl r bytes n o L=>grind
 case lL=>grind
 case mB n2 o=>
  grind
 case km r M=>
  grind
 case lM r bytes o L=>
  split at a
  case h_2=>exact a.elim
  rename_i n3 w k6;rw[IE f Y c k6];simp only;split at a;grind
  .next d P A B z=>
   split at a
   case h_3=>exact a.elim
   all_goals
   rename_i D k;have b:d≠e:=by rintro rfl;rw[c]at k;cases k
   rw[U.an _ _ b,k];refine⟨a.1,a.2.1,a.2.2.1,a.2.2.2.1,?_⟩;have h:=a.2.2.2.2;split
   .next H=>rw[if_pos H]at h;exact⟨_,h,by rw[U.an _ _ (a4S b)];exact c,U.eg f (a4S b) Y _⟩
   simp_all
  .next d W P A B z=>
   split at a
   case h_2=>exact a.elim
   rename_i D k;have b:d≠e:=by rintro rfl;rw[c]at k;cases k
   rw[U.an _ _ b,k];refine⟨a.1,a.2.1,a.2.2.1,a.2.2.2.1,?_⟩;have h:=a.2.2.2.2;split
   .next H=>rw[if_pos H]at h;exact⟨_,h,by rw[U.an _ _ (a4S b)];exact c,U.eg f (a4S b) Y _⟩
   simp_all
  .exact a.elim
 case jG r P o k7 k8=>
  split at a
  .next d W z=>
   split at a
   .refine⟨a.1,a.2.1,a.2.2.1,?_⟩;have h:=a.2.2.2;split at h
    .next D k=>
     have b:d≠e:=by rintro rfl;rw[c]at k;cases k
     grind[U.an]
    .exact h.elim
   .exact a.elim
  .exact a.elim
 case mA r o L=>
  split at a
  .next d W P A B w k9 z l0=>
   refine⟨a.1,a.2.1,?_⟩;have h:=a.2.2;split at h
   .next D k=>
    have b:d≠e:=by rintro rfl;rw[c]at k;cases k
    rw[U.an _ _ b,k];exact⟨h.1,_,h.2,by rw[U.an _ _ (a4S b)];exact c,U.eg f (a4S b) Y _⟩
   .exact h.elim
  .next d P A B w k9 z l0=>
   refine⟨a.1,a.2.1,?_⟩;have h:=a.2.2;split at h
   .next D k=>
    have b:d≠e:=by rintro rfl;rw[c]at k;cases k
    rw[U.an _ _ b,k];exact⟨h.1,_,h.2,by rw[U.an _ _ (a4S b)];exact c,U.eg f (a4S b) Y _⟩
   .exact h.elim
  .exact a.elim
 case kj r M=>
  grind
 case load n4 P o=>
  grind[rM]
 case store P o L=>
  split at a
  .next d W z=>
   split at a
   case h_2=>exact a.elim
   next k=>
    have b:d≠e:=by rintro rfl;rw[c]at k;cases k
    rw[U.an _ _ b,k];exact⟨a.1,a.2.1,_,a.2.2,by rw[U.an _ _ (a4S b)];exact c,U.eg f (a4S b) Y _⟩
  .exact a.elim
 case kk r P o k7 k8 n5=>
  split at a
  .next d W z=>
   split at a
   .refine⟨a.1,a.2.1,a.2.2.1,?_⟩;have h:=a.2.2.2;split at h
    .next D k=>
     have b:d≠e:=by rintro rfl;simp[U.read,c]at k
     rw[rM f Y c k];refine⟨h.1,?_⟩;have N:=h.2;split
     .next i=>rw[if_pos i]at N;exact⟨_,N,by rw[U.an _ _ (a4S b)];exact c,U.eg f (a4S b) Y _⟩
     simp_all
    .exact h.elim
   .exact a.elim
  .exact a.elim
 case app r bytes o L=>
  split at a<;>try exact a.elim
  rename_i M l1 w F _ _;refine⟨a.1,a.2.1,a.2.2.1,a.2.2.2.1,?_⟩;have h:=a.2.2.2.2;cases l1<;>simp only at h|-;grind;grind
  case buf O n9 _=>
   have b:O≠e:=by rintro rfl;rw[c]at h;cases h.1
   refine⟨by rw[U.an _ _ b];exact h.1,λg l2 l3=> ?_⟩;have I:g≠e:=by rintro rfl;grind[U.ah]
   have l4:g=O\/f g=none:=l3.imp id (λa=>by rwa[U.an _ _ I]at a);refine⟨_,h.2 g l2 l4,by rw[U.an _ _ (a4S I),U.eJ _ (a4S b)];exact c,?_⟩;rw[U.ID f (a4S b) Y,U.eg _ (a4S I) Y]
 case pick=>grind
 case dM r o l5=>
  grind
 case lJ o l5=>
  grind
 all_goals
  (repeat' split at a)<;>first
   |exact a.elim
   |exact E _ a
   |exact⟨a.1,E _ a.2⟩
   |exact⟨a.1,a.2.1,E _ a.2.2⟩
   |exact⟨a.1,a.2.1,a.2.2.1,E _ a.2.2.2⟩
   |exact⟨a.1,a.2.1,a.2.2.1,a.2.2.2.1,E _ a.2.2.2.2⟩
   |exact⟨a.1,a.2.1,a.2.2.1,a.2.2.2.1,a.2.2.2.2.1,E _ a.2.2.2.2.2⟩
theorem wk {b:c7} (c:f e=none) (a:E K b j f s):E K b j (f.set e Y) (rL e Y s):=by
 have k: ∀d,s d f->rL e Y s d (f.set e Y):=λd o=>⟨f,o,c,rfl⟩;unfold E at*;cases h:b.guard with
 |none=>rw[h]at a;exact AL c a
 |some fI=>
  obtain⟨r,x⟩:=fI;rw[h]at a;simp only at a|-;split at a
  .split at a
   .next p=>rw[if_pos p];exact AL c a
   simp_all
  .exact k _ a
  .exact a.elim
def mO:cb->Bool
 | .mF _ _ _| .mG _ _ _| .mH _ _ _ _ _| .mI _ _| .alloc _ _| .ko| .lN _ _ _ _ _| .lO _ _ _ _| .kn _| .mD _| .mC _| .iS _ _| .box _ _| .ki _ _| .load _ _ _| .store _ _ _| .kj _ _| .kk _ _ _ _ _ _| .jG _ _ _ _ _| .app _ _ _ _| .fZ _ _| .kl _ _ _ _ _| .mA _ _ _| .mB _ _| .km _ _| .lM _ _ _ _=>false
 | _=>true
def nQ:cb->Bool
 | .load _ _ _| .jG _ _ _ _ _=>true
 | _=>false
def lf:cb->Bool
 | .alloc _ _| .ko| .kn _| .box _ _| .ki _ _| .kj _ _| .km _ _| .kl _ _ _ _ _=>true
 | _=>false
def AM {k:Fr}: ∀(o:List (Nat×Nat×Operand)) (b:List R) {r:List R->Prop},kp k b o r-> ∃c,∀a:List R->Prop,kp k b o a↔a c
 | [],b,_,_=>⟨b,λa=>a6R⟩
 |(off,cr,y)::c,b,_,d=>by
  obtain⟨x,p⟩:=AM c _ d.2.2;exact⟨x,λa=>⟨λh=>(p a).1 h.2.2,λh=>⟨d.1,d.2.1,(p a).2 h⟩⟩⟩
def AN (b:mO e3=true) (a:G K e3 j f s): ∃k,∀(c:U) (d:R->U->Prop),G K e3 j c d↔d k c:=by
 cases e3<;>simp only[mO,a5S]at b<;>simp only[G]at a|-
 case pick=>split at a;(exact⟨_,λc d=>a6R⟩);(exact a.elim)
 case mE=>split at a;(exact⟨_,λc d=>a6R⟩);(exact a.elim)
 case lP=>split at a;(exact⟨_,λc d=>a6R⟩);(exact a.elim)
 case lK x y=>
  obtain⟨k,o⟩:=AM _ _ a;exact⟨.agg k,λc d=>o _⟩
 case lL=>split at a;(exact⟨_,λc d=>⟨λb=>b.2,λb=>⟨a.1,b⟩⟩⟩);(exact a.elim)
 case dM z p r=>
  split at a
  .have h:=a.2;split at h
   .exact⟨_,λc d=>⟨λb=>b.2.2,λb=>⟨a.1,h.1,b⟩⟩⟩
   .exact h.elim
  .exact⟨_,λc d=>⟨λb=>b.2.2.2,λb=>⟨a.1,a.2.1,a.2.2.1,b⟩⟩⟩
  .exact⟨_,λc d=>⟨λb=>b.2.2.2,λb=>⟨a.1,a.2.1,a.2.2.1,b⟩⟩⟩
  .exact a.elim
 case lJ p r=>
  split at a
  .have h:=a.2;split at h
   .exact⟨_,λc d=>⟨λb=>b.2,λb=>⟨a.1,b⟩⟩⟩
   .exact h.elim
  .exact a.elim
 all_goals
  (repeat' split at a)<;>first
   |exact a.elim
   |exact⟨_,λc d=>a6R⟩
   |exact⟨_,λc d=>⟨λb=>b.2,λb=>⟨a.1,b⟩⟩⟩
   |exact⟨_,λc d=>⟨λb=>b.2.2,λb=>⟨a.1,a.2.1,b⟩⟩⟩
   |exact⟨_,λc d=>⟨λb=>b.2.2.2,λb=>⟨a.1,a.2.1,a.2.2.1,b⟩⟩⟩
   |exact⟨_,λc d=>⟨λb=>b.2.2.2.2,λb=>⟨a.1,a.2.1,a.2.2.1,a.2.2.2.1,b⟩⟩⟩
   |exact⟨_,λc d=>⟨λb=>b.2.2.2.2.2,λb=>⟨a.1,a.2.1,a.2.2.1,a.2.2.2.1,a.2.2.2.2.1,b⟩⟩⟩
def AO (b:nQ e3=true) (a:G K e3 j f s): ∃h,∀(c:R->U->Prop),G K e3 j f c↔c h f:=by
 cases e3<;>simp only[nQ,a5S]at b<;>simp only[G]at a|-
 case load=>
  split at a
  .split at a
   .exact⟨_,λc=>⟨λb=>b.2,λb=>⟨a.1,b⟩⟩⟩
   .exact a.elim
  .exact⟨_,λc=>⟨λb=>b.2,λb=>⟨a.1,b⟩⟩⟩
  .exact a.elim
 case jG=>
  split at a
  .split at a
   .have d:=a.2.2.2;split at d
    .exact⟨_,λc=>⟨λb=>b.2.2.2.2,λb=>⟨a.1,a.2.1,a.2.2.1,d.1,b⟩⟩⟩
    .exact d.elim
   .exact a.elim
  .exact a.elim
def AP (a:lf e3=true) (b:G K e3 j U.emp λ_ _=>True):
  (∃y,∀(c:U) (d:R->U->Prop),G K e3 j c d↔d y c)\/ ∃(z:Nat->R) (C:Nat->bq),∀(c:U) (d:R->U->Prop),G K e3 j c d↔ ∀r,c r=none->d (z r) (c.set r (C r)):=by
 cases e3<;>simp only[lf,a5S]at a<;>simp only[G]at b|-
 case alloc T D=>exact .inr ⟨_,_,λc d=>a6R⟩
 case ko=>exact .inr ⟨_,λ_=> _,λc d=>a6R⟩
 case kn x=>split at b;(exact .inr ⟨_,λ_=> _,λc d=>a6R⟩);(exact b.elim)
 case box T x=>exact .inr ⟨_,λ_=> _,λc d=>⟨λa=>a.2,λa=>⟨b.1,a⟩⟩⟩
 case ki T x=>exact .inr ⟨_,λ_=> _,λc d=>⟨λa=>a.2,λa=>⟨b.1,a⟩⟩⟩
 case kl k bytes E x F=>split at b;(exact .inr ⟨λo=> .al o _ _ k,λ_=> _,λc d=>⟨λa=>a.2.2.2.2,λa=>⟨b.1,b.2.1,b.2.2.1,b.2.2.2.1,a⟩⟩⟩);(exact b.elim)
 case kj k h=>
  by_cases p:h.length=0
  .simp only[if_pos p]at b|-;exact .inl ⟨_,λc d=>⟨λa=>a.2,λa=>⟨b.1,a⟩⟩⟩
  .simp only[if_neg p]at b|-;exact .inr ⟨λo=> .J (h.map (aj j)) (.buf o h.length),λ_=> .buf k h.length h.length,λc d=>⟨λa=>a.2,λa=>⟨b.1,a⟩⟩⟩
 case km k h=>
  by_cases p:h.length=0
  .simp only[if_pos p]at b|-;exact .inl ⟨_,λc d=>⟨λa=>a.2,λa=>⟨b.1,a⟩⟩⟩
  .simp only[if_neg p]at b|-;exact .inr ⟨λo=> .al o h.length h.length k,λ_=> .cells (flat (h.map (aj j))),λc d=>⟨λa=>a.2,λa=>⟨b.1,a⟩⟩⟩
theorem AQ (a:lf e3=true) (b:G K e3 j f s):G K e3 j U.emp λ_ _=>True:=by
 cases e3<;>simp only[lf,a5S]at a<;>simp only[G]at b|-;simp
 case ko=>exact λ_ _=>trivial
 case kn c=>grind
 simp_all;simp_all
 case kl=>grind
 simp_all;simp_all
def Def (a:Ctx) (b:c7) (c:Fr):Prop:=E a b c U.emp λ_ _=>True
def wm {b:c7} (k:mO b.op=true) (a:E K b j f s): ∃p,∀(c:U) (d:R->U->Prop),E K b j c d↔d p c:=by
 unfold E at*;cases o:b.guard with
 |none=>rw[o]at a;exact AN k a
 |some fI=>
  obtain⟨r,x⟩:=fI;rw[o]at a;simp only at a|-;split at a
  .split at a
   .next h=>simp only[if_pos h];exact AN k a
   .next h=>simp only[if_neg h];exact⟨_,λc d=>a6R⟩
  .exact⟨_,λc d=>a6R⟩
  .exact a.elim
theorem tF {b:c7} (h:nQ b.op=true) (a:E K b j f s): ∃o,∀(c:R->U->Prop),E K b j f c↔c o f:=by
 unfold E at*;cases k:b.guard with
 |none=>rw[k]at a;exact AO h a
 |some fI=>
  obtain⟨p,r⟩:=fI;rw[k]at a;simp only at a|-;split at a
  .split at a
   .next d=>simp only[if_pos d];exact AO h a
   .next d=>simp only[if_neg d];exact⟨_,λc=>a6R⟩
  .exact⟨_,λc=>a6R⟩
  .exact a.elim
def II {b:c7} (d:lf b.op=true) (a:E K b j f s):Def K b j:=by
 unfold Def;unfold E at*;cases h:b.guard with
 |none=>rw[h]at a;exact AQ d a
 |some fI=>
  obtain⟨k,o⟩:=fI;rw[h]at a;simp only at a|-;split at a
  .split at a
   .next c=>rw[if_pos c];exact AQ d a
   .next c=>rw[if_neg c];trivial
  .trivial
  .exact a.elim
def AR {d:c7} (o:lf d.op=true) (a:Def K d j):
  (∃r,∀(b:U) (c:R->U->Prop),E K d j b c↔c r b)\/ ∃(x:Nat->R) (y:Nat->bq),∀(b:U) (c:R->U->Prop),E K d j b c↔ ∀h,b h=none->c (x h) (b.set h (y h)):=by
 unfold Def at a;unfold E at*;cases p:d.guard with
 |none=>rw[p]at a;exact AP o a
 |some fI=>
  obtain⟨z,C⟩:=fI;rw[p]at a;simp only at a|-;split at a
  .split at a
   .next k=>simp only[if_pos k];exact AP o a
   .next k=>simp only[if_neg k];exact .inl ⟨_,λb c=>a6R⟩
  .exact .inl ⟨_,λb c=>a6R⟩
  .exact a.elim
structure dk where
 i:Nat
 pre:List Nat
 iv:List Nat
section
variable (P:Ctx) (xs:Nat->c7)
def hl (a:Nat) (b:Fr) (c:U):Prop:=
 match(xs a).dst with
 |some d=>E P (xs a) b c λh _=>h=b d
 |none=>True
def can (c:Fr->U->Prop):List dk->Fr->U->Prop
 | []=>c
 |a::o=>λd p=>(∀b∈a.pre,Def P (xs b) d)/\T P (xs a.i) (λh k=>(∀b∈a.iv,hl P xs b h k)/\can c o h k) d p
def clear (a:Option Nat) (b:List Nat):Bool:=match a with|some c=> !b.contains c|none=>true
def lS (a b:Option Nat):Bool:=match a,b with|some c,some d=>c !=d| _,_=>true
def indep (a b:dk) (d:List Nat):Bool:=
  clear (xs a.i).dst (xs b.i).reads&&clear (xs b.i).dst (xs a.i).reads&&lS (xs a.i).dst (xs b.i).dst&&
  b.iv.all (λc=>c==a.i||d.contains c||(clear (xs a.i).dst (xs c).reads&&lS (xs a.i).dst (xs c).dst))&&
  ((a.pre.isEmpty&&a.iv.isEmpty&&(mO (xs a.i).op||(nQ (xs a.i).op&&((mO (xs b.i).op||nQ (xs b.i).op||lf (xs b.i).op)||(b.iv.contains a.i&&clear (xs a.i).dst (xs a.i).reads&&(xs a.i).dst.isSome)))))||
   (b.iv.isEmpty&&(mO (xs b.i).op||lf (xs b.i).op)&&a.pre.contains b.i&&a.pre.all (λc=>clear (xs b.i).dst (xs c).reads)&&
     a.iv.all (λc=>clear (xs b.i).dst (xs c).reads&&lS (xs b.i).dst (xs c).dst)))
variable {P xs}
theorem rN {b:Option Nat}{c:List Nat} (d:clear b c=true): ∀a,b=some a->a∉c:=by intro a h;subst h;simpa[clear] using d
theorem AS {a b:Option Nat} (d:lS a b=true): ∀c,a=some c->b≠some c:=by grind[lS]
theorem AT {a:Option Nat} (h:clear a (xs e).reads=true) (k:lS a (xs e).dst=true) (b:Fr) (d:R) (c:U):hl P xs e (dn b a d) c↔hl P xs e b c:=by
 unfold hl;cases o:(xs e).dst with
 |none=>exact a6R
 |some p=>grind[lb,rN,tD,AS]
theorem IJ (b:f i=none) (a:hl P xs e j f):hl P xs e j (f.set i Y):=by
 unfold hl at*;cases c:(xs e).dst with
 |none=>trivial
 |some h=>rw[c]at a;exact mN (λk o ⟨p,d,_,_⟩=>d) (wk b a)
def Pass (a:Nat->c7) (b:dk):List dk->Prop
 | []=>True
 |d::c=>indep a d b (c.map (·.i))=true/\Pass a b c
theorem AU {D:Fr->U->Prop} (c:dk) (e:List dk): ∀(x:List dk),Pass xs c x->(x.map (·.i)).Nodup-> ∀(d:Fr) (o:U),can P xs D (x++c::e) d o->
  T P (xs c.i) (λS k=>(∀a∈c.iv,a∉x.map (·.i)->hl P xs a S k)/\can P xs D (x++e) S k) d o
 | [],_,_,d,o,s=>rK (λS k F=>⟨λa z _=>F.1 a z,F.2⟩) s.2
 |p::x,hk,n3,d,o,s=>by
  have A:=hk.1;have Z:(x.map (·.i)).Nodup:=by simp_all
  have j9:p.i∉x.map (·.i):=by simp_all
  have ih:=AU (D:=D) c e x hk.2 Z;obtain⟨k0,B⟩:=s;simp only[indep,a4M]at A;obtain⟨⟨⟨⟨k1,k2⟩,a3⟩,a4⟩,H⟩:=A;have l:=rN k1;have c2:=rN k2;have aI:=AS a3;have n4: ∀a∈c.iv,a≠p.i->a∉x.map (·.i)->clear (xs p.i).dst (xs a).reads=true/\lS (xs p.i).dst (xs a).dst=true:=λa z n5 n9=>by
   grind
  have W:T P (xs p.i) (λS k=>(∀a∈p.iv,hl P xs a S k)/\T P (xs c.i) (λI K=>(∀a∈c.iv,a∉x.map (·.i)->hl P xs a I K)/\can P xs D (x++e) I K) S k) d o:=
   rK (λS k F=>⟨F.1,ih S k F.2⟩) B
  clear B ih;simp only[a6u,a4M]at H;rcases H with ⟨⟨k3,k4⟩,k5⟩|⟨⟨⟨⟨k6,k7⟩,k8⟩,a00⟩,a01⟩
  .
   have k9:p.pre= []:=a8C.1 k3;have a02:p.iv= []:=a8C.1 k4;have m: ∀(r:R) (b:R) (k:U),(∀G,E P (xs p.i) d k G↔G r k)->
     ((∀a∈c.iv,a∉x.map (·.i)->hl P xs a (dn (dn d (xs p.i).dst r) (xs c.i).dst b) k)/\can P xs D (x++e) (dn (dn d (xs p.i).dst r) (xs c.i).dst b) k)->
     (∀a∈c.iv,a∉(p::x).map (·.i)->hl P xs a (dn d (xs c.i).dst b) k)/\can P xs D (p::x++e) (dn d (xs c.i).dst b) k:=λr b k V i=>by
    rw[qf d _ _ r b aI]at i;refine⟨λa z l0=> ?_,?_⟩
    .simp only[a5j,a5k,not_or]at l0;grind[AT]
    .refine⟨by rw[k9];simp,?_⟩;simp_all [T,lb]
   rcases k5 with l1|⟨l2,l3⟩
   .obtain⟨r,V⟩:=wm l1 W;have t:=(V o _).1 W;have h:=t.2;unfold T at h|-;rw[lb _ l]at h;exact mN (λb k i=>m r b k (λG=>V k G) i) h
   .obtain⟨r,V⟩:=tF l2 W;have t:=(V _).1 W;have h:=t.2;unfold T at h|-;rw[lb _ l]at h;rcases l3 with u|⟨⟨l4,l5⟩,l6⟩
    .rcases u with u|M
     case inr=>
      rcases AR M (II M h)with ⟨b,C⟩|⟨f,g,C⟩
      .rw[C]at h|-;exact m r b o V h
      .rw[C]at h|-;intro y n;refine m r (f y) _ ?_ (h y n);have l7:E P (xs p.i) d o λj _=>j=r:=(V _).2 rfl;have a03:E P (xs p.i) d (o.set y (g y)) λj _=>j=r:=mN (λ_ _ ⟨_,F,_,_⟩=>F) (wk (Y:=g y) n l7);grind[tF]
     have L: ∃b,∀G:R->U->Prop,E P (xs c.i) d o G↔G b o:=by
      rcases u with L|L
      .obtain⟨b,C⟩:=wm L h;exact⟨b,λG=>C o G⟩
      .exact tF L h
     obtain⟨b,C⟩:=L;rw[C]at h|-;exact m r b o V h
    .refine mN (λb k i=> ?_) h;have l8:=i.1 p.i (by simpa using l4) j9;obtain⟨a04,N⟩:=a5C.1 l6;have a05:E P (xs p.i) d k λj _=>j=r:=by have:=l8;rw[qf d _ _ r b aI]at this;unfold hl at this;rw[N]at this;simp only at this;rw[IC,<-N,lb _ (rN l5),lb _ c2]at this;exact this
     grind[tF]
  .
   have O:c.iv= []:=a8C.1 k6;have Q:Def P (xs c.i) d:=k0 c.i (by simpa using k8);have l9:(∃r,∀(o:U) (D:R->U->Prop),E P (xs c.i) d o D↔D r o)\/ ∃(f:Nat->R) (g:Nat->bq),∀(o:U) (D:R->U->Prop),E P (xs c.i) d o D↔ ∀y,o y=none->D (f y) (o.set y (g y)):=by
    rcases k7 with L|L
    .exact .inl (wm L Q)
    .exact AR L Q
   have X: ∀b,∀a∈p.pre,Def P (xs a) (dn d (xs c.i).dst b):=λb a z=>by
    grind[Def,lb,rN,List.all_eq_true]
   have a06: ∀a∈p.iv,∀(w:Fr) (b:R) (q:U),hl P xs a w q->hl P xs a (dn w (xs c.i).dst b) q:=λa z w b q F=>by
    simp_all [a4Y,a4M,AT]
   unfold T at W;rcases l9 with ⟨b,C⟩|⟨f,g,C⟩
   .unfold T;rw[C];refine⟨λa z=>(by rw[O]at z;cases z),X b,?_⟩;unfold T;rw[lb _ c2];refine mN (λv n0 F=> ?_) W;have h:=F.2;rw[lb _ l,C,qf d _ _ v b aI]at h;refine⟨λa z=> ?_,h.2⟩;grind[qf]
   .unfold T;rw[C];intro y n;refine⟨λa z=>(by rw[O]at z;cases z),X (f y),?_⟩;unfold T;rw[lb _ c2];refine mN (λv q n1=> ?_) (wk (Y:=g y) n W);obtain⟨n0,F,n2,rfl⟩:=n1;have h:=F.2;rw[lb _ l,C]at h;have Y:=h y n2;rw[qf d _ _ v (f y) aI]at Y;refine⟨λa z=> ?_,Y.2⟩;grind[qf,IJ]
def tG (a:Nat->List Nat):Nat->List Nat->Nat->List Nat
 |0,acc,_=>acc
 |d+1,acc,b=>tG a d (acc++ [(a b).foldl (λh c=>h|||2^c|||acc.getD c 0) 0]) (b+1)
def dep (a:List Nat) (b c:Nat):Bool:=(a.getD c 0).testBit b
def ku (c:Nat->c7) (d:List Nat) (a:dk):List Nat->List dk->Bool
 | _,[]=>true
 |h,b::k=>(dep d a.i b.i||indep c a b h)&&ku c d a (h++ [b.i]) k
def mP (a:Nat->c7) (b:List Nat):List dk->Bool
 | []=>true
 |d::c=>ku a b d [] c&&mP a b c
def iW (a:Array Oper) (b:Nat):List Nat:=
 match a[b]? with
 |some c=>(c.after.toList.filter λd=>Region.binds .any d).map (·.on)
 |none=> []
def tH (k:Ctx) (o:Nat->c7) (b:Array Oper) (h:Fr->U->Prop):Nat->Array Bool->Fr->U->Prop
 |0,a,c,d=>Region.ready .any b a= []/\h c d
 |fuel+1,a,c,d=>(Region.ready .any b a= []->h c d)/\ ∀p∈Region.ready .any b a,T k (o p) (tH k o b h fuel (a.setIfInBounds p true)) c d
def AV (b:Array Oper) (c:Array Bool):Prop:= ∀a,a<b.size->c.getD a true=true-> ∀d∈iW b a,c.getD d false=true
theorem wo {a:Array Oper}:i∈iW a e↔ ∃b,a[e]? =some b/\ ∃c∈b.after,Region.binds .any c=true/\c.on=i:=by unfold iW;grind
theorem tI {a:Array Oper}{b:Array Bool}:e∈Region.ready .any a b↔b.getD e true=false/\e<a.size/\ ∀d∈iW a e,b.getD d false=true:=by
 rw[mem_ready];constructor
 .rintro⟨c,z,x,h⟩;refine⟨c,(a6c.1 x).1,λd y=> ?_⟩;obtain⟨C,D,k,o,p,rfl⟩:=wo.1 y;simp_all
 .rintro⟨c,r,h⟩;exact⟨c,a[e],a6G r,λk o p=>h _ (wo.2 ⟨_,a6G r,k,o,p,rfl⟩)⟩
theorem IK (c:List Nat) (h:List Nat) (d:Nat): ∀a,(c.foldl (λa b=>a|||2^b|||h.getD b 0) a).testBit d=true->a.testBit d=true\/ ∃b∈c,d=b\/(h.getD b 0).testBit d=true:=by
 induction c with
 |nil=>intro a k;exact .inl k
 |cons o c ih=>grind
def Bits (h:Nat->List Nat) (d:List Nat):Prop:= ∀a b,dep d b a=true-> ∃c∈h a,b=c\/(dep d b c=true/\c<a)
theorem AW {h:Nat->List Nat} (F: ∀b a,a∈h b->a<b): ∀(x:Nat) (c:List Nat) (d:Nat),c.length=d->Bits h c->Bits h (tG h x c d)
 |0,c,d,_,y=>y
 |x+1,c,d,z,y=>by
  refine AW F x _ (d+1) (by simp[z]) λb G k=> ?_;have C: ∀b,b<d->(c++ [(h d).foldl (λo a=>o|||2^a|||c.getD a 0) 0]).getD b 0=c.getD b 0:=λb p=>by
   grind
  unfold dep at k|-;rcases a8z b d with p|p|p
  .rw[C b p]at k;obtain⟨a,D,r⟩:=y b G k;refine⟨a,D,r.imp id λE=>⟨?_,E.2⟩⟩;rw[C a a9r];exact E.1
  .subst p;have L:(c++ [(h b).foldl (λo a=>o|||2^a|||c.getD a 0) 0]).getD b 0=(h b).foldl (λo a=>o|||2^a|||c.getD a 0) 0:=by rw[<-z];simp[List.getD]
   rw[L]at k;rcases IK _ _ _ _ k with r|⟨a,D,r⟩
   .simp at r
   grind
  grind
theorem IL {h:Array Oper}{d:Array Bool}{x:List Nat} (y:Bits (iW h) x) (z:AV h d) (L:d.size=h.size): ∀(k a b:Nat),b<=k->dep x a b=true->(∀c∈iW h b,d.getD c false=true)->d.getD a false=true:=by
 intro k
 induction k with
 |zero=>
  intro a b C r o;obtain⟨c,p,rfl|⟨_,D⟩⟩:=y b a r
  .exact o _ p
  .omega
 |succ k ih=>
  intro a b C r o;obtain⟨c,p,rfl|⟨E,D⟩⟩:=y b a r
  .exact o _ p
  .have F:=o c p;have G:c<d.size:=by grind
   refine ih a c a9r E (z c a9r ?_);simpa[G] using F
def AX {k:List Nat}{c d:dk}{o:List dk}: ∀ {h:List dk}{b:List Nat},ku xs k c b (h++d::o)=true->dep k c.i d.i=true\/indep xs c d (b++h.map (·.i))=true
 | [],b,a=>by
  simp only[a5d,ku,a4M,a6u]at a;simpa using a.1
 |p::h,b,a=>by
  simp only[a5K,ku,a4M]at a;have:=AX a.2;simpa using this
theorem AY {d:List Nat}{b:dk}{k:List dk}: ∀ {a:List dk},mP xs d (a++b::k)=true->(∀h∈a,dep d h.i b.i=false)->Pass xs b a
 | [],_,_=>trivial
 |h::a,c,o=>by
  simp only[a5K,mP,a4M]at c;refine⟨?_,AY c.2 (λp r=>o p (a6l _ r))⟩;have:=AX c.1;simp_all
theorem IM {a c:dk}{d h:List Nat} (k:indep xs a c d=true) (o: ∀b,b∈d->b∈h\/(clear (xs a.i).dst (xs b).reads=true/\lS (xs a.i).dst (xs b).dst=true)):indep xs a c h=true:=by simp only[indep,a4M]at k|-;grind
theorem AZ {o:List Nat}{c:dk}: ∀ {d:List dk}{h k:List Nat},ku xs o c h d=true->(∀a,a∈h->a∈k\/(clear (xs c.i).dst (xs a).reads=true/\lS (xs c.i).dst (xs a).dst=true))->ku xs o c k d=true
 | [],_,_,_,_=>rfl
 |p::d,h,k,b,hm=>by
  simp only[ku,a4M,a6u]at b|-;refine⟨b.1.imp id (λb=>IM b hm),AZ b.2 λa r=> ?_⟩;grind
theorem B0 {k:List Nat}{b d:dk}{o:List dk} (p:clear (xs b.i).dst (xs d.i).reads=true/\lS (xs b.i).dst (xs d.i).dst=true): ∀ {h:List dk}{c:List Nat},ku xs k b c (h++d::o)=true->ku xs k b c (h++o)=true
 | [],c,a=>by
  simp only[a5d,ku,a4M]at a|-;refine AZ a.2 λr x=> ?_;grind
 |r::h,c,a=>by
  simp only[a5K,ku,a4M]at a|-;exact⟨a.1,B0 p a.2⟩
def B1 {d:List Nat}{h:dk}{k:List dk}: ∀ {b:List dk},mP xs d (b++h::k)=true->Pass xs h b->mP xs d (b++k)=true
 | [],a,_=>by simp only[a5d,mP,a4M]at a|-;exact a.2
 |p::b,a,o=>by
  simp only[a5K,mP,a4M]at a|-;have c:=o.1;simp only[indep,a4M]at c;exact⟨B0 ⟨c.1.1.1.1,c.1.1.2⟩ a.1,B1 a.2 o.2⟩
theorem IN {k:Array Oper}{V:List Nat} (q:Bits (iW k) V) (s: ∀a c,c∈iW k a->c<a): ∀(z:Nat) (b:Array Bool) (d:List dk),b.size=k.size->d.length<=z->
  (∀a,a∈d.map (·.i)↔(a<k.size/\b.getD a true=false))->(d.map (·.i)).Nodup->mP xs V d=true->AV k b-> ∀C D,can P xs j4 d C D->tH P xs k j4 z b C D:=by
 have t: ∀(b:Array Bool) (d:List dk),b.size=k.size->(∀a,a∈d.map (·.i)↔(a<k.size/\b.getD a true=false))->Region.ready .any k b= []->d= []:=λb d E r W=>by
  cases d with
  |nil=>rfl
  |cons h X=>
   exfalso;have u: ∀G a,a<=G->a<k.size->b.getD a true=false-> ∃c,c∈Region.ready .any k b:=by
    intro G
    induction G with
    |zero=>intro a e o p;refine⟨a,tI.2 ⟨p,o,λc x=> ?_⟩⟩;have:=s a c x;omega
    |succ G ih=>
     intro a e o p;by_cases v: ∀c∈iW k a,b.getD c false=true
     .exact⟨a,tI.2 ⟨p,o,v⟩⟩
     grind
   obtain⟨o,p⟩:=(r h.i).1 a9s;obtain⟨c,x⟩:=u h.i h.i (a5m _) o p;rw[W]at x;cases x
 intro z
 induction z with
 |zero=>intro b d E g r _ _ _ C D L;have:d= []:=a4P a9r;subst this;refine⟨?_,L⟩;simp_all [Region.ready,tI]
 |succ z ih=>
  intro b d E g r w i j C D L;refine⟨λW=> ?_,λa e=> ?_⟩
  .have:=t b d E r W;subst this;exact L
  .obtain⟨o,p,l⟩:=tI.1 e;have A:=(r a).2 ⟨p,o⟩;obtain⟨h,B,rfl⟩:=a5f.1 A;obtain⟨y,S,rfl⟩:=a7y B;have H:(y.map (·.i)++h.i::S.map (·.i)).Nodup:=by simpa using w
   have I:(y.map (·.i)).Nodup:=(List.nodup_append.1 H).1;have m:Pass xs h y:=AY i λF f=>by
    cases K:dep V F.i h.i with
    |false=>rfl
    |true=>exfalso;have Y:=IL q j E h.i F.i h.i (a5m _) K l;grind
   have M:=AU (D:=j4) h S y m I C D L;refine rK (λN O Q=> ?_) M;refine ih (b.setIfInBounds h.i true) (y++S) (by simp[E]) (by simp at g|-;omega) (λc=> ?_) ?_ (B1 i m) ?_ N O Q.2
   .have Z:h.i∉(y++S).map (·.i):=by grind
    by_cases T:h.i=c;simp_all
    .rw[getD_set_ne true T,<-r c];grind
   grind
   .intro c x n F f;by_cases T:h.i=c
    .subst T;exact getD_set_true (l F f)
    .rw[getD_set_ne true T]at n;exact getD_set_true (j c x n F f)
end
inductive gn where
 |norm
 |exit (id:Nat)
 |ret
inductive dN where
 |skip
 |plain (ops:List c7)
 |draw (ops:List c7) (order:List dk)
 |seq (a b:dN)
 |cond (c:Operand) (a b:dN)
 |block (id:Nat) (a:dN)
 |loop (a:dN)
 |exit (id:Nat)
 |ret
 |refuse
def nth (a:List c7) (b:Nat):c7:=a.getD b {dst:=none,op:= .fc (.const (.bool true)),guard:=none}
def eS (a:Fr->U->Prop) (b:gn->Fr->U->Prop):gn->Fr->U->Prop
 | .norm=>a
 |c=>b c
def lg (c:Nat) (a:gn->Fr->U->Prop):gn->Fr->U->Prop
 | .exit b=>if b=c then a .norm else a (.exit b)
 |d=>a d
def bU (c:Ctx):dN->(gn->Fr->U->Prop)->Fr->U->Prop
 | .skip,a=>a .norm
 | .plain ops,a=>iV c ops (a .norm)
 | .draw ops order,a=>can c (nth ops) (a .norm) order
 | .seq h k,a=>bU c h (eS (bU c k a) a)
 | .cond z h k,a=>λb d=>match aj b z with
  | .v (.bool p)=>(p=true->bU c h a b d)/\(p=false->bU c k a b d)
  | _=>False
 | .block id h,a=>bU c h (lg id a)
 | .loop h,a=>λb d=> ∃(o:Fr->U->Prop) (r:Fr->U->Nat),o b d/\ ∀b d,o b d->bU c h (eS (λx y=>o x y/\r x y<r b d) a) b d
 | .exit id,a=>a (.exit id)
 | .ret,a=>a .ret
 | .refuse,_=>λ_ _=>False
def wq (a:Array Oper) (b:Oper):Option (Option (Nat×Bool)):=
 match b.guard with
 |none=>some none
 |some (c,want)=>match(a[c]?).bind (·.dst)with
  |some d=>some (some (d,want))
  |none=>none
def B2 (a:Nat):Option Nat->Bool
 |some b=>decide (b<a)
 |none=>true
def wu (a:List Nat):Option Nat->Bool
 |some b=> !a.contains b
 |none=>true
def qh (c:Program) (b:Env) (d:Nat) (h:Array Oper) (a:Oper):Option c7:=
 match wj c b a,wq h a with
 |some k,some o=>if B2 d a.dst=true/\wu b.pins a.dst=true then some {dst:=a.dst,op:=k,guard:=o}else none
 | _,_=>none
def fv {a b:Type} (c:a->Option b):List a->Option (List b)
 | []=>some []
 |d::h=>match c d,fv c h with
  |some k,some o=>some (k::o)
  | _,_=>none
def wv (b:Nat->List Nat) (c:List Nat) (d:Nat->Bool) (left:List Nat):Option Nat:=left.find? λa=>(b a).all (λh=>c.contains h)&&d a
def B3 (b:Nat->List Nat) (c:Nat->c7):Nat->List Nat->List Nat->List Nat
 |0,_,_=> []
 |fuel+1,done,left=>
  match(wv b done (λa=>mO (c a).op||nQ (c a).op) left).or ((wv b done (λa=> !lf (c a).op) left).or (wv b done (λ_=>true) left))with
  |some a=>a::B3 b c fuel (a::done) (left.filter (·!=a))
  |none=> []
def B4 (a:c7):Bool:=mO a.op||nQ a.op
def marks (a:Nat->c7) (d:Nat->Nat->Bool):List Nat->List Nat->List dk
 | _,[]=> []
 |ahead,b::h=>
  let k:=if B4 (a b)then []else h.filter λc=>(lf (a c).op||mO (a c).op)&& !d b c
  let o:=if B4 (a b)||lf (a b).op then []else ahead.filter λc=>nQ (a c).op&& !d c b
  ⟨b,k,o⟩::marks a d (ahead++ [b]) h
def B5 (a:Array Oper) (b:Nat->c7):List dk:=
 marks b (dep (tG (iW a) a.size [] 0)) [] (B3 (iW a) b a.size [] (List.range a.size))
def wx (a:Array Oper) (d:Nat->c7) (b:List dk):Bool:=
 (List.range a.size).all (λc=>(iW a c).all (λh=>decide (h<c)))&&decide (b.length<=a.size)&&(List.range a.size).all (λc=>(b.map (·.i)).contains c)&&b.all (λk=>decide (k.i<a.size))&&
  decide ((b.map (·.i)).Nodup)&&mP d (tG (iW a) a.size [] 0) b
def tJ:Code->List Oper
 | .region _ ops _=>ops.toList
 | .seq a b| .cond _ a b=>tJ a++tJ b
 | .block _ a| .loop a=>tJ a
 | _=> []
def rO (a:List Nat):Operand->Bool
 | .tmp b=>a.contains b
 | _=>false
def derive (a:List Nat):List Oper->List Nat
 | []=>a
 |d::h=>match d.op,d.dst with
  | .fieldAddr _ b _,some c| .indexAddr _ b _,some c| .nilCheck b,some c=>derive (if rO a b then c::a else a) h
  | _,_=>derive a h
def IP (a:List Nat) (b:Oper):Bool:=
 match b.op with
 | .fieldAddr _ _ _| .indexAddr _ _ _| .nilCheck _| .load _ _| .slice _ _ _ _ _=>false
 |op=>op.operands.toList.any (rO a)
def IQ (a:List Nat) (b:Oper):Bool:=
 match b.op with
 | .slice _ c _ _ _=>rO a c
 | _=>false
def IS (a:List Nat) (h:Oper):List Nat:=
 let p (a:List Nat) (b:Operand):List Nat:=match b with| .tmp k=>if a.contains k then a else k::a| _=>a
 let c (b:Operand):List Nat:=match h.dst with
  |some d=>if a.contains d then p a b else if rO a b then(if a.contains d then a else d::a)else a
  |none=>a
 match h.op with
 | .move b| .assign b=>c b
 | .slice _ b _ _ _=>c b
 | .call o=>match o.callee,o.args.toList with
  | .builtin .append,[b,_]=>c b
  | _,_=>a
 | _=>a
def wy (b:List Oper):Nat->List Nat->List Nat
 |0,a=>a
 |d+1,a=>let c:=b.foldl IS a;if c.length=a.length then a else wy b d c
def B6 (c:Program) (a:List Oper):List Nat:=
 a.filterMap λb=>match b.op,b.dst with
  | .indexAddr d (.tmp h) _,some k=>if !(match c.underlying d with|some (.slice _)=>true| _=>false)then none else let o:=derive [k] a;if a.any (λp=>match p.op with| .store _ r _=>rO o r| _=>false)then some h else none
  | _,_=>none
def IT (b:Program) (c:List Nat) (a:Oper):Bool:=
 match a.op,a.dst with
 | .convert st _ _,some d=>(match b.underlying st with|some .string=>true| _=>false)&&c.contains d
 | _,_=>false
def IU (d:Program) (b:Code):Env:=
 let a:=tJ b
 let h:=(a.filterMap λc=>match c.op with| .box _ _=>c.dst| _=>none).filter λo=>let k:=derive [o] a;a.any (IQ k)&& !a.any (IP k)
 {jE:=h,Ay:=derive h a,wr:=a.filterMap λc=>match c.op with| .call b=>(match b.callee,b.args.toList with| .builtin .copy,.tmp p:: _=>some p| _,_=>none)| _=>none,tB:=wy a 40 (B6 d a),ty:=false,lR:=a.any (IT d (wy a 40 (B6 d a)))}
def gV (b:Program) (a:Env) (c:Nat):Code->Option dN
 | .skip=>some .skip
 | .region _ ops false=>match fv (qh b a c ops) ops.toList with
  |some xs=>some (.plain xs)
  |none=>if a.Az=true then some .refuse else none
 | .region _ ops true=>match fv (qh b a c ops) ops.toList with
  |some xs=>if wx ops (nth xs) (B5 ops (nth xs))=true then some (.draw xs (B5 ops (nth xs)))else none
  |none=>none
 | .seq d h=>match gV b a c d,gV b a c h with
  |some k,some o=>some (.seq k o)
  | _,_=>none
 | .cond p d h=>match gV b a c d,gV b a c h with
  |some k,some o=>if aT p=true then some (.cond p k o)else none
  | _,_=>none
 | .block id d=>(gV b a c d).map (.block id)
 | .loop d=>(gV b a c d).map .loop
 | .exit id=>some (.exit id)
 | .ret=>some .ret
 | .refuse _=>some .refuse
 | _=>none
def oY (a:List Deferred×List (Nat×Value)) (b:Act):Prop:=b.defers=a.1/\ ∀c∈a.2,b.tmps.getD c.1 undef=c.2
theorem oY.put {d:List Deferred×List (Nat×Value)}{a:Act} (h:oY d a) {b:Option Nat}{v:Value}{k:List Nat} (p: ∀c∈d.2,c.1∈k) (r:wu k b=true):oY d (a.put b v):=by
 refine⟨by rw[<-h.1];cases b<;>rfl,λc o=> ?_⟩;cases b with
 |none=>exact h.2 c o
 |some b=>
  have x:c.1≠b:=by rintro rfl;grind[wu,Bool.not_eq_true',decide_eq_false_iff_not]
  rw[<-h.2 c o];simp_all [Act.put,a5w,a7u,a4S]
def hM (c:List Deferred×List (Nat×Value)) (d:Nat) (h:bm) (k:U) (o:World) (p:Fr) (r:U) (a:Act) (x:World):Prop:=
 a.tmps.size=d/\oY c a/\ ∃b,bM b a p/\Step h k o b r x
def post (h:List Deferred×List (Nat×Value)) (D:R->U->Prop) (r:Nat) (k:bm) (o:U) (p:World) (x:gn->Fr->U->Prop):Exit->Act->World->Prop
 | .normal,b,d=> ∃a c,hM h r k o p a c b d/\x .norm a c
 | .exit id,b,d=> ∃a c,hM h r k o p a c b d/\x (.exit id) a c
 | .ret,b,d=> ∃a c,hM h r k o p a c b d/\x .ret a c
 | .panic E,b,d=>oY h b/\ ∃v z y C,E= [{v,recovered:=false}]/\Step k o p y C d/\aZ y v z/\up D z C/\ ∃a,bM y b a
 | _,_,_=>False
variable{b4:FuncId}
section
variable  {env:Env}    {D:List Deferred×List (Nat×Value)}
def size_put (a:Act) (b:Option Nat) (v:Value):(a.put b v).tmps.size=a.tmps.size:=by cases b<;>simp[Act.put]
theorem B7 {c o:Type}{p:c->Option o}: ∀ {d:List c}{b:List o},fv p d=some b->d.length=b.length/\ ∀(r:Nat) (h:c),d[r]? =some h-> ∃k,b[r]? =some k/\p h=some k
 | [],b,a=>by simp only[fv,a4U]at a;simp_all
 |h::y,b,a=>by
  simp only[fv]at a;split at a
  case h_2=>cases a
  rename_i k z C x;obtain rfl:=a4I a;obtain⟨E,F⟩:=B7 x;grind
theorem IV {h:Array Oper}{o:Oper}{z:Option (Nat×Bool)} (c:wq h o=some z) {a:Act} (E:bM u a j):
  match z with
  |none=>Region.wanted o (yielded h a.tmps)=true
  |some (b,C)=>(∀p,j b= .v (.bool p)->Region.wanted o (yielded h a.tmps)=(p==C))/\(j b= .aL []->Region.wanted o (yielded h a.tmps)=false):=by
 unfold wq at c;split at c
 .rename_i x;obtain rfl:=a4I c;simp[Region.wanted,x]
 .rename_i F C x;split at c
  case h_2=>cases c
  rename_i b G;obtain rfl:=a4I c;have d:=E b;refine⟨λp y=> ?_,λy=> ?_⟩
  .rw[y]at d;have k:=d.dV;have S:a.tmps[b]? =some (.bool p):=by
    rw[a5w]at k;cases r:a.tmps[b]? with
    |none=>rw[r]at k;cases k
    |some L=>rw[r]at k;simpa using k
   grind[yielded,Region.wanted]
  .rw[y]at d;have P:yielded h a.tmps F=none:=by
    unfold yielded;rw[G];simp only[Option.bind_some];cases r:a.tmps[b]? with
    |none=>rfl
    |some L=>rw[a5w,r]at d;simp only[a6M]at d;cases d;rfl
   simp[Region.wanted,x,P]
theorem B8 (L: ∀A∈D.2,A.1∈env.pins) {P:Array Oper}{b:Oper}{S:c7} (p:qh m env e P b=some S) {d:Act} (B:hM D e u f l j t d h8) (H:T ⟨m,s⟩ S j4 j t) (x:Exit->Act->World->Prop) (I: ∀v k o a h,(∃j,bM o d j)->Step u f l o a h->aZ o v k->up s k a->x (.panic [{v,recovered:=false}]) d h):
  if Region.wanted b (yielded P d.tmps)then b.wp m d h8 (λy h=> ∃c a,hM D e u f l c a y h/\j4 c a) x else∃c a,hM D e u f l c a (d.put b.dst undef) h8/\j4 c a:=by
 obtain⟨V,W,g,r,z⟩:=B;unfold qh at p;split at p
 case h_2=>cases p
 rename_i K j9 M N;split at p
 case isFalse=>cases p
 rename_i i;obtain rfl:=a4I p;have n: ∀C,b.dst=some C->C<d.tmps.size:=λC k0=>by grind[B2]
 have k1:=IV N r;have k2:G ⟨m,s⟩ K j t (λk a=>j4 (dn j b.dst k) a)->b.wp m d h8 (λy h=> ∃c a,hM D e u f l c a y h/\j4 c a) x:=λO=>by
  have:=Iz M r z.holds O x (λv k o a h q Q X=>I v k o a h ⟨j,r.mono q.le⟩ (z.trans q) Q X);refine Oper.wp_mono (λy h Y=> ?_) this;obtain⟨v,o,a,k,rfl,w,Z,F⟩:=Y;exact⟨dn j b.dst k,a,⟨by rw[size_put];exact V,W.put L i.2,o,(r.mono w.le).put b.dst n Z,z.trans w⟩,F⟩
 have k3:j4 (dn j b.dst (.aL [])) t-> ∃c a,hM D e u f l c a (d.put b.dst undef) h8/\j4 c a:=λF=>
  ⟨dn j b.dst (.aL []),t,⟨by rw[size_put];exact V,W.put L i.2,g,r.put b.dst n (aZ.undef g),z⟩,F⟩
 unfold T E at H;grind
theorem B9 (F: ∀T∈D.2,T.1∈env.pins) {G:Array Oper}{o:Exit->Act->World->Prop}{L:Fr->U->Prop} (P: ∀b c a d,hM D e u f l b c a d->L b c->o .normal a d) (S: ∀a v p k r x,(oY D a/\ ∃b,bM k a b)->Step u f l k r x->aZ k v p->up s p r->o (.panic [{v,recovered:=false}]) a x): ∀(y:List Oper) (z:List c7),fv (qh m env e G) y=some z->
  ∀(b:Fr) (c:U) (a:Act) (d:World),hM D e u f l b c a d->iV ⟨m,s⟩ z L b c->wpList m G o y a d
 | [],z,h,b,c,a,d,C,E=>by
  simp only[fv,a4U]at h;subst h;exact P b c a d C E
 |n::y,z,h,b,c,a,d,C,E=>by
  simp only[fv]at h;split at h
  case h_2=>cases h
  rename_i q V W g;obtain rfl:=a4I h;have ih:=B9 F P S y V g;have:=B8 F W C E o (λv p k r x i=>S a v p k r x ⟨C.2.1,i⟩);simp only[wpList];split
  .rename_i j;rw[if_pos j]at this;grind[Oper.wp_mono]
  grind
def wz (G: ∀w∈D.2,w.1∈env.pins) {y:Array Oper}{z:Exit->Act->World->Prop}{j:Fr->U->Prop} (C: ∀b d a c,hM D e u f l b d a c->j b d->z .normal a c) (L: ∀a v E o h k,(oY D a/\ ∃b,bM o a b)->Step u f l o h k->aZ o v E->up s E h->z (.panic [{v,recovered:=false}]) a k) {P:List c7} (S:fv (qh m env e y) y.toList=some P):
  ∀(p:Nat) (F:Array Bool) (b:Fr) (d:U) (a:Act) (c:World),hM D e u f l b d a c->tH ⟨m,s⟩ (nth P) y j p F b d->wpAny m .any y z p F a c
 |0,F,b,d,a,c,r,x=>⟨x.1,C b d a c r x.2⟩
 |p+1,F,b,d,a,c,r,x=>by
  refine⟨λA=>C b d a c r (x.1 A),λT n=> ?_⟩;have q:=x.2 T n;obtain⟨_,B,t,_⟩:=mem_ready.1 n;obtain⟨H,I,K⟩:=(B7 S).2 T B (by simpa using t);have M:nth P T=H:=by simp[nth,List.getD,I]
  rw[M]at q;have:=B8 G K r q z (λv E o h k N=>L a v E o h k ⟨r.2.1,N⟩);unfold wpOp;simp only[t];split
  .rename_i V;rw[if_pos V]at this;exact .inl (Oper.wp_mono (λO k ⟨W,h,g,i⟩=>wz G C L S p _ W h O k g i) this)
  .rename_i V;rw[if_neg V]at this;obtain⟨W,h,g,i⟩:=this;exact wz G C L S p _ W h _ c g i
theorem IW {a:Array Oper}{d:Nat->c7}{h:List dk} (c:wx a d h=true) (p:can K d j4 h j f):tH K d a j4 a.size (Array.replicate a.size false) j f:=by
 simp only[wx,a4M,a4Y,decide_eq_true_eq,a6b]at c;obtain⟨⟨⟨⟨⟨E,F⟩,G⟩,L⟩,x⟩,y⟩:=c;have r: ∀b k,k∈iW a b->k<b:=λb k P=>by
  grind[wo,Array.getElem?_eq_some_iff]
 refine IN (AW r a.size [] 0 rfl (λb z c=>by simp[dep]at c)) r a.size _ h a9s a9r (λb=> ?_) x y (λb o C=> ?_) j f p
 .constructor
  .intro o;obtain⟨z,p,rfl⟩:=a5f.1 o;simp_all
  simp_all
 .simp[o]at C
def oZ (L:m.follows .mixedOrders=true) (G: ∀k2∈D.2,k2.1∈env.pins): ∀(r:Code) (x:dN),gV m env e r=some x-> ∀(p:gn->Fr->U->Prop) (b:Fr) (c:U) (d:Act) (k:World),hM D e u f l b c d k->bU ⟨m,s⟩ x p b c->r.wp m (post D s e u f l p) d k
 | .skip,x,a,p,b,c,d,k,h,bQ=>by
  simp only[gV,a4U]at a;subst a;exact wp_skip ⟨b,c,h,bQ⟩
 | .region id ops k3,x,a,p,b,c,d,k,h,bQ=>by
  cases k3 with
  |false=>
   simp only[gV]at a;split at a
   case h_2=>
    split at a
    .obtain rfl:=a4I a;exact bQ.elim
    .cases a
   rename_i Y n;obtain rfl:=a4I a;refine wp_region_list ?_;exact B9 G (L:=p .norm) (λb c d k h y=>⟨b,c,h,y⟩) (λd v q t z E F P w A=>⟨F.1,v,q,t,z,rfl,P,w,A,F.2⟩) ops.toList Y n b c d k h bQ
  |true=>
   simp only[gV]at a;split at a
   case h_2=>cases a
   rename_i Y n;split at a
   case isFalse=>cases a
   rename_i k4;obtain rfl:=a4I a;refine wp_region_any L ?_;obtain⟨k5,k6,k7,k8,Z⟩:=h;exact wz G (j:=p .norm) (λb c d k h y=>⟨b,c,h,y⟩) (λd v q t z E F P w A=>⟨F.1,v,q,t,z,rfl,P,w,A,F.2⟩) n ops.size _ b c d _ ⟨k5,k6,k7,k8,Z.trans (Step.drew Z.holds)⟩ (IW k4 bQ)
 | .seq c1 c2,x,a,p,b,c,d,k,h,bQ=>by
  simp only[gV]at a;split at a
  case h_2=>cases a
  rename_i ch ca F P;obtain rfl:=a4I a;refine wp_seq (wp_mono (oZ L G c1 ch F _ b c d k h bQ) λC S E o=> ?_);cases C with
  |normal=>obtain⟨T,z,V,y⟩:=o;exact oZ L G c2 ca P p T z S E V y
  |exit id=>exact o
  |ret=>exact o
  |goto j9=>exact o
  |panic B=>exact o
  |outgrown=>exact o
 | .cond r c1 c2,x,a,p,b,c,d,k,h,bQ=>by
  simp only[gV]at a;split at a
  case h_2=>cases a
  rename_i ch ca F P;split at a
  case isFalse=>cases a
  rename_i k9;obtain rfl:=a4I a;simp only[bU]at bQ;split at bQ
  case h_2=>exact bQ.elim
  rename_i n2 l0;have k0:=(h.2.2.choose_spec.1).aj r k9;rw[l0]at k0;refine wp_cond_split k0.dV (λH=> ?_) (λH=> ?_)
  .exact oZ L G c1 ch F p b c d k h (bQ.1 H)
  .exact oZ L G c2 ca P p b c d k h (bQ.2 H)
 | .block id r,x,a,p,b,c,d,k,h,bQ=>by
  simp only[gV]at a;obtain⟨I,K,rfl⟩:=a7A.1 a;refine wp_block (wp_mono (oZ L G r I K _ b c d k h bQ) λC S E o=> ?_);cases C with
  |normal=>exact o
  |exit n3=>
   obtain⟨T,z,V,y⟩:=o;simp only[Exit.inBlock];simp only[lg]at y;split
   .rename_i M;rw[if_pos M]at y;exact⟨T,z,V,y⟩
   .rename_i M;rw[if_neg M]at y;exact⟨T,z,V,y⟩
  |ret=>exact o
  |goto j9=>exact o
  |panic B=>exact o
  |outgrown=>exact o
 | .loop r,x,a,p,b,c,d,k,h,bQ=>by
  simp only[gV]at a;obtain⟨I,K,rfl⟩:=a7A.1 a;obtain⟨l1,k1,N,l2⟩:=bQ;intro O Q X;have l3: ∀g b c d k,k1 b c=g->l1 b c->hM D e u f l b c d k->
    ∃C S E,post D s e u f l p C S E/\Arrives m (lone (O.at d (.code r:: .inLoop r::Q)) X k) O Q X C S E:=by
   intro g
   induction g using Nat.strongRecOn with
   | _ g ih=>
    intro b c d k l4 N h;obtain⟨C,i,j,o,W⟩:=oZ L G r I K _ b c d k h (l2 b c N) O (.inLoop r::Q) X;cases C with
    |normal=>obtain⟨T,z,V,l5,l6⟩:=o;obtain⟨l7,l8,l9,n0,n1⟩:=ih (k1 T z) (l4▸l6) T z i j rfl l5 V;exact⟨l7,l8,l9,n0,.of_steps (Steps.trans W (.one step_inLoop)) n1⟩
    |exit id=>exact⟨.exit id,i,j,o,.pass (x:= .inLoop r) rfl (λ_ _=> .inl a9s) W⟩
    |goto j9=>exact o.elim
    |ret=>exact⟨.ret,i,j,o,.pass (x:= .inLoop r) rfl (λ_ _=> .inl a9s) W⟩
    |panic B=>exact⟨.panic B,i,j,o,.pass (x:= .inLoop r) rfl (λ_ _=> .inl a9s) W⟩
    |outgrown=>exact o.elim
  obtain⟨C,S,E,o,W⟩:=l3 _ b c d k rfl N h;exact⟨C,S,E,o,.of_steps (.one step_loop) W⟩
 | .exit id,x,a,p,b,c,d,k,h,bQ=>by
  simp only[gV,a4U]at a;subst a;exact wp_exit ⟨b,c,h,bQ⟩
 | .ret,x,a,p,b,c,d,k,h,bQ=>by
  simp only[gV,a4U]at a;subst a;exact wp_ret ⟨b,c,h,bQ⟩
 | .refuse n4,x,a,p,b,c,d,k,h,bQ=>by
  simp only[gV,a4U]at a;subst a;exact bQ.elim
structure ao where
 ntmps:Nat
 nparams:Nat
 code:dN
 results:List (Nat×Option (Bool×Nat))
def qi (b:Program):ResultVar->Option (Nat×Option (Bool×Nat))
 | .tmp a=>some (a,none)
 | .cell d a=>match b.underlying a,kt b a with
  |some c,some e=>if c.isRow=true\/e=1 then some (d,some (c.isRow,e))else none
  | _,_=>none
def Env.all (a:Env) (c:Nat) (b:Nat):Env:=
 match c with
 |1=> {a with tB:=List.range b}
 |2=> {a with ty:=true}
 |5=> {a with Az:=true}
 |6=> {a with tB:=List.range b,w5:=true}
 | _=>a
def dw (a:Program) (c:Nat) (d:FuncId):Option ao:=
 match a.funcs[d]? with
 |some fn=>match fn.body with
  |some b=>match gV a ((IU a b).all c fn.ntmps) fn.ntmps b,fv (qi a) fn.results.toList with
   |some h,some rs=>if fn.params.size<=fn.ntmps then some ⟨fn.ntmps,fn.params.size,h,rs⟩else none
   | _,_=>none
  |none=>none
 |none=>none
def gb (b:Fr) (c:U):Nat×Option (Bool×Nat)->Option R
 |(a,none)=>some (b a)
 |(a,some (agg,e))=>match b a with
  | .ptr d off=>match c.read d with
   |some cs=>if off+e<=cs.length then some (aY agg e (cs.drop off))else none
   |none=>none
  | _=>none
def iX (a:Fr) (b:U) (c:List (Nat×Option (Bool×Nat))):Option R:=
 match fv (gb a b) c with
 |some [d]=>some d
 |some h=>some (.aL h)
 |none=>none
def qj (d:ao) (h:R->U->Prop):gn->Fr->U->Prop
 | .exit _,_,_=>False
 | _,k,a=> ∃b c,iX k a d.results=some b/\c.sub a/\h b c
def lT (a:List R):Fr:=λb=>a.getD b (.aL [])
def rP (b:Array Value):ResultVar->Sem Value
 | .tmp a=>pure (b.getD a undef)
 | .cell c a=>do loadVar a (<-asAddr (b.getD c undef))
theorem IX {o:Act}{p:ResultVar}{k:Nat×Option (Bool×Nat)} (z:aZ u (o.tmps.getD k.1 undef) (j k.1)) (P:Holds u f l) (d:qi m p=some k) (b:gb j f k=some n):
  ∃v,(rP o.tmps p).run m l= .ok v l/\aZ u v n:=by
 cases p with
 |tmp r=>simp only[qi,a4U]at d;subst d;simp only[gb,a4U]at b;subst b;exact⟨_,rfl,z⟩
 |cell C r=>
  simp only[qi]at d;split at d
  case h_2=>cases d
  rename_i x e E S;split at d
  case isFalse=>cases d
  rename_i V;obtain rfl:=a4I d;simp only[gb]at b;split at b
  case h_2=>cases b
  rename_i h a W;split at b
  case h_2=>cases b
  rename_i I g;split at b
  case isFalse=>cases b
  rename_i i;obtain rfl:=a4I b;have F:aZ u (o.tmps.getD C undef) (j C):=z;rw[W]at F;have q:=F.mL;obtain⟨s,c,T,K,t,G⟩:=P.read g;have M:=G.1;cases y:x.isRow with
  |true=>
   have w:l.rangeAt h a ((c.toList.drop a).take e):=by intro N v O;grind[cell_of_row]
   have A:((c.toList.drop a).take e).length=e:=a9t;have L:=run_loadVar_mid (P:=m) l h a r ((c.toList.drop a).take e) x w E y (by rw[A];exact S);refine⟨.agg ((c.toList.drop a).take e).toArray,by simp only[rP,Sem.run_bind,q,asAddr,Sem.run_pure,Result.andThen_ok,L],?_⟩;rw[show((c.toList.drop a).take e).toArray=c.extract a (a+e) by rw[<-Ae]];exact aZ.aY G s a e i
  |false=>
   obtain rfl:=w9 V y;have B:a<c.size:=a9r;have H:l.cell? ⟨h,a,none⟩=some (c.getD a undef):=by rw[cell_of_row l h a c T _ t];simp[B]
   have L:=vU (m:=m) l r x ⟨h,a,none⟩ _ E y H;grind[undef,rP,Sem.run_bind,asAddr,Sem.run_pure,Result.andThen_ok,aZ.vT]
theorem Ba {p:bm}{E:Fr}{F:U}{G:Act}{r:World} (L:Holds p F r): ∀(k:List ResultVar) (c:List (Nat×Option (Bool×Nat))) (d:List R),(∀o∈c,aZ p (G.tmps.getD o.1 undef) (E o.1))->fv (qi m) k=some c->fv (gb E F) c=some d->
  ∃h:List Value,(k.mapM (rP G.tmps)).run m r= .ok h r/\h.length=d.length/\ ∀(x:Nat) (y:Value) (z:R),h[x]? =some y->d[x]? =some z->aZ p y z
 | [],c,d,C,a,b=>by
  simp only[fv,a4U]at a;subst a;simp only[fv,a4U]at b;simp_all
 |j::k,c,d,C,a,b=>by
  simp only[fv]at a;split at a
  case h_2=>cases a
  rename_i o P S T;obtain rfl:=a4I a;simp only[fv]at b;split at b
  case h_2=>cases b
  rename_i l V W e;obtain rfl:=a4I b;obtain⟨v,n,q⟩:=IX (C o a9s) L S W;obtain⟨h,s,f,t⟩:=Ba L k P V (λg i=>C g (by simp[i])) T e;refine⟨v::h,?_,by simp[f],λx y z u w=> ?_⟩;simp_all;grind
theorem IY {o:Act}{c:Func}{p:List (Nat×Option (Bool×Nat))} (L: ∀F∈p,aZ u (o.tmps.getD F.1 undef) (j F.1)) (P:Holds u f l) (S:fv (qi m) c.results.toList=some p) (r:iX j f p=some n):
  ∃v,(results c o.tmps).run m l= .ok v l/\aZ u v n:=by
 unfold iX at r;have G: ∀d,fv (gb j f) p=some d-> ∃a:Array Value,(results c o.tmps).run m l= .ok (if T:a.size=1 then a[0]else .tuple a) l/\a.toList.length=d.length/\ ∀(y:Nat) (z:Value) (C:R),a.toList[y]? =some z->d[y]? =some C->aZ u z C:=λd x=>by
  obtain⟨a,b,h,k⟩:=Ba P c.results.toList p d L S x;refine⟨a.toArray,?_,by simpa using h,λy z C V W=>k y z C (by simpa using V) W⟩;have e:results c o.tmps=(do let a <-c.results.mapM (rP o.tmps);pure (if T:a.size=1 then a[0]else .tuple a)):=rfl;rw[e,Sem.run_bind,Array.mapM_eq_mapM_toList,Sem.run_map];rw[b];rfl
 split at r
 .rename_i g x;obtain rfl:=a4I r;obtain⟨a,b,h,k⟩:=G _ x;have E:a.size=1:=by simpa using h
  rw[dif_pos E]at b;refine⟨_,b,k 0 _ _ ?_ rfl⟩;simp[E]
 .rename_i d i x;obtain rfl:=a4I r;obtain⟨a,b,h,k⟩:=G _ x;have E:a.size≠1:=by grind[List.length_eq_one_iff]
  rw[dif_neg E]at b;exact⟨_,b,.aL _ _ (bs.dU.2 ⟨h,k⟩).1 (bs.dU.2 ⟨h,k⟩).2⟩
 .cases r
theorem IZ (A:m.follows .mixedOrders=true) {E:ao} (b:dw m e b4=some E) (B:g.length<=E.ntmps) (q:bU ⟨m,a7⟩ E.code (qj E s) (lT g) f):hL m b4 g f s (up a7):=by
 intro h x o t H;unfold dw at b;split at b
 case h_2=>cases b
 rename_i p I;split at b
 case h_2=>cases b
 rename_i K M;split at b
 case h_2=>cases b
 rename_i N O Q X;split at b
 case isFalse=>cases b
 rename_i k4;obtain rfl:=a4I b;simp only at B q;refine calls_of_wp I M ?_;have u:h.size=g.length:=t.1;have Y:hM ([],[]) p.ntmps o f x (lT g) f {tmps:=h++Array.replicate (p.ntmps - h.size) undef,defers:= []} x:=by
  refine⟨a9t,⟨rfl,λS T=>by simp at T⟩,o,λc=> ?_,.refl H⟩;by_cases F:c<g.length
  .have V:lT g c=g[c]:=by simp[lT,List.getD,F]
   rw[V];have:=t.2 c g[c] (a4J F);have W:(h++Array.replicate (p.ntmps - h.size) undef).getD c undef=h.getD c undef:=by simp[a8X,u,F]
   rw[W];exact this
  .have V:lT g c= .aL []:=by simp[lT,List.getD,F]
   rw[V];have W:(h++Array.replicate (p.ntmps - h.size) undef).getD c undef=undef:=by simp only[a5w,a8X,u];grind
   rw[W];exact aZ.undef o
 refine wp_mono (oZ A (λS T=>by simp at T) K N Q _ _ _ _ _ Y q) λZ i y r=> ?_;have w:(∃G z,hM ([],[]) p.ntmps o f x G z i y/\ ∃a L,iX G z O=some a/\L.sub z/\s a L)->
   i.defers= []/\ ∃v,(results p i.tmps).run m y= .ok v y/\((∃C a d k,Ending.returned v= .returned C/\Step o f x d k y/\aZ d C a/\s a k)\/(∃C a d k,Ending.returned v= .panicked [{v:=C,recovered:=false}]/\Step o f x d k y/\aZ d C a/\up a7 a k)):=by
  rintro⟨G,z,⟨_,j,d,j9,P⟩,a,L,k0,k1,l⟩;obtain⟨v,k2,n⟩:=IY (λS _=>j9 S.1) P.holds X k0;exact⟨j.1,v,k2,.inl ⟨v,a,d,L,rfl,P.drop k1,n,l⟩⟩
 cases Z with
 |normal=>exact w r
 |ret=>exact w r
 |exit id=>obtain⟨G,z,_,k3⟩:=r;exact k3.elim
 |goto k5=>exact r.elim
 |panic k6=>obtain⟨j,v,a,d,k,rfl,P,n,l,_⟩:=r;exact⟨j.1,.inr ⟨v,a,d,k,rfl,P,n,l⟩⟩
 |outgrown=>exact r.elim
def J0 (b:m.follows .mixedOrders=true) {a:ao} (c:dw m e b4=some a) (d:g.length<=a.ntmps) (h:bU (Ctx.of m) a.code (qj a s) (lT g) f):AC m b4 g f s:=
 (IZ b c d h).H6
end
abbrev aG (a:Nat):Operand:= .tmp a
abbrev lU (a:Int):Operand:= .const (.int .i64 a)
abbrev qk:Operand:= .const (.bool false)
abbrev J1:Operand:= .const (.slice none 0 0)
abbrev bE (a:Nat) (b:cb):c7:=⟨some a,b,none⟩
abbrev on (a:cb):c7:=⟨none,a,none⟩
abbrev ff (a:Nat) (b:Bool) (c:Nat) (d:cb):c7:=⟨some c,d,some (a,b)⟩
abbrev aB (a b:Nat):c7:=⟨some a,.fc (.tmp b),none⟩
abbrev cI (a:Nat) (b:BinOp) (c d:Nat):c7:=⟨some a,.bin b (.tmp c) (.tmp d),none⟩
abbrev fw (a:Nat) (b:BinOp) (c:Nat) (d:Int):c7:=⟨some a,.bin b (.tmp c) (.const (.int .i64 d)),none⟩
abbrev p0 (a b:Nat):c7:=⟨some a,.len (.tmp b),none⟩
abbrev bh (a:Nat):dk:=⟨a,[],[]⟩
end Go.bB
set_option maxRecDepth 100000
namespace Go.Proofs.YtlgnfcaolejgeaaGreat
open Go Go.bB
theorem hm:Tryz.prog.follows .mixedOrders=true:=a9w
abbrev iw:=List R
def J2:Nat->Operand
 |0=>(.const (.int .i64 0))
 |1=>(.const (.bool false))
 |2=>(.const (.int .i64 1))
 |3=>(.const (.slice none 0 0))
 |4=>(.const (.bool true))
 |5=>(.const (.pointer none))
 |6=>(.const (.int .i64 8))
 | _=>(.const (.int .i64 4))
def J3:Nat->Operand
 |0=>(.const (.int .i64 2))
 |1=>(.const (.int .u8 2))
 |2=>(.const (.int .u8 3))
 |3=>(.const (.int .u8 1))
 |4=>(.const (.int .i64 3))
 |5=>(.const (.int .i64 (-1)))
 |6=>(.const (.int .i64 64))
 | _=>(.const (.int .i64 21))
def J4:Nat->Operand
 |0=>(.const (.int .u8 0))
 |1=>(.const (.int .u64 0))
 |2=>(.const (.int .i64 16))
 |3=>(.const (.int .i64 1048576))
 |4=>(.const (.int .i64 6))
 |5=>(.const (.int .i64 9))
 |6=>(.const (.string ⟨#[116]⟩))
 | _=>(.const (.int .i64 7))
def J5:Nat->Operand
 |0=>(.const (.int .u64 8))
 |1=>(.const (.int .u64 32))
 |2=>(.const (.int .i64 10))
 |3=>(.const (.int .u64 9223372036854775808))
 |4=>(.const (.int .i64 5))
 |5=>(.const (.int .i64 56))
 |6=>(.const (.int .u64 16))
 | _=>(.const (.int .u64 256))
def J6:Nat->Operand
 |0=>(.const (.int .u8 4))
 |1=>(.const (.int .i64 256))
 |2=>(.const (.string ⟨#[99,97,110,110,111,116,32,98,101,32,110,101,103,97,116,105,118,101]⟩))
 |3=>(.const (.int .i64 32))
 |4=>(.const (.int .u64 4294967295))
 |5=>(.const (.int .i64 40))
 |6=>(.const (.int .i64 100))
 | _=>(.const (.int .i64 20))
def J7:Nat->Operand
 |0=>(.const (.string ⟨#[105,100]⟩))
 |1=>(.const (.int .u8 67))
 |2=>(.func 237)
 |3=>(.const (.int .u8 80))
 |4=>(.const (.int .u8 128))
 |5=>(.const (.int .u64 24))
 |6=>(.const (.int .u32 1779033703))
 | _=>(.const (.int .u32 3144134277))
def J8:Nat->Operand
 |0=>(.const (.int .u32 1013904242))
 |1=>(.const (.int .u32 2773480762))
 |2=>(.const (.int .u32 1359893119))
 |3=>(.const (.int .u32 2600822924))
 |4=>(.const (.int .u32 528734635))
 |5=>(.const (.int .u32 1541459225))
 |6=>(.const (.int .u32 256))
 | _=>(.const (.int .u32 1116352408))
def J9:Nat->Operand
 |0=>(.const (.int .u32 1899447441))
 |1=>(.const (.int .u32 3049323471))
 |2=>(.const (.int .u32 3921009573))
 |3=>(.const (.int .u32 961987163))
 |4=>(.const (.int .u32 1508970993))
 |5=>(.const (.int .u32 2453635748))
 |6=>(.const (.int .u32 2870763221))
 | _=>(.const (.int .u32 3624381080))
def Ja:Nat->Operand
 |0=>(.const (.int .u32 310598401))
 |1=>(.const (.int .u32 607225278))
 |2=>(.const (.int .u32 1426881987))
 |3=>(.const (.int .u32 1925078388))
 |4=>(.const (.int .u32 2162078206))
 |5=>(.const (.int .u32 2614888103))
 |6=>(.const (.int .u32 3248222580))
 | _=>(.const (.int .u32 3835390401))
def Jb:Nat->Operand
 |0=>(.const (.int .u32 4022224774))
 |1=>(.const (.int .u32 264347078))
 |2=>(.const (.int .u32 604807628))
 |3=>(.const (.int .u32 770255983))
 |4=>(.const (.int .u32 1249150122))
 |5=>(.const (.int .u32 1555081692))
 |6=>(.const (.int .u32 1996064986))
 | _=>(.const (.int .u32 2554220882))
def Jc:Nat->Operand
 |0=>(.const (.int .u32 2821834349))
 |1=>(.const (.int .u32 2952996808))
 |2=>(.const (.int .u32 3210313671))
 |3=>(.const (.int .u32 3336571891))
 |4=>(.const (.int .u32 3584528711))
 |5=>(.const (.int .u32 113926993))
 |6=>(.const (.int .u32 338241895))
 | _=>(.const (.int .u32 666307205))
def Jd:Nat->Operand
 |0=>(.const (.int .u32 773529912))
 |1=>(.const (.int .u32 1294757372))
 |2=>(.const (.int .u32 1396182291))
 |3=>(.const (.int .u32 1695183700))
 |4=>(.const (.int .u32 1986661051))
 |5=>(.const (.int .u32 2177026350))
 |6=>(.const (.int .u32 2456956037))
 | _=>(.const (.int .u32 2730485921))
def Je:Nat->Operand
 |0=>(.const (.int .u32 2820302411))
 |1=>(.const (.int .u32 3259730800))
 |2=>(.const (.int .u32 3345764771))
 |3=>(.const (.int .u32 3516065817))
 |4=>(.const (.int .u32 3600352804))
 |5=>(.const (.int .u32 4094571909))
 |6=>(.const (.int .u32 275423344))
 | _=>(.const (.int .u32 430227734))
def Jf:Nat->Operand
 |0=>(.const (.int .u32 506948616))
 |1=>(.const (.int .u32 659060556))
 |2=>(.const (.int .u32 883997877))
 |3=>(.const (.int .u32 958139571))
 |4=>(.const (.int .u32 1322822218))
 |5=>(.const (.int .u32 1537002063))
 |6=>(.const (.int .u32 1747873779))
 | _=>(.const (.int .u32 1955562222))
def Jg:Nat->Operand
 |0=>(.const (.int .u32 2024104815))
 |1=>(.const (.int .u32 2227730452))
 |2=>(.const (.int .u32 2361852424))
 |3=>(.const (.int .u32 2428436474))
 |4=>(.const (.int .u32 2756734187))
 |5=>(.const (.int .u32 3204031479))
 |6=>(.const (.int .u32 3329325298))
 | _=>(.const (.int .u64 1))
def Jh:Nat->Operand
 |0=>(.const (.int .i64 15))
 |1=>(.const (.int .u64 2))
 |2=>(.const (.int .u32 0))
 |3=>(.const (.string ⟨#[108,101,110,32,111,117,116,32,111,102,32,114,97,110,103,101]⟩))
 |4=>(.const (.string ⟨#[97]⟩))
 |5=>(.const (.int .i64 300))
 |6=>(.const (.int .i64 50))
 | _=>(.func 47)
def Ji:Nat->Operand
 |0=>(.func 48)
 |1=>(.func 49)
 |2=>(.func 50)
 |3=>(.func 71)
 |4=>(.const (.int .i64 (-9223372036854775808)))
 |5=>(.const (.int .i64 9223372036854775807))
 |6=>(.func 84)
 | _=>(.func 85)
def Jj:Nat->Operand
 |0=>(.func 86)
 |1=>(.func 87)
 |2=>(.func 119)
 |3=>(.const (.int .i64 1000))
 |4=>(.const (.int .u64 9223372036854775807))
 |5=>(.const (.string ⟨#[116,104,101,32,114,101,115,117,108,116,32,111,102,32,40,108,101,110,40,120,41,32,42,32,99,111,117,110,116,41,32,111,118,101,114,102,108,111,119,115]⟩))
 |6=>(.const (.int .i32 97))
 | _=>(.const (.int .i32 122))
def Jk:Nat->Operand
 |0=>(.const (.int .i32 48))
 |1=>(.const (.int .i32 57))
 |2=>(.const (.int .i32 95))
 |3=>(.const (.int .u8 97))
 |4=>(.const (.int .u8 122))
 |5=>(.const (.int .u8 48))
 |6=>(.const (.int .u8 57))
 | _=>(.const (.int .u8 95))
def Jl:Nat->Operand
 |0=>(.const (.int .i64 17))
 |1=>(.const (.int .i64 22))
 |2=>(.const (.int .i64 65536))
 |3=>(.const (.int .u64 18446744073709551615))
 |4=>(.func 227)
 |5=>(.const (.int .i64 255))
 |6=>(.const (.int .i64 24))
 | _=>(.func 287)
def Jm:Nat->Operand
 |0=>(.func 288)
 |1=>(.const (.string ⟨#[]⟩))
 |2=>(.const (.int .u64 4294967296))
 |3=>(.const (.int .u64 65536))
 |4=>(.const (.int .i64 (-6)))
 |5=>(.const (.int .i64 (-11)))
 |6=>(.const (.int .i64 (-25)))
 | _=>(.const (.int .i64 (-2)))
def Jn:Nat->Operand
 |0=>(.const (.int .i64 (-13)))
 |1=>(.const (.int .i64 (-22)))
 |2=>(.const (.int .u64 7))
 |3=>(.const (.int .u64 18))
 |4=>(.const (.int .u32 8))
 |5=>(.const (.int .u64 17))
 |6=>(.const (.int .u64 19))
 | _=>(.const (.int .u32 1024))
def Jo:Nat->Operand
 |0=>(.const (.int .u32 4294967295))
 |1=>(.const (.int .u64 6))
 |2=>(.const (.int .u64 11))
 |3=>(.const (.int .u64 25))
 |4=>(.const (.int .u64 13))
 |5=>(.const (.int .u64 22))
 |6=>(.const .nilFunc)
 | _=>(.const (.int .i64 (-7)))
def Jp:Nat->Operand
 |0=>(.const (.int .i64 (-18)))
 |1=>(.const (.int .u64 3))
 |2=>(.const (.int .i64 (-17)))
 |3=>(.const (.int .i64 (-19)))
 |4=>(.const (.int .u64 10))
 |5=>(.const (.int .u64 31))
 | _=>(.const (.int .i64 63))
def Jq (a:Nat):Operand:=
 match a/8%8 with
 |0=>J2 (a%8)
 |1=>J3 (a%8)
 |2=>J4 (a%8)
 |3=>J5 (a%8)
 |4=>J6 (a%8)
 |5=>J7 (a%8)
 |6=>J8 (a%8)
 | _=>J9 (a%8)
def Jr (a:Nat):Operand:=
 match a/8%8 with
 |0=>Ja (a%8)
 |1=>Jb (a%8)
 |2=>Jc (a%8)
 |3=>Jd (a%8)
 |4=>Je (a%8)
 |5=>Jf (a%8)
 |6=>Jg (a%8)
 | _=>Jh (a%8)
def Js (a:Nat):Operand:=
 match a/8%8 with
 |0=>Ji (a%8)
 |1=>Jj (a%8)
 |2=>Jk (a%8)
 |3=>Jl (a%8)
 |4=>Jm (a%8)
 |5=>Jn (a%8)
 |6=>Jo (a%8)
 | _=>Jp (a%8)
def Bb (a:Nat):Operand:=
 match a/64 with
 |0=>Jq a
 |1=>Jr a
 | _=>Js a
def Jt:Nat->cb
 |0=> .ko
 |1=>(.ki 87 (.tmp 0))
 |2=>(.jG 1 32 (.tmp 5) none none)
 |3=>(.eqv true [(2,(.int .u64))] (.tmp 36) (.tmp 37))
 |4=>(.kn (.tmp 6))
 |5=>(.mD (.tmp 7))
 |6=>(.lJ (.tmp 13) (.tmp 14))
 | _=>(.eqv false [(32,(.int .u8))] (.tmp 6) (.tmp 8))
def Ju:Nat->cb
 |0=>(.eqv false [(2,(.int .u64))] (.tmp 6) (.tmp 7))
 |1=>(.lN true [(32,(.int .u8))] (.J [] .nil) (.tmp 12) (.tmp 13))
 |2=>(.ki 77 (.tmp 1))
 |3=>(.jG 1 32 (.tmp 3) none none)
 |4=>(.kk 1 32 (.tmp 59) none none true)
 |5=>(.q3 false 1 8 (.tmp 50) (.tmp 51))
 |6=>(.kk 1 32 (.tmp 3) none none false)
 | _=>(.mA 1 (.tmp 11) (.tmp 12))
def Jv:Nat->cb
 |0=>(.lJ (.const (.string ⟨#[0,1,2,2,3,3,3,3,4,4,4,4,4,4,4,4,5,5,5,5,5,5,5,5,5,5,5,5,5,5,5,5,6,6,6,6,6,6,6,6,6,6,6,6,6,6,6,6,6,6,6,6,6,6,6,6,6,6,6,6,6,6,6,6,7,7,7,7,7,7,7,7,7,7,7,7,7,7,7,7,7,7,7,7,7,7,7,7,7,7,7,7,7,7,7,7,7,7,7,7,7,7,7,7,7,7,7,7,7,7,7,7,7,7,7,7,7,7,7,7,7,7,7,7,7,7,7,7,8,8,8,8,8,8,8,8,8,8,8,8,8,8,8,8,8,8,8,8,8,8,8,8,8,8,8,8,8,8,8,8,8,8,8,8,8,8,8,8,8,8,8,8,8,8,8,8,8,8,8,8,8,8,8,8,8,8,8,8,8,8,8,8,8,8,8,8,8,8,8,8,8,8,8,8,8,8,8,8,8,8,8,8,8,8,8,8,8,8,8,8,8,8,8,8,8,8,8,8,8,8,8,8,8,8,8,8,8,8,8,8,8,8,8,8,8,8,8,8,8,8,8,8,8,8,8,8]⟩)) (.tmp 21))
 |1=>(.lN true [(32,(.int .u8))] (.J [] .nil) (.tmp 14) (.tmp 15))
 | _=>(.lO [(32,(.int .u8))] (.tmp 25) (.tmp 26) (.tmp 28))
def Jw (a:Nat):cb:=
 match a/8 with
 |0=>Jt (a%8)
 |1=>Ju (a%8)
 | _=>Jv (a%8)
def Jx (a:Nat):Nat:=if 96<a then a - 97 else if 64<a then a - 39 else if 47<a then a+4 else a+26
def Jy (a:List iw) (b:Nat):iw:=a.getD b []
variable{b0:Type}
section
def da (k:List Nat) (b:Nat->List Nat->b0):b0:=
 match k with
 |c::a=>if c<69 then b c a else if c=69 then(match a with|d::h::a=>b (d*71+h) a| _=>b 0 [])else(match a with|d::h::o::a=>b ((d*71+h)*71+o) a| _=>b 0 [])
 | []=>b 0 []
def Jz (a b:Nat) (c:Operand->List Nat->b0) (d:List Nat):b0:=
 match a - b with
 |h=>c (.tmp h) d
def bK (h:Nat) (k:List Nat) (b:Operand->List Nat->b0):b0:=
 match k with
 |c::a=>if c<20 then b (.tmp c) a else if c<36 then Jz h (c - 20) b a else if c<70 then b (Bb (c - 36)) a else da a λd a=>if d<1000 then b (.tmp d) a else b (Bb (d - 1000)) a
 | []=>b J1 []
def iY (b:List Nat) (a:Nat->List Nat->b0):b0:=
 match b with
 |c::d=>a c d
 | []=>a 0 []
def wA (a:List Nat) (b:Bool->List Nat->b0):b0:=iY a λc a=>if c=0 then b false a else b true a
def rQ (b:List iw) (a:List Nat) (c:iw->List Nat->b0):b0:=iY a λd a=>c (Jy b d) a
def p1 {c:Type} (d:List Nat->(c->List Nat->b0)->b0):Nat->List Nat->(List c->List Nat->b0)->b0
 |0,a,b=>b [] a
 |h+1,a,b=>d a λk a=>p1 d h a λo a=>b (k::o) a
def ql (b:Nat) (a:List Nat) (c:List Operand->List Nat->b0):b0:=iY a λd a=>p1 (bK b) d a c
def rR (c:Nat) (a:List Nat) (b:Option Operand->List Nat->b0):b0:=iY a λd a=>if d=0 then b none a else bK c a λh a=>b (some h) a
def JA (b:Nat) (a:List Nat) (c:Nat×Nat×Operand->List Nat->b0):b0:=da a λd a=>da a λh a=>bK b a λk a=>c (d,h,k) a
def JB (b:Nat) (a:List Nat) (c:List (Nat×Nat×Operand)->List Nat->b0):b0:=iY a λd a=>p1 (JA b) d a c
def JC (a:List Nat) (b:UnOp->List Nat->b0):b0:=iY a λc a=>b (match c with|0=> .neg|1=> .xor|2=> .not| _=> .plus) a
def Bc (a:List Nat) (b:IntKind->List Nat->b0):b0:=iY a λc a=>b (match c with|0=> .i8|1=> .i16|2=> .i32|3=> .i64|4=> .u8|5=> .u16|6=> .u32| _=> .u64) a
def JD (a:List Nat) (b:dk->List Nat->b0):b0:=da a λc a=>iY a λd a=>p1 da d a λh a=>iY a λk a=>p1 da k a λo a=>b ⟨c,h,o⟩ a
def JE (a:List Nat) (b:Nat×Option (Bool×Nat)->List Nat->b0):b0:=da a λc a=>iY a λd a=>if d=0 then b (c,none) a else da a λh a=>b (c,some (if d=1 then false else true,h)) a
end
def JF (k:List iw) (c:Nat):Nat->List Nat->cb×List Nat
 |0=>λa=>bK c a λb a=>(.fc b,a)
 |1=>λa=>bK c a λb a=>(.load false 1 b,a)
 |2=>λa=>da a λb a=>bK c a λd a=>(.kZ b d,a)
 |3=>λa=>da a λb a=>ql c a λd a=>(.fZ b d,a)
 |4=>λa=>da a λb a=>bK c a λd a=>(.load true b d,a)
 |5=>λa=>da a λb a=>bK c a λd a=>bK c a λh a=>(.store b d h,a)
 |6=>λa=>bK c a λb a=>(.len b,a)
 | _=>λa=>da a λb a=>bK c a λd a=>bK c a λh a=>(.dM b d h,a)
def JG (h:List iw) (d:Nat):Nat->List Nat->cb×List Nat
 |0=>λa=>bK d a λb a=>da a λc a=>(.ext b c,a)
 |1=>λa=>bK d a λb a=>bK d a λc a=>(.bin .add b c,a)
 |2=>λa=>bK d a λb a=>(.q1 b,a)
 |3=>λa=>bK d a λb a=>bK d a λc a=>bK d a λk a=>(.pick b c k,a)
 |4=>λa=>da a λb a=>bK d a λc a=>(.box b c,a)
 |5=>λa=>bK d a λb a=>bK d a λc a=>(.bin .lss b c,a)
 |6=>λa=>bK d a λb a=>bK d a λc a=>(.bin .eql b c,a)
 | _=>λa=>da a λb a=>rQ h a λc a=>(.alloc b c,a)
def JH (o:List iw) (d:Nat):Nat->List Nat->cb×List Nat
 |0=>λa=>rQ o a λb a=>JB d a λc a=>(.lK b c,a)
 |1=>λa=>JC a λb a=>bK d a λc a=>(.un b c,a)
 |2=>λa=>bK d a λb a=>bK d a λc a=>(.bin .neq b c,a)
 |3=>λa=>da a λb a=>bK d a λc a=>rR d a λh a=>rR d a λk a=>rR d a λp a=>(.lP b c h k p,a)
 |4=>λa=>da a λb a=>ql d a λc a=>(.kj b c,a)
 |5=>λa=>Bc a λb a=>bK d a λc a=>(.iR b c,a)
 |6=>λa=>da a λb a=>da a λc a=>bK d a λh a=>bK d a λk a=>(.lM b c h k,a)
 | _=>λa=>da a λb a=>da a λc a=>bK d a λh a=>bK d a λk a=>(.app b c h k,a)
def JI (o:List iw) (b:Nat):Nat->List Nat->cb×List Nat
 |0=>λa=>bK b a λc a=>bK b a λd a=>(.bin .gtr c d,a)
 |1=>λa=>da a λc a=>da a λd a=>bK b a λh a=>bK b a λk a=>(.q2 c d h k,a)
 |2=>λa=>bK b a λc a=>bK b a λd a=>(.bin .sub c d,a)
 |3=>λa=>da a λc a=>ql b a λd a=>(.km c d,a)
 |4=>λa=>bK b a λc a=>bK b a λd a=>(.bin .geq c d,a)
 |5=>λa=>bK b a λc a=>bK b a λd a=>(.bin .xor c d,a)
 |6=>λa=>bK b a λc a=>bK b a λd a=>(.bin .mul c d,a)
 | _=>λa=>da a λc a=>bK b a λd a=>rR b a λh a=>rR b a λk a=>(.oT c d h k,a)
def JJ (k:List iw) (b:Nat):Nat->List Nat->cb×List Nat
 |0=>λa=>bK b a λc a=>bK b a λd a=>(.bin .shr c d,a)
 |1=>λa=>da a λc a=>bK b a λd a=>bK b a λh a=>(.mG c d h,a)
 |2=>λa=>bK b a λc a=>bK b a λd a=>(.bin .leq c d,a)
 |3=>λa=>da a λc a=>ql b a λd a=>ql b a λh a=>(.bH c d h,a)
 |4=>λa=>bK b a λc a=>bK b a λd a=>(.bin .rem c d,a)
 |5=>λa=>bK b a λc a=>ql b a λd a=>(.iS c d,a)
 |6=>λa=>bK b a λc a=>bK b a λd a=>(.bin .quo c d,a)
 | _=>λa=>bK b a λc a=>bK b a λd a=>(.bin .and c d,a)
def JK (o:List iw) (c:Nat):Nat->List Nat->cb×List Nat
 |0=>λa=>wA a λb a=>Bc a λd a=>bK c a λh a=>bK c a λk a=>(.lL b d h k,a)
 |1=>λa=>wA a λb a=>bK c a λd a=>bK c a λh a=>(.q5 b d h,a)
 |2=>λa=>wA a λb a=>bK c a λd a=>(.mB b d,a)
 |3=>λa=>bK c a λb a=>bK c a λd a=>(.bin .shl b d,a)
 |4=>λa=>bK c a λb a=>bK c a λd a=>(.bin .or b d,a)
 |5=>λa=>bK c a λb a=>(.q4 b,a)
 |6=>λa=>bK c a λb a=>(.mE b,a)
 | _=>λa=>da a λb a=>bK c a λd a=>(.q8 b d,a)
def JL (k:List iw) (c:Nat):Nat->List Nat->cb×List Nat
 |0=>λa=>bK c a λb a=>(.mC b,a)
 |1=>λa=>bK c a λb a=>(.q6 b,a)
 |2=>λa=>da a λb a=>da a λd a=>rQ k a λh a=>bK c a λo a=>bK c a λp a=>(.mH b d h o p,a)
 |3=>λa=>bK c a λb a=>bK c a λd a=>(.mI b d,a)
 |4=>λa=>bK c a λb a=>(.q7 b,a)
 |5=>λa=>da a λb a=>rQ k a λd a=>bK c a λh a=>(.mF b d h,a)
 |6=>λa=>da a λb a=>da a λd a=>rQ k a λh a=>bK c a λo a=>bK c a λp a=>(.kl b d h o p,a)
 | _=>λa=>da a λr a=>(Jw r,a)
def Be (b:List iw) (c:Nat) (a:Nat):List Nat->cb×List Nat:=
 match a/8 with
 |0=>JF b c (a%8)
 |1=>JG b c (a%8)
 |2=>JH b c (a%8)
 |3=>JI b c (a%8)
 |4=>JJ b c (a%8)
 |5=>JK b c (a%8)
 | _=>JL b c (a%8)
def nR (c:List iw):Nat->Nat->Option (Nat×Bool)->List Nat->List c7×Nat×List Nat
 |0,b,_,a=>([],b,a)
 |p+1,b,d,a=>iY a λh a=>
  if h<56 then match Be c b h a with|(r,a)=>match nR c p (b+1) d a with|(k,o,a)=>(⟨some (b+1),r,d⟩::k,o,a)
  else if h=56 then da a λx a=>iY a λh a=>match Be c b h a with|(r,a)=>match x with
   |0=>match nR c p b d a with|(k,o,a)=>(⟨none,r,d⟩::k,o,a)
   |x+1=>match nR c p x d a with|(k,o,a)=>(⟨some x,r,d⟩::k,o,a)
  else if h=57 then([],b,a)
  else da a λy a=>nR c p b (if y=0 then none else some (y/2 - 1,if y%2=1 then true else false)) a
def nS (c:List iw):Nat->Nat->List Nat->dN×Nat×List Nat
 |0,b,a=>(.skip,b,a)
 |d+1,b,a=>iY a λr a=>match r with
  |0=>(.skip,b,a)
  |1=>match nR c d b none a with|(h,b,a)=>(.plain h,b,a)
  |2=>match nR c d b none a with|(h,b,a)=>(.draw h ((List.range h.length).map bh),b,a)
  |3=>match nS c d b a with|(k,b,a)=>match nS c d b a with|(o,b,a)=>(.seq k o,b,a)
  |4=>bK b a λx a=>match nS c d b a with|(k,b,a)=>match nS c d b a with|(o,b,a)=>(.cond x k o,b,a)
  |5=>da a λp a=>match nS c d b a with|(k,b,a)=>(.block p k,b,a)
  |6=>match nS c d b a with|(k,b,a)=>(.loop k,b,a)
  |7=>da a λp a=>(.exit p,b,a)
  |8=>(.ret,b,a)
  |9=>(.refuse,b,a)
  |10=>match nR c d b none a with|(h,b,a)=>da a λy a=>p1 JD y a λz a=>(.draw h z,b,a)
  | _=>match nR c d b none a with|(h,b,a)=>match nS c d b a with|(o,b,a)=>(.seq (.plain h) o,b,a)
def JM (h:List iw) (b:List Char):ao:=
 da (b.map λc=>Jx c.toNat) λk a=>da a λd a=>iY a λb a=>p1 JE b a λo a=>match nS h 999 d a with|(c,_,_)=>⟨k,d,c,o⟩
abbrev au (a b:Nat) (c:ao):Prop:=dw Tryz.prog a b=some c
variable{e i v M c0 j0:Nat}
def av {a:ao} (b:dw Tryz.prog e i=some a:=by kernel_rfl):au e i a:=b
abbrev aw (m:String) {a:List Char}{b:List R->List R->List R->List R->List R->List R->List R->List R->List R->List R->List R->List R->List R->List R->List R->List R->List R->List R->List R->List R->List R->List R->List R->List R->List R->List R->List R->ao} (_:String.ofList a=m:=by rfl) (_: ∀c d h k o p r x y z C D E F G L P S T V W e f g i j l:List R,JM [c,d,h,k,o,p,r,x,y,z,C,D,E,F,G,L,P,S,T,V,W,e,f,g,i,j,l] a=b c d h k o p r x y z C D E F G L P S T V W e f g i j l:=by intros;conv=>lhs;cbv):ao:=
 b (((List.replicate 32 (.v (.int .u8 0))):List R)++([(.J [] .nil),(.J [] .nil)]:List R)++([(.v (.int .i64 0)),(.v (.int .i64 0))]:List R)++([(.J [] .nil)]:List R)) [(.J [] .nil),(.J [] .nil)] [(.v (.int .u8 0)),(.J [] .nil),(.J [] .nil)] (([(.v (.string ⟨#[]⟩))]:List R)++([(.J [] .nil)]:List R)++((List.replicate 32 (.v (.int .u8 0))):List R)++([(.J [] .nil),(.J [] .nil)]:List R)++([(.v (.int .i64 0)),(.v (.int .i64 0))]:List R)++([(.J [] .nil)]:List R)++((List.replicate 32 (.v (.int .u8 0))):List R)++([(.J [] .nil),(.J [] .nil)]:List R)++([(.v (.int .i64 0)),(.v (.int .i64 0))]:List R)++([(.J [] .nil)]:List R)) (List.replicate 32 (.v (.int .u8 0))) [(.v (.int .u64 0)),(.v (.int .u64 0))] [(.J [] .nil),(.v (.bool false))] [(.v (.bool false)),(.J [] .nil),(.J [] .nil)] [(.v (.int .u8 0)),(.v (.string ⟨#[]⟩)),(.J [] .nil),(.J [] .nil)] [(.J [] .nil),(.v (.int .i64 0))] [(.v (.pointer none)),(.v (.int .i64 0))] (List.replicate 8 (.v (.int .u32 0))) (List.replicate 64 (.v (.int .u32 0))) [(.J [] .nil)] [(.J [] .nil),(.v (.bool false)),(.v (.pointer none)),(.v (.pointer none))] [(.v (.pointer none)),(.J [] .nil)] [(.v (.string ⟨#[]⟩)),(.J [] .nil),(.J [] .nil),(.v (.pointer none)),(.v (.pointer none))] (List.replicate 5 (.v .nilFunc)) (((List.replicate 32 (.v (.int .u8 0))):List R)++([(.J [] .nil),(.J [] .nil)]:List R)++([(.v (.int .i64 0)),(.v (.int .i64 0))]:List R)++([(.J [] .nil)]:List R)++([(.v (.int .u64 0)),(.v (.int .u64 0))]:List R)++([(.v (.int .i64 0)),(.v (.int .i64 0))]:List R)) [(.v (.int .i64 0))] [(.J [] .nil),(.J [] .nil),(.v (.int .u8 0)),(.v (.int .i64 0)),(.J [] .nil),(.v (.int .i64 0)),(.v (.bool false))] [(.v (.int .u8 0)),(.v (.int .i64 0)),(.J [] .nil)] [(.v (.pointer none)),(.J [] .nil),(.J [] .nil),(.v (.int .u8 0)),(.v (.int .i64 0)),(.J [] .nil),(.v (.int .i64 0)),(.v (.bool false)),(.v (.int .i64 0)),(.J [] .nil),(.v (.int .i64 0)),(.v (.int .i64 0)),(.v (.int .i64 0)),(.J [] .nil)] [(.v (.map none)),(.J [] .nil),(.J [] .nil),(.v (.bool false))] (((List.replicate 8 (.v (.int .u32 0))):List R)++([(.J [] .nil)]:List R)++([(.v (.int .u64 0))]:List R)) [(.v (.int .u8 0))] [(.v (.int .u32 0))]
def JN:ao:=aw "Xcbeal4faL5dl4kdiarcj5ekl4faL5iadl4maadjblam6Cabdjbo6alnOpaq6Kabgsyt,+oR6alrOu5eul4faO5ial4yaadkbu4xau4Aiuaixb4gava,A5dl4CafPauP5eul4faO5ial4EafabdIcvuagabdJcvu4iaxa,I5l4Kafdwbuau6+bfahaiovuau6+boafdybuagdzbudxcwu6+bflzuL6alEOu4fau5i"
def JO:au 0 6 JN:=av
def wB:ao:=aw "+bnabaal4baL5l4ndDa4cam5dl4oabPanP5eol4baL5ial4qabubb,+p7qidabVbb6cbqducpr4das5l4uabubcM<qidabUbb6dbuductu4eau5l4yabubcM4qidabUbb6dbuducwu4fau5l4CabubdSWRqidabUbb6dbuducwu4gau5l4GabubcM4qidab*bb6dbuducwu4hau5l4LabdBcu64Kau4Niuaixb4iava,N5l4PabqicabTbb6ducvu4kau5l4TabdBcu64Sau4Viuaixb4lava,V5l4XacouKau6+bGadouK6alwuLau6+bOaeouQ6alwuLau6+bWafou46alwuLau6+b4agou56alwuLau6+b<aiouK6alwuLau6+cbahubcM<ubbudCcwu6alyuLau6+cnajouK6alwuLau6+cvalouW6alwuL4bau5i"
def JP:au 0 8 wB:=av
def JQ:ao:=aw "7bbcalaL5dl4gaagfyg,+p85ehl4daO5iadlaK5fagdl4jadaagjnik5elahadfbdl4paaadheopcbqbrTsyt,+oSau6Saaadhevuccubuguyu,+oT6alBOuau6:aaadhevucdubuguyu,+p96alBOu5eul4daO5ial4faK5fcgdl4OaeaaadhevuccubugunAu5euahcdfdl4YaaadhevuccubuaehbvubuTuyu,+oS5eul4daO5iab4WaejuM4fau5b4nadjmM4ean5l4daL5i"
def JR:au 0 9 JQ:=av
def JS:ao:=aw "KbccadalaPaP5l4idDaqnam2i4fahaj5dlaK5fagdl4lagaaglnkman6Fagnp,+oR6aloqL5erahadfbl4vaeaaaghevueeuducyu5bafaaaghevueeudvcyu5b4tagjsM4hat5dl4Haedwbu5eul4daPaP5ial4Jaeaf4dava,J5i"
def JT:au 0 10 JS:=av
def JU:ao:=aw "=ddgahaial4haNaLaK5l4raakqcbrbsabdLctu4qau4xipaipb4kp+bsd4af+bfj,wa,x5dl4zakrcu5eul4haNaLaW5ial4Be+bfjdNbudObu4mpAb4afcl,C5dk4EcalbucblbuacachbyK4afbuwhbxK4afbuw5kaaabaacaadaaeaafaagaahabdiaajaadk4NaakucaubuccjeLueclqucacufbMe+bfjdNbudMeAywu4Mau4YiuaiGbiHc4npNj4afcm,Xa,Ya,Z5taaabaacaadaaeaafaagaahaaiaajbpddfgkbpalaamaanaaoaapaaqaaraasaadl41aosuKau6+bNcambuguouK6alyOu5eulao4haNaLa,85ial4:cambuhbuKbu4hauaOaK5i"
def JV:au 0 12 JU:=av
def JW:ao:=aw "Ccbeal4faK5dlaK5fagdlafaakhcaibjgkngl5emahadfbl4qaakpcaqbrafhbstbukucaubuabovu5eulaf4fau5iab4oafjnM4gao5l4faX5i"
def JX:au 0 13 JW:=av
def JY:ao:=aw "Acbeal4faL5dl4haaggabgishj5ekl4faL5iadlaK5fagdl4mafaagmnln5eoahadfbdc4saaafhbrsbtabafhbvubusyu5eul4faL5iab4qafjpM4gaq5l4faO5i"
def JZ:au 0 14 JY:=av
def K0:ao:=aw "obbcalaP5dkaakdcaebfaakhcbibjdTbkqpcabgbblm+bxm4dan5maaabaacaadaaeaafaagaahaaiabdjaakaalaai"
def K1:au 0 18 K0:=av
def K2:ao:=aw "4bbcalaP5l4hqnam2g4eah5dlaK5fagdl4jaeaakjcakblgmnin5eoahadfbl4saakrcasbtaehbvubu4gau5c4zadadkucaubuafkucaubuafkucbubuafkuccubuafkucdubuafkuceubuqqfab,GbbGcbCdbyebumYuubbuxbi,Cuk,ycau4afbuw5b4qaejpM4faq5l44ad4dau5i"
def K3:au 0 19 K2:=av
def K4:ao:=aw "rcbealm<baK5dl4heeddUbgrch5eil4faM5ial4kqrebb,+p:cb,+p;db,+p<eb,+p=4gp+bJr4afffj5dc4lcadbkzbfflbmaaeedLncop4faq5i"
def K5:au 0 20 K4:=av
def K6:ao:=aw "+edcbealm<baK5dl4teeddZbsrct5eul4faM5ial4waacbdbudncwu4gau5dl4AcadbuouV5eudlafCuK5eul4faR5iadl4Faakucaubuguyu75eul4fa:5ial4haN5laL5dk4LcbdbuubaccdbuxbqwuqqcabybbumYu4jau5jaaabaadaaeaacaafabbgaahaaiaadlaK5fagdl4Tajaakucaubugunzu5euahadfbddc42ahrcuau6+bQaikucaubuaakucaubuajhbvubukucaubunEu6alJuL5eulagaiubbuxbiwu4hau5baO5ab4+bgagaakucaubuajhbvubuubbuxbiCu4hau5b40ajjuM4kau5dl4+bqahrcu5eubagaiubbuxbiwu4hau5al4+bwaaagkvcau4afbuw5l4faK5iadl4+bAafnuK5eul4faW5iadl4+bCcadbuouT5eul4laN5dlaK5fcgdl4+bFalaakucaubugunzu5euahcdfdl4+bOalafsvu5eubakaakucaubualhbvubuubbuxbiCu4lau5ab4+bMaljuM4mau5l4+b1aaakkvcau4afbuw5l4faK5ial4+b5aakucaubuafhbvubu4nau5ddc4+b<cddbuguamkucbubugujuMsAu5eul4fa45ial4oaN5laL5dlaK5fegdl4+cdapamkuccubugunzu5euahedffddc4+cmamkuccubuaphbvubuhbuKbucddbuhbuKbuoyu5eudlcadbuouU5eul4faQ5iadc4+cDamkuccubuaphbvubucddbudocwu5eul4paO5hfaab4+cNanamkuccubuaphbvubuubbuxbyCu4oau5b4+ckapjuM4qau5dc4+cXamkucaubuamkucbubuqqcabybbumYu4rau5dl4+c7cadbuou*5eudlaorcu5eul4fa55ial4+c<aqankvccu4afbuw5dc4+c+aqamkucdubucddbud0cwu4+c*au4+dgiuaiDbkDcdu4afbux5c4+dlaqamkuceubucddbud1cwu4+dkau4+dtiuaiDbkDceu4afbux5laqqvaanubacddbuxbiwuubbuxbyzudScBukDccu4afbuw5dc4+dKaqamkucdubucddbud2dwuK4+dJau4+dSiuaiDbkDcdu4afbux5c4+dXaqamkuceubucddbud3cwu4+dWau4+d5iuaiDbkDceu4afbux5lBbaaakucaubuwbiyu4sau5l4+d?arafaqhbwv4afbuv5laaarkvcau4afbuw5l4faK5i"
def K7:au 0 21 K6:=av
def K8:ao:=aw "obbcalaL5l4iaadAbhd4bi4haj4ligaigbigc4eakalam5l4oaf4dan5i"
def K9:au 0 22 K8:=av
def Ka:ao:=aw "Bcbeal4faL5dl4haaggabgishj5ekl4faL5iadlaK5fagdl4mafaagmnln5eoahadfbdc4saaafh+bfrse+bftabafh+bfvue+bfud5cyurcu5eul4faL5iab4qafjpM4gaq5l4faO5i"
def Kb:au 1 23 Ka:=av
def Kc:ao:=aw "vbbcalaN5l4jaakicbjbkd6bl4iam4oihaihb4eanao5l4radd7bq4qar4tipaipb4gasat5l4vaf4dau5i"
def Kd:au 0 24 Kc:=av
def Ke:ao:=aw "TbbcalaN5laN5dlaK5fagdl4haeaakhcaibjgkngl5emahadfbl4qaakpcaqbraehbstbu4gau5k4xadafkucaubuafkucbubuafkucdubud8buafkuceubud9buqdeabIbbEcLzNLuu+bfbux+bf+d?,wu4eau5xaaabaacaadaaeaafaagaahaaiaajaakaalaamaaoaapaaqaaraanadeirsaceitaauaavaawaab4oaejnM4fao5l4Tad4dau5i"
def Kf:au 0 25 Ke:=av
def Kg:ao:=aw "hbbcalaP5laakdcaebf4dag5i"
def Kh:au 0 26 Kg:=av
def Ki:ao:=aw "Ecceafal4faNaK5l4kaakjcbkblabdLcmn4jao4qiiaiib4hp+bsd4af+bfgpaq5dl4sahrcr5esl4faNaW5iadk4uaaktcaubuccgeLue+bfgdNbud:dywuiuaivb4fava,D5naaabaacaadaaeaafaagaahacdfiaajaakaalaamaai"
def Kj:au 0 27 Ki:=av
def Kk:ao:=aw "Bcbeal4faL5dl4haaggabgishj5ekl4faL5iadlaK5fagdl4mafaagmnln5eoahadfbdc4saaafhbrsbtabafhbvubudocyurcu5eul4faL5iab4qafjpM4gaq5l4faO5i"
def Kl:au 0 28 Kk:=av
def Km:ao:=aw "eabaal4baP5ld;aqpbabbm+bxc4bad5i"
def Kn:au 0 29 Km:=av
def Ko:ao:=aw "Fcbeal4faK5l4kaadsbj4gak5dl4mabglaK5faglnnm5deoahadfblhelneep4ip<i4afehq5l4safeehducrs4jat5l4vaisuK5eulai4fau5iab4yjnM4oau5l4zaaafkucbubukycbu4afbuw5l4faK5i"
def Kp:au 0 34 Ko:=av
def Kq:ao:=aw "Gcbeal4faK5l4jaadtbi4gaj5dlaK5fagdl4lagabglnkm5enahadfbl4rafabagherseetdvcqu4iau5l4xahsuK5eulah4fau5iab4pagjoM4hap5l4Aaaafkucaubukycau4afbuw5l4faK5i"
def Kr:au 0 35 Kq:=av
def Ks:ao:=aw "vccec+bffal4fp+bsdaL5dl4jaagiaK5faglnkj5delahadfblh+bfike+bfm4ip+bsd4af+bfhn5l4pcahboabopq5erle+bfh4af+bfes4gaO5iab4ujkM4lat5l4vqda4af+bfeu4gaL5i"
def Kt:au 0 37 Ks:=av
def Ku:ao:=aw "+bQediccjakalm+bqbmEc4jpNjaKaK5dl4uehgadd*cturcu5eulqja4afciu4kaKaM5ial4zaaehgadqwdabwbhvibum+b4u4mau5dl4EaleLfd+a+cvu5fagdlalkucnubuguyuK5euahafblalkucnubud+a,cu,+p>5lalkucnubuhPuKcaueLu4np+bqa4afLm,X5l4ZalalkucnubutPubMaakzcnu4afbuw5dlaleLmd+bbcvu5euhbal4;aaeLmadd+bcdwvu4:au4?iuaizb4op+b+c4afdn,>a,?5dl4+a+aosuK5eulqja4afciu4kaKaZ5ial4+bbalkuclubujuMkyclu4afbuw5dlcbnbuguaK5fcglnuv5deuahcdfdlhcxvecu4rp+ccg4afcq,+bn5b4+bpalecqd+bdcvu5bjAM4+blau5l4+btccnbuguaK5feglnuv5deuahedfflhLxveLu4tp+bqa4afLs,+by5b4+bAaleLsd+a+cvu5bjAM4+bwau5dk4+bEalkucjubualkuckubuqjcabybbualkuclubu4afciy4kauaK5qaaabaacaadaaeaafaagaahaaiaajaakaalaamaanabmoaapaai"
def Kv:au 6 38 Ku:=av
def Kw:ao:=aw "hbbcal4cm+bsaaK5lcbbbdgejfM4dag5i"
def Kx:au 0 39 Kw:=av
def Ky:ao:=aw "rbbccclpAb5dlaandMae6maaygQ6alfOh5eilqba4afccj5ialubb,+p?aad+becklubb,+p*aad+becnoqbcabmbbp4afccq5i"
def Kz:au 0 40 Ky:=av
def KA:ao:=aw "Qcbeal4dmAa4faL5dl4habngMah6sabyjQ6aliOkal6Acacbngoabspq6almOras6Ocbcbuguabsvu6altOu5eul4faL5iadlaK5fagdl4Bafabnvu5euahadfbdc4Gcacbuafhbvubucbcbuafhbvubuyzu5eul4faL5iab4EafjuM4gau5l4faO5i"
def KB:au 0 41 KA:=av
def KC:ao:=aw "+bgcbeal4dmCa4faL5dlabnfMag6qabyiQ6alhOj5ekl4faL5iadl4mcacblom05enlcbcboopKaq6LcccbsgtouK6alruL4fau5iadl4ycacbuouVau62cacbuouT6alxOu5eulcbcbuyuKau6+a,cbcbuouKau6+bicacbuouT6+a,lxuL6alCOuau6+bucbcbuabAuMIwu6alzuLau6+bIcccbuguouK6alyuL4fau5ial46cacbuouUau6+b0cbcbuouK6alxuLau6+b:abyuM6alwuLau6+b,cccbuguabAuMowu6alAuL4fau5i"
def KD:au 0 42 KC:=av
def KE:ao:=aw "+blcbeal4dmCa4faN5laN5dlaK5fagdl4lagabglnkm5enahadfbdc4redcabaghbrsbtgudQcqurcuau6YabaghbvubuguabhbuKbugusyu6alEOu5eul4faN5iab4pagjoM4hap5dlaK5fcgdl4Lahabgunwu5euahcdfdl4jaN5laK5dfegddc4Rajafgunwuau6+byedcabahhbvubuafajhbvubud+bfdCyurcu6alFuL5euahefflaiafajhbvubuubbuxbyzu4jau5b4?ajjuM4kau5l4+a+aiabahhbvubuubbuxbyzu4jau5l4+bfaiafajFbvbuaxbyxu4jau5b4+bkai4gau5b4PahjuM4iau5l4+blaf4fau5i"
def KF:au 0 44 KE:=av
def KG:ao:=aw "ibbcalaN5dlaaQad5eel4daN5ial4gB+bfaaaw+bf+d?fg4dah5i"
def KH:au 6 45 KG:=av
def KI:ao:=aw "Zbbcal4cm<aaL5dlcbbbdd+bgbercf5egl4daL5iadl4icabbh5fal4loiV4kak5ejl4mccbbld+bhbman6FcdbbpgqorK6alosL4dat5il4woiT4vau5eul4xccbbuguouKau63cdbbuguouK6alyuL4dau5idl4IoiU4Hau5euab4Joi*4Hau5eul4KccbbuguouKau6+bkcdbbuguCuS6alyuLau6+bwcdbbuguIuQ6alyuL4dau5ial4daL5i"
def KJ:au 0 46 KI:=av
def KK:ao:=aw "Ccbealm<baK5dk4jaakicbjbkcbdbmccdbod+bjbpqdcabnbbqd+biclr4ias4uihaihb4gata,u5qaaabaacaadaaeaafaagaahaaiacdfjaakaalaamaanaaoaapaadl4wagouK5eubaaafkvcbu4afbuw5alag4fau5i"
def KL:au 0 47 KK:=av
def KM:ao:=aw "ycbealm<baK5dc4jaakicbjbkcbdbmd+bkcln4iao4qihaihb4gapaq5dl4sagorK5esbaaafktcbu4afbuw5alag4fau5i"
def KN:au 0 48 KM:=av
def KO:ao:=aw "Pcbealm<baK5l4laaeedd+blckl4kam4oijaijb4gp+bsd4af+bffnao5dl4qagspK5eqlag4far5iadc4uaacbdbucddbuhbuKbudmdtyu4tau4Cisaisbisc4iawa,C4ha,D5dfal4GagsuK4Fau5eul4Iag4fau5il4Kai4Jau5eul4faQ5ial4Laae+bffcddbud+bmfxwu,+p+,+p,4fau5i"
def KP:au 0 49 KO:=av
def KQ:ao:=aw "vcbealm<baK5l4jaaeedd+blcij4iak4mihaihb4gp+bsd4af+bfflam5dl4oagsnK5eolag4fap5ial4raae+bffcddbsd+bmfqrt,+qa,+qb4fau5i"
def KR:au 0 50 KQ:=av
def KS:ao:=aw "+bGbbcal4cm<aaL5dl4gcbbbfd+brbgrch5eil4daL5iadl4kcabbjokV5eldl4eaK5fagdl4nadccbbngonmp5eqahadfbdl4uccbbtadhbvubud+brburcuau62ccbbuadhbvubuou,+oU6alAOu5eul4daL5ial4faK5fcgdl4Jaeadnvu5euahcdfddc4Occbbuaehbvubuccbbuadhbvubuozu5eul4daL5iab4MaejuM4fau5b4sadjrM4eas5l4ZccbbuguyuKau6+bOccbbugunuQ6alyuLau6+b0cdbbuguouK6alyuL4dau5iadl4?cabbuouT5eulccbbugucdbbugujxuouK4dau5ial4+bhcabbuouUau6+cucabbuou*6alxOuau6+cFccbbuguouK6alyuLau6+cRcdbbuguyuM6alyuLau6+c3cdbbugunu56alyuL4dau5i"
def KT:au 1 51 KS:=av
def KU:ao:=aw "Dcceafal4faPaL5l4kaaabd+bsdjkK4jal4niiaiib4haman5dl4pahao6Hagd+btbqgrESsagd+bubuntu6alpuL5eubagd+btbud+bvcuK4hau5al4Cagah4fava,C5i"
def KV:au 0 52 KU:=av
def KW:ao:=aw "Pcceafal4faPaL5dl4iaad+bxbhabd+bwcijrck5ellaa4famaL5ial4oaaabd+bycno4hap5dl4ragkqcbrbsgtouM5eulagkucbubuhbuKbu4fauaO5iaddc4DagkucbubuguagkucaubugujzuouK5eul4faPaO5ial4Pag4fauaO5i"
def KX:au 0 53 KW:=av
def KY:ao:=aw "+bvdcgahal4haPaL5dl4laaPakP5ellabqocabmbbOm+cyn4haoaO5iadc4qaakpcaqbraaktcbubuaakuccubuaakucdubuqoeabsbbCcbydbum+cyu4jau5dl4Iaakucaubuabdocvu5eulaikucbu4afbuO5dkaiacd+bzcvuaakucbuburcu4haza,X5kaaabaadaaeaafaagaahaacabgiaajaaial4kaL5ddc4ZabaakucaubuacabguKwud+bAdCyu5eub4:aiaakuccubuabacjuMd2dxwu49au4+baiuaiEbkEccu4afbux4kaw5b4+bfaiaakucdubuabacjuMd2dxwu4+beau4+boiuaiEbkEcdu4afbux4kaw5l4+bsaiacd+bzcvuaj4hava,+bu5i"
def Bf:au 0 54 KY:=av
def KZ:ao:=aw "vcceafal4faPaL5dlaaPagP5ehlabubbiqbbabjm+cwk4falaO5iadl4naad+bxbmabd+bwcno5eplaa4faqaL5ial4saaabd+bCcrsd+bBbt4fauaO5i"
def Bg:au 0 55 KZ:=av
def L0:ao:=aw "tbdcadaealaNaNaL5dkaakfcbgbhd+bDbiaakkcclbmd+bDbnaakpcdqbr4dajaoas5raaabaacaadaafaagaahaaiaakaalaamaanaaeacinjabnoaapaaqaai"
def L1:au 0 56 L0:=av
def L2:ao:=aw "2cbeal4dm+bsam+bsbaL5dl4hcacbgcadbishjak6ycbcbmgncbdbpgqsor6allOsat6QccceLuccdeLud+bEcwurcu6alAOuau66cNceLucNdeLud+bEcwurcu6alAOu5eul4faL5iadlaK5fagdl4Lafcbcbugunxu5euahadfbdc4Scbcbuafhbvubucbdbuafhbvubuszu5eul4faL5iab4QafjuM4gau5l4faO5i"
def L3:au 1 57 L2:=av
def L4:ao:=aw "9bccadalaNaK5dl4kaad+bFbjrck5ell4daNaM5ial4nqjam+cKm4fan5l4paeaagpveqd+bGcor5dlaagtaK5faglnuv5deuahadfblh+bftve+bfu4hp+bsd4af+bfg,y5l4Aaecagbu0ud+bHcxu5laecbgbuguveud+bGcyu5dlcbgbuguaK5fcglnuv5deuahcdfdlhbxvbu4jau5b4Saeai0ud+bHcwu5bjBM4Oau5l4XaeccgeLud+bIcwu5baecNgeLud+bIcwu5bj,vM4wau5l46aed+bJbuaed+bKbu4dawa,85i"
def L5:au 0 58 L4:=av
def L6:ao:=aw "NbccadalaNaK5l4jaad+bLbi4faj5laN5dl4laed+bMbkvdlOadm5aK5faglnon5depahadfbbafaed+bNbru+bfbsx+bf+d?qt4gau5b4wjoM4pau5dl4xaed+bObusuK5eul4daNaZ5iadl4Bafd6bu4Aau4Diuaixb4hava,D5l4FahsuKau6>agaad+bPcvurcu6alyOu5eul4daNaZ5ial4Naf4dauaK5i"
def L7:au 0 59 L6:=av
def L8:ao:=aw "pbbccLlp+bqa5dl4gaaPafP5eglqaa4afLch5ial4kaad+bRbjd+bQbk4jal4niiaiib4ep+bqa4afLdman5l4peLd4afLco5i"
def Bh:au 0 60 L8:=av
def L9:ao:=aw "pbbccLlp+bqa5dl4gaaPafP5eglqaa4afLch5ial4kaad+bSbjd+bQbk4jal4niiaiib4ep+bqa4afLdman5l4peLd4afLco5i"
def Bi:au 0 61 L9:=av
def La:ao:=aw "Bdcgahalm+bqb4haNaK5dl4lacd+bTckNrcl5eml4haNaM5ial4paaacqkcabobbpeLed+bUcqr4oas4uinainb4jata,u5dl4wajsuK5eulaj4haNa,x5ial4zaid+bVcu,+qc5lai4hauaK5i"
def Lb:au 6 62 La:=av
def Lc:ao:=aw "eabaal4baP5l3aqxbabbm+cFc4bad5i"
def Ld:au 0 63 Lc:=av
def Le:ao:=aw "6cbeal4dmEa4faL5dfal4habngMah6sabyjQ6aliOkal6Acacecnabd+b4coprcq6almOr4gas5efl4faL5il4vcgcbu4uau5etl4xcfcbuouKau61ccccaubuou06alyuLau6=ccccbubuouK6alyuLau6+bgcccccubuguouK6alzuL4fau5ial4Tccceduabd+b5cvuau6+bCcfcbuCuX6alxuLau6+bMcfcbuIu,+qd6alxuL4fau5i"
def Lf:au 6 68 Le:=av
def Lg:ao:=aw "+bCcalm+bqb5ddc4iaakhcbicgjbkal6BcIdbnyoK6almpLaq6LaakscbtcauecucGdecud+b6cwu6alruL5eucaakuckubucIdbujwukAcku4afbuw5addcaakucbuehueLdd+b7cvurcu5euialaakucmubujuMkycmu4afbuw5dceLdaakucmubuqscaLyObu4fp+b;s4afPe,35ddk46aakucbucauecucGdecud+b8cwu45au4>iuaiDb4gpAb4afcf,=a,>5oaaabaacaadaaeaafaagaahblaiaajaakaalaamaanaal4*agau6+b*aakucbucguburcu6alAuL5euc4+bhaakucbuccueduecfd+b9cvu4+bgau4+boiuaiCbiDccLe4afcuxcNe4afbux5acaaaakucnubuePeBPbuwP+ckwukBcnu4afbuw5"
def Lh:au 6 69 Lg:=av
def Li:ao:=aw "Fcbeal4dm+b;am+b;baK5dl4hcLcecgcLdecid+b;chj4gak5fal4nafsmK4man5ell4paf4fao5il4rcNcbqcNdbssrt4qau5epdl4wcNcbucNdbunwu5eul4faX5ial4faM5ial4BcOcbucOdbuAwu4fau5i"
def Lj:au 6 71 Li:=av
def Lk:ao:=aw ":cbealm+bqbaL5dc4haakgcbhcgibjrckal6BaakncbocfpbqCrK6almsLat6Raakucjubuguaakucbucfubuozu6alFuL4gau5dc4Iafau6+baaakucbucfubuouKau6+bnaakucbuehueLdaakucjubuaakucjubuguAuMhbAubud+b<dHGu6+bal,POu6al,IuL4fau5i"
def Ll:au 6 72 Lk:=av
def Lm:ao:=aw "Wdcgcdhalm+bqb4hp+b+caK5l4paacaeeGpd+b=coq4oar4tinainb4jasat5dl4vajsuK5eulqca4afdgu4iaZ5ial4zaiacd+b>cvu4yau4Ciuaiyb4lp+b+c4afdk,B4ka,C5dl4EajsuK5eulqca4afdgu4iaZ5iadl4Iedkacd+b?cvu4Hau4Liuaiyb4mp+bqa4afLl,Ka,L5l4NamsuKau6+bleLleLed+b*cvurcu6alyOu5eulqca4afdgu4iaZ5ial4Wedk4afdgu4iaK5i"
def Ln:au 0 73 Lm:=av
def Lo:ao:=aw "0calm+ccb5ddccbdbercfag6qaakicbjcakeclcadbnd+b+cmorcp6alhOq5eriadlaakscbtcgubu5eulaakuckubujuMkycku4afbuw5iakaaaakucbuccueduaakucjubucadbuBbbuwbyxud+cacCuaakucbuehud+b,cyuk,Ecju4afbuw5xaaabaacaadaaeaafaagaahaaiaajaakaalaapaaqaaraasaamaanacfsoabstaauaavaawaa"
def Lp:au 6 74 Lo:=av
def Lq:ao:=aw "Wcbeal4faN5dl4kabnjK5ekbVj,+oO4aWl5al4oaagnvhoabvhqd+cbcpr4nas4uimaimb4gata,u5dl4wafyu1au6Wagyu,+qe6alwOu5eubVj,+qf4aWu5alagvdu2bituu4iau5l4GahaaHbvu4jau5dfagdl4Jaiahgunwu5euahafbcaiahaitbvbuaaahaitbvabuaHbxujBu4jau5l4Wah4fau5i"
def Lr:au 6 75 Lq:=av
def Ls:ao:=aw "Xdbgal4emCa4haL5l4neddabd+cccmn4mao4qilailb4ip+b9f4afchpaq5l4teddacd+cccst4sau4wirairb4kp+b9f4afcj,va,w5dl4yaircuau60akrcu6alwOuau68abguacguswu6alzOu5eul4haL5iadl4Lechecj3d5eulechecjd+cdcvu4hau5iadc4RabhbuKbuachbuKbunxu4hau5i"
def Lt:au 0 76 Ls:=av
def Lu:ao:=aw "SbbcalaL5dl4haa3e5fagl3fiia5dejahafbliibiic4eakal5l4naeCm,+qgan6FaeIp,+qh6aloqL4gar5l4tafrcsat6RadouKau6Waenu,+qiau62aeyu,+qj6WlwOuau6;aesu,+qk6WlwuL6RlEOu6alIuL5eul4daL5ial4LaaTuCuMau6+bkaaTuIu26alxuL4dau5i"
def Lv:au 0 77 Lu:=av
def Lw:ao:=aw "JbbcalaL5dl4gaagfaK5faglnhg5deiahadfblahhbfhbk4eajal5l4naed+bgbmrcnao6Gaeoq,+oU6alpOras6OaaadFbvabuaed+cecvu6altOu5eul4daL5iab4BjhM4iau5l4CaaguCuMau6;aaguIu76alxuL4dau5i"
def Lx:au 0 78 Lw:=av
def Ly:ao:=aw "Jcceafalm+bsbaNaK5dl4jaad+bFbircjak6ye+bfdd+cfbmrcn6allOo5epl4faNaM5ial4saacadbsd+cgcrt4rau4wiqaiqb4hava,w5dfal4zah4yau5eul4faNaR5il4BaaguCuQ4Aau5eul4faNa:5iadk4EaadTbuage+bfdB+bfbud+chdxwu4fauaK5iaaacaadaabbebdeaafaagaahaai"
def Lz:au 6 79 Ly:=av
def LA:ao:=aw "ibbcalaN5dlaaQad5eel4daN5ial4gubaaaxbqfg4dah5i"
def LB:au 0 80 LA:=av
def LC:ao:=aw "zcceafal4faNaK5dl4jaad+bFbircj5ekl4faNaM5ial4naaabd+cgcmn4mao4qilailb4hapaq5dl4sahrcr5esl4faNaW5ial4uaadTbtagagjuMd+cidxwu4fauaK5i"
def LD:au 0 81 LC:=av
def LF:ao:=aw "Fccec+bffalm<bp+bsdaK5dk4kaakjcbkblcbdbndLcmo4jap4riiaiib4hp+bsd4af+bfgqar5naaabaacaadaaeaafaagbkahaaiaajaakaalaamaadfal4uahrct4tau5esl4we+bfg4af+bfeu4gaW5idk4ycddbugue+bfgdNbuswu4xau5haaabaacaadaaeabbfaagaaeul4Ee+bfg4af+bfeu4ga45ial4Fe+bfg4af+bfeu4gaK5i"
def LG:au 0 82 LF:=av
def LH:ao:=aw "+a,fbkalm+bsb4laK5l4re+bfgdNbq4mar5dk4uadaakucaubuccgeLuacalLteywvu4tau4Eisaisb4np+bqa4afLm,Da,E5qaaabaacaadaaeaafaagaahaaiaajbnakaalaamaanaaoaapaadl4GansuK5eulan4lau5iadk4KaeaakucaubucNgeLuacalLCeywvu4Jau4UiuaiFb4pp+bqa4afLo,T4oa,U5qaaabaacaadaaeaafaagaahaaiaajbnakaalaamaanaaoaapaadl4WansuK5eulan4lau5iadk4ZeLmeLoccg4afLuwcNg4afLuw5gaaabaacaadabbeaafaadc44aakucbubue+bfgd+cjcvu43au4:iuaiBb4qav4oa,:5dl4<anouK5eubaaapkvcbu4afbuw5alan4lau5i"
def LI:au 0 83 LH:=av
def LJ:ao:=aw "yecicLjalm+bqb4jp+bqaaK5dladacubbld+bTckmrcn5eolqaa4afLip4kaM5ial4raaadqkcabqbbreLfacd+ckestuKiuaivb4afLiv4kau5i"
def LK:au 0 84 LJ:=av
def LL:ao:=aw "UecicLjalm+bqb4jp+bqaaK5dl4oadacubbod+clcnprcq5erlqaa4afLis4kaM5ial4uaaadqkcabtbbu4lp+dok4afck,v5dl4xeLfd+cmbu5euleckacubbud+cncwuiuaivb4afLiv4kau5ial4GeckeLfacd+codwvu4Fau4Kiuaizb4mava,K5dl4MamsuK5eulqaaam4afLiv4kau5ial4Qeckald+cpcvuiuaivb4afLiv4kau5i"
def LM:au 0 85 LL:=av
def LN:ao:=aw "TecicLjalm+bqb4jp+bqaaK5dl4nadacubbnd+bTcmorcp5eqlqaa4afLir4kaM5ial4taaadqkcabsbbt4lp+cZk4afck,u5l4xeckeLfacd+cqewvuK4wau4Biuaizb4afLfv4mau5dl4DalouKau6;cIfbuESucJfbunwu6alAuL5euleckeLfd+crdvuKiuaivb4afLiv4kau5ial4SeLfal4afLiv4kau5i"
def LO:au 0 86 LN:=av
def LP:ao:=aw ">ecicLjalm+bqb4jp+bqaaK5dl4oadacubbod+clcnprcq5erlqaa4afLis4kaM5iadl4ueLfd+cmbt5eulqaa4afLiu4ka55ial4xaaadqkcabvbbu4lp+dok4afck,y5l4BeckeLfacd+csdwvu4Aau4Fiuaizb4mp+dvh4afdl,Ea,F5dfal4IamsuK4Hau5eul4Kqaaam4afLiv4kau5il4Ncalbuau6+bmcblbuguouK6alyuL4Mau5eul4Vqaa4afLiu4kaK5il4Xcalburcuau6+bIcclbuguouM6alyuL4Wau5eul46cclbuhLuKeLu4afLiu4kaK5ial4:eckedld+ctcvuiuaivb4afLiv4kau5i"
def LQ:au 0 87 LP:=av
def LR:ao:=aw "YbbcalaL5dlaK5fagdl4iadaaTinhj5ekahadfbl4oaaad3g4fap5l4raeCq,+qlar6NaeIt,+qm6alsuL4gau5l4xaeCu,+qnau6ZaeIu,+qo6alwuL4hau5l4Dafrcuau6;adouKau6*agrcuau6+beaesu,+qp6*lwuL6;lAOu6alEuL5eul4daL5iab4madjlM4eam5l4RaaTuyuKau6+bwaaTunu,+qq6alxuL4dau5i"
def LS:au 1 88 LR:=av
def LU:ao:=aw "+bndcgahal4haPaL5dl4laaPakP5ell4haPaL5iadc4naakmcanboaakqcbrbsaakuccubuaakucdubuqoeabpbbtcbydbum+cyu4jau5dl4Faakucaubuabdocvu5eulaikucbu4afbuL5dcaiaakucbubu4haya,R5ial4kaL5ddc4TabaakucaubuacabguKwud+bAdCyu5eub44aiaakuccubuabacjuMd+bsdxwu43au4=iuaiEbkEccu4afbux4kaw5b4+a,aiaakucdubuabacjuMd+bsdxwu4+a+au4+biiuaiEbkEcdu4afbux4kaw5l4+bmaiaj4hava,+bm5i"
def Bj:au 0 89 LU:=av
def LV:ao:=aw "DbbcalaN5dl4faaPaeP5efl4daN5iadk4haakgcchbid+btbjaaklcdmbnd+btboxbykp4eaq5maaabaacaadaafaagaahaaiaaeabijaakaalaadl4saakrcbsbt5eubadaakucaubuubbuxbyzu4eau5al4Dad4dau5i"
def Bk:au 0 90 LV:=av
def LW:ao:=aw "rbbcalaK5dlaaPadP5eel4daK5iadk4gaakfccgbhd+bubijMjaaklcdmbnd+bubojkp4daq5naaabaacaadaagaahaaiaajaaeabjfaakaalaamaai"
def Bl:au 0 91 LW:=av
def LX:ao:=aw "Ocbeal4faP5dl4iaaghoiK5ejl4faP5ial4laaabaahbmKbngoKlpd+cuckq4gar5l4tafgsMtS4hau5dk4wafaghbvubuafagFbvabuabjuMd+bvcwuafagjuMFbwbuaabjuMd+bvcwuqoeabHbbOcbBdbum+cyu4fau5uaaabaacaadaaeaafaagaahaaiaakaalaamaanaaoaapaajabdqabdraasaataai"
def wC:au 0 92 LX:=av
def LY:ao:=aw "scbeal4faL5dlaK5fagdlafaaghngi5ejahadfbl4naaafhbmnboabdocpq5erl4faO5iab4lafjkM4gal5l4faL5i"
def LZ:au 0 93 LY:=av
def M0:ao:=aw "HbbcalaN5dl4gaaPafP5egl4daN5ial4iubaaakicajbkxbyhl4eam5dlaK5fagdl4oaeaakocbpbqgrnns5etahadfbb4xadaakucbubuaehbvubud+bxbuxbyCu4eau5b4vaejuM4fau5l4Had4dau5i"
def wD:au 0 94 M0:=av
def M1:ao:=aw "+cxcbeal4faP5dl4paakocbpbqgrosK5etlqbam+cwu4gau5dlaK5fagdl4xagaakucaubugunzu5euahadfbl4Gaakucaubuaghbvubuabdocvurcu5eucafafkucaubuaakucaubuaghbvubuBbbuwbyCukHcau4afbuw5ab4EagjuM4hau5l46af4fau5ial47aaabd+cvcvu4iau5l4:Bbaaakucbubuwbiyu4jau5l4*aiahaakucbubuahhbvubuabd+bycvuhbED4afbuv5ddcaiahhbvubukucaubuguaiahhbvubukucbubugujCuyuM5eulaiqbbbbum+cwu4fau5ial4+bEahAuM4kau5dl4+bGahouK5eub4kaK5adc4+bIaiajhbvubuaiajjuMhbwubu4laza,+bP5laN5dl4+bRaakucbubuahhbvubukucbubuguouK5eukBbaakkucaubuwbyyualkucaubuwbyyud+cwbu4nau5nbaacaadaaeaagaahaaiaajaaaaafabjkaalaamaak4+b?Bbaakkucbubuwbiyualkucbubuwbiyud+cxbu4nau5nbaacaadaaeaagaahaaiaajaaaaafabjkaalaamaalaN5l4+cianaiajtbvabuawbixu4oau5l4+cnanamwbivu4oau5l4+cqanaiajjuStbwbuaawbiyuqbbbbum+cwu4fau5i"
def Bm:au 6 95 M1:=av
def M3:ao:=aw "Dcbeal4faP5dk4haakgcchbid+bubjaaklcdmbnd+buboObdkp4gaq5maaabaacaadaafaagaahaaiaaeabijaakaalaadl4safaad+bubsEStMuWjuMyru5eulaad+btbuabd+bvcvu4fau5ial4Daa4fau5i"
def M4:au 0 96 M3:=av
def M5:ao:=aw "Ydbgal4haL5ddc4jaaachbijbkabachbmnboslp5eqdcaaachbrsbtabachbvubunyu4hau5iadlaK5fagdl4Bahaagunwu5euahadfbdc4Haaahhbvubuabahhbvubusyu5eudcaaahhbvubuabahhbvubunyu4hau5iab4FahjuM4iau5l4haL5i"
def M6:au 0 97 M5:=av
def M7:ao:=aw "obbcalaP5dfagdlaagdyeM5efahafbbaad+cxbg4bah5dl4jaagiojK5ekl4daP5ial4maahblKbm4dan5i"
def M8:au 0 98 M7:=av
def M9:ao:=aw "0cbeal4faN5dl4iaakhcbibjgkolK5emlaakncaobpabd+cycqrd+cwbs4fat5ial4vaaabd+cvcvu4gau5laN5l4yagaakucbubuafFbvabuxbiAu4hau5l4Gagaakucbubuafhbvubuabd+bCcvuxbiDu4hau5l4RagaakucbubuafjuMFbwbuaxbiBud+cxbu4fau5i"
def Bn:au 0 99 M9:=av
def Ma:ao:=aw "ibbcalaN5dlaaQad5eel4daN5ial4gubaaaxbbfg4dah5i"
def Mb:au 0 100 Ma:=av
def Mc:ao:=aw "Mcbeal4dm+bqam+bqbaL5lcaceGfcadeGh3haj6xcIcblcIdbnomo6alkpLaq6LcJcbscJdbuotu6alruLau6ZcGcecucGdecud+czcwu6alzuLau6=cKcbucKdbudocwu6alzuL4fau5i"
def Md:au 1 101 Mc:=av
def Me:ao:=aw "IbbcalaL5dl4gaagfaK5faglnhg5deiahadfblahh+bffhe+bfk4fp+bsd4eaj4af+bfel5dc4ne+bfed+cfbmrcnao6GadyqKar6NaaadAuMh+bftucaubucaebuCwu6GlsuL6alpOu5eul4daL5iab4FjhM4iau5l4GaaguIuQ4dau5i"
def Mf:au 0 102 Me:=av
def Mg:ao:=aw "icab4faaabubbfd+cAdeOg5"
def Mh:au 0 103 Mg:=av
def Mi:ao:=aw "rcadl4fabgeyf35eglaakhcbi4afbj:5ialaaabgld+cBckm5baaabd+cAdoOp5"
def Mj:au 0 104 Mi:=av
def Mk:ao:=aw "Kcalm+bqb5l4haacadeGhd+cCcgi5laacIdbld+cBckm5laacJdbpd+cBcoq5lcGdcasbtcGdcbubucKdbuubdzwuguaK5faglnuv5deuahadfblhbxvbu4gau5b4Haaafd+cDcvu5bjAM4Dau5"
def Ml:au 0 105 Mk:=av
def Mm:ao:=aw "nbbcalaN5dlaakdcbebfsgK5ehl4daN5ial4jaakicajbkd+cEbl4dam5i"
def Mn:au 0 106 Mm:=av
def Mo:ao:=aw "hbbcalaK5laakdcbebf4dag5i"
def Mp:au 0 107 Mo:=av
def Mq:ao:=aw "hbbcalaP5laad+cEbdqjbabem+dIf4dag5i"
def Mr:au 0 108 Mq:=av
def Ms:ao:=aw "pbbcala05l4haad+cFcgM4gah4jifaifb4eaiaj5dl4laerck5ell4da05ial4nadhbmKbn4dao5i"
def Mt:au 0 109 Ms:=av
def Mu:ao:=aw "Ebbcc+bflp+bsd5l4faad+cGce2Xfqdbabg4ep+bsd4af+bfdh5dl4jaad+bMbivdjOadkQaK5faglnml5denahadfbkcbdboaad+cGcq2Xrubbsxbqptcbd4afbuv5jaaabaacaadabbeaafaagaahaaiaabjmM4nau5l4yaad+cHbuccd4afLuv5laad+cHbucNd4afLuv5le+bfd4af+bfcu5i"
def Mv:au 0 110 Mu:=av
def Mw:ao:=aw "pbbcalaK5dlaakdcaebfggyhK5eibaad+cIcj,+qr5alaaklcbmbn4dao5i"
def Mx:au 0 111 Mw:=av
def My:ao:=aw "Acbeal4faL5dl4haaggabgishj5ekl4faL5iadl4maaglaK5faglnnm5deoahadfblan4gap5dc4raaafhbqrbsabafhbvubustu5eul4faL5iab4AjnM4oau5l4faO5i"
def Mz:au 0 112 My:=av
def MA:ao:=aw "+bMbcccLdal4cm+b+ap+bqaaL5l4iedbd+cKbhd+cJbiqabaGj4fp+bqa4afLek5dlaK5fagdl4mafcbbbmgnnlo5epahadfbl4tcJebsjtMcJe4afbuv5lcbbbuafhcvucbubu5eulcIebujuMcIe4afbuv5ccGeecucbbbuafhcvucaubucbbbuafhcvucaubuqbcabAbbud+cLcHucGe4afcuv5ab4rafjqM4gar5dlaK5fcgdl4Yagccbbugunxu5euahcdfddc45cJebuccbbuaghLvucJubujAucJe4afbuv5dccIebuccbbuaghLvucIubujAucIe4afbuv5ccGeecuccbbuaghLvucGuecud+cLcAucGe4afcuv5b43agjuM4hau5dl4+bqcabbuouT5eubcbbbuhcuKcaubucKe4afbuv5adlcabbuouU5eubccbbuhLuKcKubucKe4afbuv5adlcJebuyu35eulqaa4afLcu4eaL5ial4+bMeLe4afLcu4eaO5i"
def MB:au 1 113 MA:=av
def MC:ao:=aw "zbbccdlp+b+c5dkaakdcaebfaakhcbibjqgcabgbbkucblaaknccobpd8bqaakscdtbud8buuLcruqcdabVbbmcbu4afdcu5xaaabaacaadaaeaafaagaahaaiaakaalaamaanaapaaqaaraasaaobjddhstbjcdhjbuauaavaawaai"
def MD:au 0 114 MC:=av
def ME:ao:=aw "1bbccdlp+b+c5l4hqcbabT4ep+b+c4afddg5dlaK5fagdl4iaeaakicajbkglnhm5enahadfbc4rcbdbqaakscatbuaehbvubuqgcabubbOucbuxcGrucbd4afbuv5b4paejoM4fap5dlaK5fcgdl4Eafaakucbubugunzu5euahcdfdl4Ncad4afbuU5kccdbuaakucbubuafhbvubud9buuLbuxL+bXDuccd4afbuv5oaaabaacaadaaeaafaagaahaaiaajabbkaalaamaanaab4LafjuM4gau5l41edd4afdcu5i"
def Bo:au 0 115 ME:=av
def MF:ao:=aw "rcbeal4dmda4faL5lbcCfMag6rbcIiQ6alhjLak6zabJ+cNabcd+cMcmnrco6allpL4faq5i"
def MG:au 0 116 MF:=av
def MH:ao:=aw "2cceafal4dm+cZam+bqbaNaK5dl4pcIdboopK5eql4faNaK5ial4tecceLdd+cOcst4sau4wirairbirc4hp+ccg4afcg,va,wa,x5dl4zaisuK5eulai4faNa,A5ial4kaN5dl4Ccbgbu5eubajcagbuBbbuwbyxu4kau5adl4JahguaK5faglnuv5deuahadfblhLxveLu4mp+bqa4afLl,N5l4QecceLld+bUcvu4Pau4Tiuaiyb4nava,T5dl4VansuK5eulan4faNa,W5iab4Yajamwbyvu4kau5b41j,KM4Lau5l42aj4fauaK5i"
def MI:au 6 117 MH:=av
def MJ:ao:=aw "icbeal4faK5laaabd+bXcfg4fah5i"
def MK:au 0 119 MJ:=av
def ML:ao:=aw "Kcbeal4faK5dl4kaagjaK5faglnlk5demahadfblalhbjlbo4ganap5dl4rafabgrCqs5etl4faM5ial4vabafhbvubu4iau5l4zagahd+cRcvu4jau5l4CaisuK5eulai4fau5iab4FjlM4mau5dl4Gaaguabgunwu5eul4faX5ial4faK5i"
def MM:au 0 120 ML:=av
def MN:ao:=aw "kbbccGlp+bge5l4fd+cSa4eae5l4gadaad+cTcfg5ladd+cUbi4afGcj5i"
def MO:au 0 121 MN:=av
def MP:ao:=aw "gbbccGlp+bge5laad+cXad+cWcde4afGcf5i"
def MQ:au 1 123 MP:=av
def MR:ao:=aw "pbbcalaN5laaMd,+qsKe+vefaaMh+Ki+vejaaKl+vemBbdgkn4dao5i"
def MS:au 1 125 MR:=av
def MT:ao:=aw "xbbcalaN5l4gaagfvegBbbh4eai5dlaK5fagdl4kaeaagknjl5emahadfbb4qadaaaehbqrbsd+cZbtwbbpu4eau5b4oaejnM4fao5l4xad4dau5i"
def MU:au 1 126 MT:=av
def MV:ao:=aw "Ccbeal4dmAa4faL5dlabnfMag6qabyiQ6alhOjak6ycacbmgnabsop6allOqar6Mcbcbtguabsvu6alsOu5eul4faL5ial4AabJ+c1abcd+c0cvu4fau5i"
def MW:au 0 127 MV:=av
def MX:ao:=aw "+becbeal4dmCa4faL5dlabnfMag6qabyiQ6alhOj5ekl4faL5iadl4mcacbl5fal4pom04oao5enl4qcbcbpoqKar6NcccbtguouK6alsuL4fau5il4AomV4zau5eul4BcbcbuCuMau69cbcbuabnvu6alyuLau6+bccccbuguouK6alyuL4fau5il4RomT4Qau5eul4ScbcbuCuKau6+bycbcbuabnvu6alyuLau6+bKcccbuguouK6alyuL4fau5il48omU47au5eul49cbcbuouKau6+b6abCuS6alwuLau6+b>cccbuguabAuMowu6alAuL4fau5ial4faL5i"
def MY:au 0 128 MX:=av
def MZ:ao:=aw "Bcbeal4dmEam+bqbaL5dlcIdbfogKah6scacecjcGdecld+c4ckmrcn6aliOo5epl4faL5iadl4rcgcbq5erlcacecscGdecud+b6cturcu4fau5ial4zcfcbusuK4fau5i"
def N0:au 6 130 MZ:=av
def N1:ao:=aw "1cceccfal4dmAamAbpAbaL5dl4jeccecdd+c4cijrck5ellqba4afcem4gaL5ial4oeccd+c5bn4hpAb4afcgo5dl4qcagbpgqaK5faglnsr5detahadfblas4iau5k4wcagbuahcbgbuahcacbuahhbvubucadbuahhbvubuObdzucbcbuahhbvubucbdbuahhbvubuOadzuhb,w,x4afbuGhb,z,A4afbuw5GaaabaacaadaaeaafaagaahaaiaajaakaalaamaanaaoaapaaqaaraasaataauaavaawaaxaayaazaaAaaBaaCaaDabeEaaFaabjsM4tau5l41ecg4afceu4gaO5i"
def N2:au 0 131 N1:=av
def N3:ao:=aw "9cdeccfagal4dmCamAbp+b9faKaK5dl4jecdcadbjgkd+b4cilrcman6Eedccadbqgrd+b5cpsrct6aloOu5eulqfa4afceu4gaKaM5ial4ycadbucbcbuhbwubud+c6bu4ip+b9f4afch,D5dl4Fcacbu5fal4IouT4Hau5eub4Jcbdbucbcbuhbwubud+c7bu4afchu5l4RoDU4Qau5euc4TcccbucadbuFbubMacbdbuFbubMaqbcabxbbud+c8cBu4Sau43iuaiFb4afchv5adkechcadbuhbuKbu4afcey4gauaK5iaaabaacaadaaeaafaccegaahaai"
def N4:au 0 132 N3:=av
def N5:ao:=aw "Dcbeal4dm+b9am+b9baK5dfal4heccecd3i4gai5efl4faK5il4lcacbkcadbmnlnao6Gcacbqcadbsortau6Tcbcbucbdbunwu6GlzuL6alpOu4kau5ejl4faX5ial4faM5i"
def N6:au 0 134 N5:=av
def N7:ao:=aw "zdbgal4emEam+bqb4haL5l4lcadeckcGeecmd+b8cln4kao4qijaijb4ipAb4afchpaq5l4saiar6Nccdedtechacd+c;dwvu6alsuL4hau5i"
def N8:au 6 135 N7:=av
def N9:ao:=aw "vcceafalm+bgbaNaK5dc4kaakjcakbleGd3j4jao4qiiaiib4hapaq5dl4sahrcr5esl4faNa55ial4uagd+bDbt4fauaK5i"
def Na:au 0 136 N9:=av
def Nb:ao:=aw "+bdccecdfal4fp+b+caK5l4maad+bLbl4ham5l4oagd+bMbnqcbabo4ip+b+c4afdhp5dl4ragd+bMbqvdraK5faglnts5deuahadfblagd+c<bu4jau5k4ycbhbuagabd+c=cvuaiqgcabvbbuBcbuwcGAucbh4afbuv5laaabaacaadaafaaeabbgaahaaiaajaakaabjtM4uau5dl4Jagd+bMbuvduaK5fcglnuv5deuahcdfdkcchbuagabd+c>cvuBLbuwL+bXyucch4afbuv5jaaabaacaadaaeabbfaagaahaaiaabjDM4Mau5dl4Xagd+bObusuKau6+bHedhabd+c?cvurcu6alyOu5eulqca4afdeu4gaZ5iadl48edhabd+c*cvu47au4;iuaiyb4kava,;5l4=aksuKau6+b;ajaad+bPcvurcu6alyOu5eulqca4afdeu4gaZ5ial4+bdedh4afdeu4gaK5i"
def Nc:au 1 137 Nb:=av
def Nd:ao:=aw "+bEccecLfal4dm+b+a4fp+bqaaK5l4pedcabd+c*cop4oaq4sinainb4haras5dl4uahstK5eulqaaah4afLev4gau5iadk4yagd+c+bucbcbuguqacaGxJbu4jp+bqa4afLi,C5iaaacaadaaeaabbgbdfaagaahaadl4EcbcbuguaK5faglnuv5deuahadfblhcxvecu4lp+ccg4afck,J5l4Lcbkbu5eulcIibujuMcIi4afbuv5kcGiecucakbud+dabud+c,cxucGi4afcuv5iaaabaacaadaaeabbfaagaahaaabj,GM4Hau5dl4ZcccbuguaK5fcglnuv5deuahcdfdlhLxveLu4np+bqa4afLm,45l46cIibucImbujwucIi4afbuv5lcJibucJmbujwucJi4afbuv5bcGiecucGmecud+c,cwucGi4afcuv5bj,1M42au5dl4+bgcJibuyu35eulqaa4afLeu4gaM5iadl4+bkcacbu5fel4+bnouT4+bmau5eub4+bocbcbuhcuKcaubud+dbbucKi4afbuv5l4+bwoDU4+bvau5eub4+bxcccbuhLuKcKubud+dbbucKi4afbuv5aleLi4afLeu4gaK5i"
def Nf:au 0 138 Nd:=av
def Ng:ao:=aw "Mcbeal4dm+bqam+bqbaL5lcaceGfcadeGh3haj6xcIcblcIdbnomo6alkpLaq6LcJcbscJdbuotu6alruLau6ZcGcecucGdecud+dccwu6alzuLau6=cKcbucKdbud+ddcwu6alzuL4fau5i"
def Nh:au 0 139 Ng:=av
def Ni:ao:=aw "pcbeal4dmAamybaL5leccbdggd+b4cfhai6vbdgkJ+deaccdd+c0clm6aljnL4fao5i"
def Nj:au 0 140 Ni:=av
def Nk:ao:=aw "ucbealmEbaN5dlcfdbfCgKah6taagjcfdblykm6alinL5eolaacfdbqtbpabra4fas5ial4uaa4fat5i"
def Nl:au 6 141 Nk:=av
def Nn:ao:=aw "Mcbeal4dmCa4faN5laN5dl4jabgiaK5faglnkj5delahadfblhbikbm4ian5dl4pedcahgpd+b5coqrcras6OahguabhbuKbugusyu6altOu5eul4faN5iab4Dafahd+dbbuBbbuwbyxu4gau5b4IjkM4lau5l4JafJ+dgabcd+dfcvu5laf4fau5i"
def No:au 6 142 Nn:=av
def Np:ao:=aw "Ecceafal4fa1a15deLl4maavglabvgnd+dicmo4lap4rikaikb4haqar5l4tagvhsahvhu4fata,v5ial4yaaabd+djcvu4xau4Biuaiyb4java,B5l4Daiaj4fava,D5i"
def Nq:au 0 143 Np:=av
def Nr:ao:=aw "Lcceccfal4dmCa4fp+b9faL5dl4iedcabgidQchjrck5ellqfa4afcem4gaL5iadl4ocacbnooU5epdcabFbqbMacccbsd+dkcrtiuaivb4afcev4gau5ial4yabcbcbuhbwubuvhuju;4hau5dl4FcacbuouT5eubagA,+qtu4hau5al4Kagqfbbbu4afceu4gaO5i"
def Ns:au 0 144 Nr:=av
def Nt:ao:=aw "ucbeal4dm+b9am+b9baL5dlcacbfcadbhsgi5ejlcacbkcadbmnln4fao5ial4qcbcbpcbdbrnqs4fat5i"
def Nu:au 1 145 Nt:=av
def Nv:ao:=aw "jcbeal4faL5laaabd+dlcfgChK4fai5i"
def Nw:au 0 146 Nv:=av
def Nx:ao:=aw ";bbcal4cm+bsaaL5l4fe+bfbdNbe4eaf5dfal4icabbhcbbbjqidabVbbicbkdUblrcm4han5egl4daL5il4qccbeLpadd+dmcqrrcsat6QcNbeLuadd+dmcvurcu6alzOuau64ccbcIubucNbcIubusxu6alBOuau6+bdccbcKubuguyuK6alzOu4pau5eol4daL5ial4ScNbeLud+cmbuau6+bxcNbcKubuguadovuau6+bMcNbcJubucNbcIubuoxu6+bxlBuL6alJOu4dau5i"
def Ny:au 0 147 Nx:=av
def Nz:ao:=aw "lcceafal4faKaL5laaabd+dndgh,+quiiaiib4fajak5i"
def NA:au 0 148 Nz:=av
def NB:ao:=aw "+bydbgal4haN5l4laaabt+bfkblaa5lacgn4iao5dl4qahopK5eqlaa4har5ial4taags4jat5dl4vabaiovu5eulaaacw+bf+d?vu4hau5iadl4BaiahjvuaaUuywu5eulaaabt+bfvabuaaiahjvuabAvuY+bf+d?dzu4kau5l4Qajabt+bfvbuaaacH+bfvu5dcajabahjvut+bfxbuaaaaabt+bfvbuaaH+bfxu5laj4hau5ial45aaaiahjvut+bfxabua4bau5dl4:acaaabahjvut+bfxbuaaZzurcu5eudcaaabahjvut+bfxbuaaaaabt+bfvbuaaH+bfxu5laaabt+bfvbuaaacH+bfvu5laa4hau5ial4+boaaait+bfvbuaaacH+bfvu5laaabt+bfvbuaaahd+dqcvu5laa4hau5i"
def Bp:au 6 149 NB:=av
def NC:ao:=aw "Hdbgal4haN5l4jaaabacaaglt+bfibjbkbm5dlabacoop5eqlaa4har5ial4taags4iat5dc4vaaabt+bfvabuaaaact+bfvbuaaw+bf+d?xu4bau5l4Caaaaguaht+bfxbvbua4a1+bfdu5laa4hau5i"
def ND:au 6 150 NC:=av
def NF:ao:=aw "Hcceafalm+bsbaNaK5dl4kaad+bFbjrckal6Ae+bfdd+cfbnrco6almOp5eql4faNaM5ial4taacadbtd+cgcsu4sau4xirairb4hava,x5dl4zahrcu5eul4faNaW5ial4BaadTbu4jau5l4Daiage+bfdh+bfwv4af+bfuv5lai4fauaK5i"
def NG:au 0 151 NF:=av
def NH:ao:=aw "+bTecicLjal4fm+cZam+bqb4jp+bqaaK5dl4peLfd+cmbo5epleceacqgcabrbbOeLfeLfd+dreqstuiuaivb4afLiv4kau5ial4AeceeLfd+cOcvu4zau4Diuaiybizc4lp+ccg4afck,Ca,Da,E5dfal46amsuK45au5eul48qaaam4afLiv4kau5il4;cakbuacd+ddcvuau6+b<cbkbu6alwuL4:au5eul4+baqaa4afLiu4kaQ5il4+bccakbuacd+ddcvu4+bbau5eub4+bgcbk4afbuO5l4Geceaccakbuadd+dseyxvu4oau5dc4NalanecealanhLvueLuacadjuMd+ckeBxwu4Mau4YiuaiGbhLGF4afLuw4nav5l41amsuK5eulqaaam4afLiv4kau5iadc4+bieceeckalhLuKeLualhLuMeLud+dreBAxu4+bhau4+briuaiEb4afLfv4nau5ddc4+btamouKau6+cRalhLuKcJubualhLuMcJubuObdyucJfbuESuMuWjuMyzu6alJuL5euleceeLfadd+crdwvuiuaivb4afLiv4kau5ial4+bSeLfam4afLiv4kau5i"
def NI:au 0 152 NH:=av
def NJ:ao:=aw "rcbeal4dmda4faL5lbcCfMag6rbcIiQ6alhjLak6zabJ+dtabcd+cMcmnrco6allpL4faq5i"
def NK:au 0 153 NJ:=av
def NL:ao:=aw "gbbcal4cm+bqaaL5leLbqaad+b*cde4daf5i"
def NM:au 0 154 NL:=av
def NN:ao:=aw "GccecLfal4dm+doa4fp+bqaaK5l4kqcbabT4hp+b+c4afdgj5dl4labgkaK5faglnml5denahadfblhbkmbo4jap5b4rcbgbqaiqgcabsbbOucbtxcGrucbg4afbuv5bjmM4nau5l4zcacbuedgcbcbud+dudxwuiuaivb4afLev4gau5i"
def NO:au 0 155 NN:=av
def NP:ao:=aw "+bddcgahal4em+doam+bqb4haNaK5l4qecdeLed+dvcpq4par4tioaiob4jp+b+c4afdisat5dl4vajsuK5eulaj4haNa,w5iadl4ycaibuouT5eul4Cedid+dxbuacd+dwdvu,+oW4Bau4Giuaizb4lava,G5dl4Ial5eul4haNaQ5iadk4Jedid+dxbuakacBbbud+dAdxwuecdJ+cnbuad+dzcwuiuaivb4hava,S5naaacaadaagaahaabbebgeaafabgiaajaakaalaamaaial4Uediacd+dBcvu4nau5dc4YecdccibuamhLvueLuacd+codAvu4Xau46iuaiDb4oav4ka,65dl48ajsuK5eulaj4haNa,95iadk4;ccibuamamjuMand+dDeyxvuecdJ+dEbuad+dCcwuiuaivb4hava,+bc5oaaabaacaadaaeaafaahaaiaagabhjaakaalaamaanaai"
def NQ:au 1 156 NP:=av
def NR:ao:=aw "IccecLfal4dm+doa4fp+bqaaK5dfagdl4jabgiyjM5ekahafbdk4nababgnd+dHbod+dGcmpeccJ+dEbrad+dFcqs4mat4vilailb4hava,v5naaabaacaafaagaadabfeabfhaaiaajaakaalaamaadl4xahsuK5eulqaaah4afLev4gau5iab4Bag4cau5dl4CabguouK5eulqaa4afLeu4gaK5ial4GabhLuKeLu4afLeu4gaK5i"
def NS:au 0 157 NR:=av
def NT:ao:=aw "+blecicLjal4fm+cZam+bqb4jp+bqaaK5dl4peLfd+cmbo5epleLf4afLiq4ka55ial4teceeLfd+cOcst4sau4wirairbirc4lp+ccg4afck,va,wa,x5dfal4ZamsuK4Yau5eul41qaaam4afLiv4kau5il44cakbuacd+ddcvuau6+bYcbkburcu6alxuL43au5eul4=qaa4afLiu4ka55il4?cakbuacd+ddcvu4>au5eub4+bacbk4afbuL5l4zeceaccakbuadd+dseyxvu4oau5dc4GalanecealanhLvueLuacadjuMd+cqeBxwu4Fau4RiuaiGbhLGF4afLuw4nav5l4UamsuK5eulqaaam4afLiv4kau5iadc4+bbeceeckalhLuKeLualhLuMeLud+dreBAxuiuaivb4afLiv4kau5i"
def NU:au 0 158 NT:=av
def NV:ao:=aw "AdcgcLhal4em+cZam+bqb4hp+bqaaK5l4mecdeLed+bUclm4lan4pikaikb4jaoap5dl4rajsqK5erlqaaaj4afLgs4iat5ial4vecdaiacd+dIdwvuiuaivb4afLgv4iau5i"
def NW:au 0 159 NV:=av
def NX:ao:=aw "+bgdcgcdhal4em+doam+bqb4hp+dvhaK5l4recdeLed+dvcqr4qas4uipaipb4jp+b+c4afdita,u5dl4wajsuK5eulqhaaj4afdgv4iau5ial4Aedid+dJbu4lp+dvh4afdk,A5dl4Ccakbu5eul4Fcbkbuacd+dwdvu,+oW4Eau4Jiuaizb4mava,J5dl4Lamrcu5eulqha4afdgu4ia55ial4OcbkbualaljuMd+dKdxwucbk4afbuv5ledk4afdgu4iaK5ial4Wediacd+dBcvu4oau5dk40ecdcckbuanhLvueLuacd+csdAvu4Zau48iuaiDb4pp+dvh4afdo,74ka,85oaaabaacaadaaeaafaagaahblaiaajaakaalaamaanaadl4:ajsuK5eulqhaaj4afdgv4iau5ial4?ecdcckbuanedod+dLeywvu4>au4+bciuaiBbcck4afbuw4kav5l4+bfedkaj4afdgv4iau5i"
def NY:au 1 160 NX:=av
def NZ:ao:=aw "uccecLfal4dm+doam+dvbp+bqaaK5dlcadbg5ehlecccbdbjd+cncikilailb4afLem4gan5ial4peccccdbpd+dEcoqirairb4afLes4gat5i"
def O0:au 0 161 NZ:=av
def O1:ao:=aw "1cbeal4faN5laN5dlaK5fagdl4kagaagknjl5emahadfbl4iaN5laK5dfcgddc4qaiafgqnpras6Pafaihbvubuaaaghbvubuabd+bAdzvu6altuL5euahcfdlahafaihbvubuubbuxbyzu4iau5b4NaijuM4jau5l4Pahaaaghbvubuubbuxbyzu4iau5b4WahafaiFbvbuaxbyxu4gau5b4oagjnM4hao5l41af4fau5i"
def O2:au 0 162 O1:=av
def O3:ao:=aw "Dcbeal4faK5laK5dlaK5fagdlagaakicbjbkglnhm5enahadfbl4rabaakrcbsbtaghbvubud+dNbud+dMcqurcu5eubag4gau5ab4pagjoM4hap5l4Daf4fau5i"
def O4:au 0 163 O3:=av
def O5:ao:=aw "NbbcalaN5laN5laK5l4iaaghd+dObi4gaj5dlaK5fagdl4lagafglnkm5enahadfbl4radubaaaaeaeafaghbvubujyuFbsbtbuxbyruqbbabum+cwuubbuxbiqu4eau5b4Haeafaghbvubujyu4fau5b4pagjoM4hap5l4Nad4dau5i"
def O6:au 0 164 O5:=av
def O7:ao:=aw "NbbcalaN5laN5laK5l4iaaghd+dObi4gaj5dlaK5fagdl4lagafglnkm5enahadfbl4radubaaaaeaeafaghbvubujyuFbsbtbuxbiruqbbbbum+cwuubbuxbiqu4eau5b4Haeafaghbvubujyu4fau5b4pagjoM4hap5l4Nad4dau5i"
def O8:au 0 165 O7:=av
def O9:ao:=aw "Lcbeal4faN5laN5laK5dfagdlagaaginhjak6zaaaghbmnboabd+dMcpq6allrL5esahafblafaaaghbvubuubbuxbytu4gau5b4BagjuM4hau5l4Dafabubbuxbywu4gau5l4HafaaagFbvbuaxbyxu4fau5i"
def Oa:au 0 166 O9:=av
def Ob:ao:=aw "rcbeal4dmAamAbaL5lcacbfcadbhdocgiaj6xcbcblcbdbndocmo6alkpL4faq5i"
def Oc:au 0 167 Ob:=av
def Od:ao:=aw "udadl4habrcg5ehlaakicbj4afbk:5iabaaaakmcanboacxbbpqklcas4afbtr5"
def Oe:au 0 168 Od:=av
def Of:ao:=aw "vcab4faaabCfKag6rabIi36alhjLabGl>vemabGo8vepabverubdnqsd+cAdekt5"
def Og:au 0 169 Of:=av
def Oh:ao:=aw "hcal3k5baa3ld+cAdeOf5"
def Oi:au 0 170 Oh:=av
def Oj:ao:=aw "Bcadl4habggyh,+qv5eilaakjcbk4afbl:5ialaaabgnveod+bGcmp5labgraK5faglnts5deuahadfblhbrtbu4gau5b4yaaafd+dPcvu5bjtM4uau5"
def Ol:au 0 171 Oj:=av
def Om:ao:=aw "ibbcalaN5dlaaQad5eel4daN5ial4gubaaaxbbfg4dah5i"
def On:au 0 172 Om:=av
def Oo:ao:=aw "Scceafal4faNaL5dl4iaakhcbibjokKal6Babaakocapbqgryns6almtL5eubaad+cIcu,+oT5adlaakucbubusuK5eul4faNaL5ial4DaakucaubuabFbvabu4hau5l4JaaaakucaubuabFbvbuakAcau4afbuw5lag4fauaO5i"
def Oq:au 0 173 Oo:=av
def Ot:ao:=aw "rcbeal4faN5l4jaaaaabd+dQcjkd+cFcil4iam4oihaihb4ganao5l4qafd+cEbp4faq5i"
def Ou:au 0 174 Ot:=av
def Ov:ao:=aw "GbbccLlp+bqa5l4haad+dRbgqabaGh4ep+bqa4afLdi5l4kaad+dQcj3cId4afblk5laad+dQcm3cJd4afbon5dlcGdcapcGdcbrcKdubdqstguaK5faglnuv5deuahadfblhbxvbu4gau5b4Bafaad+c=cuQkw4afbuv5bjBM4xau5l4GeLd4afLcu5i"
def Ow:au 0 175 Ov:=av
def Ox:ao:=aw "ncal4faakecbfbgohK5eibaaabkjcbl4afbmk5a"
def Oy:au 0 176 Ox:=av
def Oz:ao:=aw "hbbccGlp+bge5laaBbbdd+cYc,+oXed+b0bf4afGcg5i"
def OA:au 1 177 Oz:=av
def OB:ao:=aw "+btbbcal4cm+b+aaN5l4icabbhcbbbjgkvelBbcim4ean5dlaK5fagdl4paecbbbpgqnor5esahadfbl4wadcbbbuaehcvucbubud+dSbuwbbBu4eau5b4Fadcbbbuaehcvucaubud+b3buwbbBu4eau5b4uaejtM4fau5l4OadccbbuguveuBbbuwbbzu4eau5dl4gaK5fcgdl4Vafccbbugunxu5euahcdfdl42ccbbuafhLvueLu4hp+bqa4afLg,55l47adcag3mwbbwu4eau5l4;adcIgbud+b2buwbbxu4eau5l4*adcJgbud+b2buwbbxu4eau5l4+bcadcGgcaubud+b3buwbbyu4eau5l4+biadcGgcbubud+b3buwbbyu4eau5b4+boadcKgbud+b3buwbbxu4eau5b40afjuM4gau5l4+btad4dau5i"
def OC:au 1 178 OB:=av
def OD:ao:=aw "+bmcbeccl4dmAamAbpAb5dk4kecccacbkgldPcjmecdcadbpgqdPcor4ganas5maaabaacaadaafaagaahaaiaaeacfhjaakaalaadl4uafat6Ragrcu6alwuL5eulecc4afceu5iadlagau63afrcu6alwuL5eulecd4afceu5iadlafrcuau6*cacbugucadbugusxu6alBOu5eulqba4afceu5ial4ipAb5dlaK5fagdl4Saicacbugunxu5euahadfbdc4ZcahbucacbuaihbvubucadbuaihbvubuOadzuubbuxbiGucah4afbuv5ccbhbucbcbuaihbvubucbdbuaihbvubuObdzuubbuxbiGucbh4afbuv5b4XaijuM4jau5l4+bmech4afceu5i"
def OE:au 0 179 OD:=av
def OF:ao:=aw "jcbeal4faL5laaabd+dTcfgChK4fai5i"
def OG:au 0 180 OF:=av
def OH:ao:=aw "ibbdal4eaL5laagebbsfg4eah5i"
def Bq:au 0 181 OH:=av
def OI:ao:=aw "Gcdeccfagal4dm+cZam+bqbp+ccgaNaK5l4lcacbkeLdcbcbnd+bcdlmo4kap4rijaijb4ip+b+c4afdhqar5dl4taissKat6QcahbusuV6alxOu5eulqga4afceu4gaNaZ5iadk4BcbhbuhcuKecucchbu4afcew4gauaK5jaaabaacaadaaeaafaagabfhaaiaai"
def OJ:au 0 182 OI:=av
def OK:ao:=aw "ucbeal4faK5l4iaad+d4bh4gai5l4kabd+d4bj4hak5dl4maf5eldlag5eml4faK5ial4faX5iadl4oag5enl4faM5iadl4paaabnop5eql4faX5iadl4saaabyrs5etl4faM5ial4faK5i"
def OL:au 0 185 OK:=av
def OM:ao:=aw "eabaal4baP5ld+d5aqybaibm+eZc4bad5i"
def ON:au 0 186 OM:=av
def OO:ao:=aw "Zcadl4gaakfcjgbhoi15ejbaad+d5akkcam4afinl5alaakocjpbqabgsvhtjrukocju4afbuw5lubaaakuciubuxbbyuabxbbvu4fau5dfagdl4HaeguCuY5euahafbdcaaaakucaueiuaeFbuabYd+d6cwukBcau4afiuw5baeFbubYa4fau5b4Waaaekvciu4afbuw5"
def OP:au 0 187 OO:=av
def OQ:ao:=aw "+bmbbccGlp+bge5l4jaakicajeik4ep+eWl4afidl5dl4naakmcjnboop15eqbd+d5a4afidr5alubaaaktciubuxbbsuubb,+oYxbbvu4fau5dfagdl4BaeguKuYsu=5euahafbbaeubb0xbbvu4fau5l4IaeaakucjubuE8ud+d7buxbbAu4fau5dfcgdl4QaeguyuK5euahcdfdc4VeidaeFbuabYd+d6cwu4afidu5b4TaeFbubYa4fau5lp+bge5dl4ZeidaK5feglnuQ5deuahedfflav3n4hava,25b44agERuagERujuMagERujuSagERujuWahGu,+oZveuahGu>veuahGu8veuahveuzbGf,44afbuDzbGf,74afbuBzbGf,:4afbuzzbGfI4afbuy5bj,ZM40au5l4+bmeGf4afGcu5i"
def OR:au 0 188 OQ:=av
def OS:ao:=aw "Acbeal4faN5l4jaaubbi4gaj5dl4labgkaK5faglnml5denahadfblhbkmbo4iap5b4rafahgrvhsd+d7btxbbquahxbbvu4gau5b4zjmM4nau5l4Aaf4fau5i"
def OT:au 0 189 OS:=av
def OU:ao:=aw "+bhcbecGl4fp+bge5l4nBbaaawbbmnBbb,+oYwbbop4gaq5dfagdl4safgrKsYst=5euahafbbafBbb0wbbvu4gau5l4zaaguvhuE8u4hau5dlaK5fcgdl4DahnuQ5euahcdfdb4HafagahEQuA=uvhuGyuKu?veuBbbuwbbDu4gau5b4FahjuM4iau5l4SBbi,+o0,+o1,+o2,+o3,+o4,+o5,+o6,+o74jau5dlaK5fegdl4Tajafgunwu5euahedffb4ZaiafajajjuYFbxbwbuabd+d8dAvu4jau5b4XajjuY4kau5lp+bge5dlaK5fggdl47alnu,+oP5euahgdfhb4;alaialMuRhbwubualKuREQuA,+qwuvhuGzuKu,+o8veuzbGkH4afbuv5b49aljuM4mau5l4+bheGk4afGeu5i"
def OV:au 1 190 OU:=av
def OW:ao:=aw "cabaal4baN5lBb<,+o9,+o:,+o;,+o<,+o=,+o>,+o?,+o*,+o+,+o,,+pa,+pb,+pc,+pd,+pe,+pf,+pg,+ph,+pi,+pj,+pk,+pl,+pm,+pn,+po,+pp,+pq,+pr,+ps,+pt,+pu,+pv,+pw,+px,+py,+pz,+pA,+pB,+pC,+pD,+pE,+pF,+pG,+pH,+pI,+pJ,+pK,+pL,+pM,+pN,+pO,+pP,+pQ,+pR,+pS,+pT,+pU,+pV,+pW,+pX,+pY,+pZ,+p0,+p14bab5i"
def OX:au 1 191 OW:=av
def OY:ao:=aw "Tcbeal4faN5l4kaaBbbj4gak5dlaK5fagdl4magabgmnln5eoahadfbl4sabaghbrsbtguvhu4iau5dlaK5fcgdl4yainuQ5euahcdfdb4CafahaiEQuA=uvhuGyuKu?veuBbbuwbbDu4gau5b4AaijuM4jau5b4Nafabaghbvubuwbbyu4gau5b4qagjpM4haq5l4Taf4fau5i"
def OZ:au 1 192 OY:=av
def P0:ao:=aw "xbbcalaN5l4haavhgjh;4eai5l4k2bbzQQ4faj5dla75fagdl4lafCkK5elahadfbl4paeafadKq?verhbop4afbts5badMu?4eau5b4nafAmM4gan5l4xae4dau5i"
def P1:au 1 193 P0:=av
def P2:ao:=aw "pcbeal4faL5dl4haaaK5faglnhg5deiahadfblah4gaj5l4labafLkblrcm5enl4faL5iab4pjhM4iao5l4faO5i"
def P3:au 0 194 P2:=av
def P4:ao:=aw "pbbdal4eaL5dccabbeaahbfgbhcbbbjaahbklbmIin4eao5i"
def P5:au 0 195 P4:=av
def P6:ao:=aw "rcbeal4dmAamAbaL5lecccacbgghd+b4cfiaj6xecdcacbmgnd+b4clo6alkpL4faq5i"
def P7:au 0 196 P6:=av
def P8:ao:=aw "pcbeal4dmAamAbaL5leccecdd+c2cfgah6tcacbjgkJ+d9accdd+c0clm6alinL4fao5i"
def P9:au 0 198 P8:=av
def Pa:ao:=aw "kbbcccl4cmAapAb5dkcabbdd+dbbecbbbgd+dbbhqbcabfbbi4afccj5iaaabaadaaeaacabefaagaahaai"
def Pb:au 1 199 Pa:=av
def Pc:ao:=aw "hbbccclp+b9f5laavhdDe;qfbbbf4afccg5i"
def Pd:au 0 200 Pc:=av
def Pe:ao:=aw "Wdbgal4emCamAb4haL5l4oeddeced+b9cno4nap4rimaimbimc4ip+b9f4afchqaras5l4veddacd+d?cvu4uau4yitaitb4lp+b9f4afck,xa,y5dc4AajouKau65alouK6alwuLau6=acgucaebuguoxu6alAuLau6+bkeckachbuKbuechaid+d*ezwvu6alBuL4hau5i"
def Pf:au 0 205 Pe:=av
def Pg:ao:=aw "mbbcalaL5l4faad+bMbe4eaf5dl4hadygV5ehbaad+cIciZ5aladokV4dal5i"
def Ph:au 0 206 Pg:=av
def Pj:ao:=aw "Lcbeal4faN5l4jaad+bMbivdj4gak5dl4mafabylm5enbaad+cIco:5al4haN5dl4rafaK5faglnrq5desahadfblaad+d+bt4iau5l4waakucbubuouK5eubagahubbuxbiwu4hau5ab4FjrM4sau5dl4GaakucbubusuK5eul4faN5ial4Lag4fau5i"
def Pk:au 0 207 Pj:=av
def Pl:ao:=aw "EcbecLl4fp+bqa5l4haad+dRbgqabaGh4gp+bqa4afLfi5l4kaad+dQcj3cIf4afblk5laad+dQcm3cJf4afbon5laaabd+c=cpqcGfcas4afbtr5laaabd+c=cvucGfcbu4afbuw5laaabd+c=cvucKf4afbuv5leLf4afLeu5i"
def Pm:au 0 208 Pl:=av
def Pn:ao:=aw "+bucbeal4dm+b+amdbaL5dlbdnfMag6qbdyiQ6alhOjak6ycbcbmJ+eaabdd+d,cnorcp6allOqar6McccbtJ+ecabdd+ebcvurcu6alsOu5eul4faL5iadl4Acacbu5fal4DouV4Cau5eul4EcbcbuguouMau6+a+cccbuguouS6alyuLau6+bkcccbud+ebcu,+qx6alxuL4fau5il4Uo,AT4Tau5eul4VcbcbuguCuMau6+bGcbcbuguIuR6alyuLau6+bScccbuguouK6alyuLau6+b4cbcbud+d,cu,+qy6alxuL4fau5il4+a+o,AU4*au5eul4+a,cbcbuguouKau6+chcccbuguCuS6alyuLau6+ctcccbuguIuR6alyuLau6+cFcccbuJ+efabdd+ebcvu6alyuL4fau5ial4faL5i"
def Po:au 0 209 Pn:=av
def Pp:ao:=aw "+bqcceafal4dm+b+a4faNaK5dl4medcabd+c?clmrcn5eol4faNaM5ial4qqjam+cKp4haq5l4sagcacbsd+bGcrt5lagcbcbuguveud+bGcyu5dlcbcbuguaK5faglnuv5deuahadfblhcxvecu4jp+ccg4afci,H5l4Jagcbibud+egcwu5bagcaibud+cDcwu5bjFM4Fau5l4Sagcccbuguveud+bGcyu5dlcccbuguaK5fcglnuv5deuahcdfdlhLxveLu4lp+bqa4afLk,35l45agcakeGud+cCcwu5lagcIkbud+cBcwu5lagcJkbud+cBcwu5lagcGkcaubud+cDcxu5lagcGkcbubud+cDcxu5bagcKkbud+cDcwu5bj,0M41au5l4+bnagd+bJbuagd+bKbu4fawa,+bp5i"
def Pq:au 0 210 Pp:=av
def Pr:ao:=aw "gbbccGlp+bge5laad+ehbdd+bYbe4afGcf5i"
def Ps:au 0 211 Pr:=av
def Pt:ao:=aw "+brcbeccl4dmAamAbpAb5dk4kecccacbkgld+b4cjmecdcadbpgqd+b4cor4ganas5maaabaacaadaafaagaahaaiaaeacfhjaakaalaadfal4vafau6Tagrcu6alwuL4uau5etl4Aeccd+c5bu4afceu5il4Dagau69afrcu6alwuL4Cau5eul4Iecdd+c5bu4afceu5il4Lafrcuau6+bhcacbugucadbugusxu6alBOu4Kau5eul4Wqba4afceu5ialeccd+c5bu4ipAb4afch,X5dl4ZcahbuguaK5fbglnuv5deuahbdfclav4jau5k45cahbuaicbhbuaicacbuaihbvubucadbuaihbvubuOadzucbcbuaihbvubucbdbuaihbvubuObdzuhb,5,64afbuGhb,8,94afbuw5GaaabaacaadaaeaafaagaahaaiaajaakaalaamaanaaoaapaaqaaraasaataauaavaawaaxaayaazaaAaaBaaCaaDabeEaaFaabj,1M42au5l4+brech4afceu5i"
def Pu:au 1 212 Pt:=av
def Pv:ao:=aw "rbbccclpAb5dlaagdneMaf6oaaghyiQ6algOj5eklqba4afccl5ialaad+dbbmaad+dbboqbcabnbbp4afccq5i"
def Pw:au 0 213 Pv:=av
def Px:ao:=aw "ibbcalaN5dlaaQad5eel4daN5ial4gBbaaawbifg4dah5i"
def Py:au 1 214 Px:=av
def Pz:ao:=aw "rcbeal4dmAamAbaL5lcacbfcadbhd+ddcgiaj6xcbcblcbdbnd+ddcmo6alkpL4faq5i"
def PA:au 0 215 Pz:=av
def PC:ao:=aw "Acbeal4faL5dl4haaggabgishj5ekl4faL5iadl4maaglaK5faglnnm5deoahadfblan4gap5dc4raaafhbqrbsabafhbvubustu5eul4faL5iab4AjnM4oau5l4faO5i"
def PD:au 0 216 PC:=av
def PE:ao:=aw "Bbbeal4faL5dccabbfaahbghbibcaahbklbmIjnao6HbcaahbqrbscbbbuaahbvubuItu6alpuL4fau5i"
def PF:au 0 217 PE:=av
def PG:ao:=aw "qcbfal4gaK5dfal4iedcaaabd+dhdhij4hak5egl4gaX5il4nedcabaad+dhdmno4map5ell4gaM5ial4gaK5i"
def PH:au 0 219 PG:=av
def PI:ao:=aw "Vdbgal4emCa4haL5l4neddabd+d?cmn4mao4qilailb4ip+b9f4afchpaq5l4teddacd+d?cst4sau4wirairb4kp+b9f4afcj,va,w5dc4yaiouKau61akouK6alwuLau69abguacguowu6alzuLau6+beechabhbuKbuecjachbuKbud+d*eByxu6alDuL4hau5i"
def PJ:au 0 220 PI:=av
def PK:ao:=aw "Zcceafal4fa1a15l4paaNo,+oQ4hap5l4raaGq94iar5l4tabNs,+oQ4jat5l4vabGu94kau5l4xagaiEvu4lau5l4AahaiEvuakGu9jwu4mau5l4GalNu,+oQ4nau5l4IalGu94oau5l4KamagajEvujxu4nau5l4PahajEvuanjvuamGu9jwu4fau5l4XaaabEvu4gau5i"
def PL:au 0 222 PK:=av
def PM:ao:=aw "tcbeal4faK5dl4haaggaK5faglnih5dejahadfblai4gak5l4mabaaafhbmnboolp5eqlaf4far5iab4tjiM4jas5l4faX5i"
def PN:au 0 224 PM:=av
def PO:ao:=aw "Xcbeal4dm+bqa4faL5dfal4heLcd+cmbg4gah5efl4faO5il4kcJcbjnkMal6AcJcbnyo36almOpaq6KcIcbsntK6alrOuau6UcIcbucJcbuywu6alzOu4jau5eil4faL5il4FcIcbuouK4Eau5eul4IcGccaubuguouKau6+bicGccbubuguouK6alzuL4fau5ial4UcGcecuabd+b4cvu4fau5i"
def PQ:au 0 225 PO:=av
def PR:ao:=aw "odcgahal4gm+ejcaKaL5laaabJ+emabfd+eldijkilailb4haman5i"
def PT:au 0 226 PR:=av
def PU:ao:=aw "fbbcal4cm+bsaa,+qz5lcabbd4dae5i"
def PV:au 0 227 PU:=av
def PW:ao:=aw "xecicLjal4fm+cZam+ccbm+bqcm+bqdp+bqaaK5lcaebkecfucbmeLgeLhuLcopqcdabVbbncbqcbebsd+dudlrtiuaivb4afLiv4kau5i"
def PX:au 0 230 PW:=av
def PY:ao:=aw "qebial4fm+cZa4jaK5dleceadd+epcjkabacLlcmnnoK5epl4jaK5ial4jaM5i"
def PZ:au 0 231 PY:=av
def Q0:ao:=aw "ibbdal4eaL5laagebbsfg4eah5i"
def Q1:au 0 232 Q0:=av
def Q2:ao:=aw "GdcgcLhalm+b+b4hp+bqaaK5l4oedeacd+b?cno4nap4rimaimb4jp+bqa4afLiqar5dl4tajssK5etlqaaaj4afLgv4iau5ial4yedeacd+c*cvu4xau4Biuaiyb4lava,B5l4Daaakd+eqcvu5leLi4afLgu4iaK5i"
def Q3:au 0 233 Q2:=av
def Q4:ao:=aw "Fccecdfal4dm+doam+bqbp+b+caK5l4kcacbjeLdcbcbmd+bcdkln4jao4qiiaiib4hp+b+c4afdgpaq5dl4sahsrKas6OcagbusuTau6XcagbusuU6OlxuL6altOu5eulqca4afdeu4gaZ5ial4Fedg4afdeu4gaK5i"
def Q5:au 0 234 Q4:=av
def Q6:ao:=aw "Xdcgahal4haKaL5l4naagm4jan5l4pai4kaKao5dfagdl4qajaknpq5erahafblajakjstvhuGu,+p2vdu4mau5l4zacaaalhbvubuabLzcvunuK5eubaljuM4kau5b4Jal4lau5l4Kajajainvuau6+bkacaaajhbvubuabLzcvuouK6alCuL4haHa,W5i"
def Q7:au 0 235 Q6:=av
def Q8:ao:=aw "ubbcal4cm+b+aaN5laN5dl4hcbbbgghaK5faglnji5dekahadfblhchjecl4gp+ccg4afcfm5b4oadcafboBbbpwbynq4ear5b4tjjM4kas5l4uad4dat5i"
def Q9:au 1 236 Q8:=av
def Qa:ao:=aw "ncbeal4faK5dfal4haaabd+ercgh4gai5efl4faX5il4labaad+erckl4kam5ejl4faM5ial4faK5i"
def Qb:au 0 237 Qa:=av
def Qc:ao:=aw "pcceafal4faNaK5laaaaghd+dHbid+etcgjabd+escklimaimb4fanao5i"
def Qd:au 0 238 Qc:=av
def Qe:ao:=aw "+bydbgal4haN5l4laaabtbkblaa5lacgn4iao5dl4qahopK5eqlaa4har5ial4taags4jat5dl4vabaiovu5eulaaacwbyvu4hau5iadl4BaiahjvuaaUuywu5eulaaabtbvabuaaiahjvuabAvuYbynzu4kau5l4QajabtbvbuaaacHbvu5dcajabahjvutbxbuaaaaabtbvbuaaHbxu5laj4hau5ial45aaaiahjvutbxabua4bau5dl4:acaaabahjvutbxbuaaZzurcu5eudcaaabahjvutbxbuaaaaabtbvbuaaHbxu5laaabtbvbuaaacHbvu5laa4hau5ial4+boaaaitbvbuaaacHbvu5laaabtbvbuaaahd+evcvu5laa4hau5i"
def Qf:au 6 239 Qe:=av
def Qg:ao:=aw "Bcbeal4dm+b+a4faK5laK5dfagdlafjgMcccbigjnhkal6BabcccboafjqMhLprcKsbtd+ercnurcu6almuL5euahafbbafjuM4gau5l4Baf4fau5i"
def Qh:au 0 240 Qg:=av
def Qi:ao:=aw "pcceafal4faNaK5laaaaghd+dHbid+dGcgjabd+dFcklimaimb4fanao5i"
def Qj:au 0 241 Qi:=av
def Qk:ao:=aw "+dlebial4jaN5l4qaaabactLpbqbra5dlabacotu5eulaaabadd+ewdwvu4jau5iadl4Bacaaguowu5eulaaabtLvabuaadwL+bXvu4kau5dl4Kajguaagunwu5eubaaajgutLwbuaa4a1Lau5alaj4jau5iadc4UaaabtLvabuaguadgujwuaaactLvbuaagujyu4lau5dl46akaaUuywu5eulaaabtLvabuaakabAvuYL+bXaxu4mau5l4+a+alabtLvbuaaadHLvu5dcalabadgujwutLybuaaaaactLvbuaaHLxu5lal4jau5ial4+boaaaktLvabua4nau5dl4+brabadgujwuacIvu5eulamabtLvbuaaadHLvu5dcamabadgujwutLybuaaaaactLvbuaaHLxu5laaaktLvbuaa4a1Lau5lam4jau5iadl4+bQamabadgujwutLybuaaadZvurcu5eudcamabadgujwutLybuaaaaactLvbuaaHLxu5lamabtLvbuaaadHLvu5lam4jau5ial4+b?adguacabAvuAxu4oau5dl4+ccamabactLwbvbuaadZvurcu5eudcamabactLwbvbuaadantLvbuaaHLxu5dcamaagutLwbuaaadantLvabuaHLxu5lamabtLvbuaaand+eycvu5lam4jau5iadl4+cFamaagutLwbuaaadZvurcu5eudcamaagutLwbuaaadantLvabuaHLxu5dcamabactLwbvbuaadantLvbuaaHLxu5lamabtLvbuaaand+eycvu5lam4jau5ial4+c8adaaactLvbuaad+ezcxu4pau5l4+c=amabtLvbuaaadHLvu5dcamabadgujwutLybuaaamabaojvutLxbuaaHLzu5lam4jau5i"
def Br:au 6 242 Qk:=av
def Ql:ao:=aw "pccecLfal4dm+doa4fp+bqaaK5lcacbgabqccabUcbicbcbkd+dudhjlimaimb4afLen4gao5i"
def Qm:au 0 243 Ql:=av
def Qn:ao:=aw "Gcceafal4faNaK5laN5dl4maaglaK5faglnnm5deoahadfblhblnbp4jaq5l4tabaiLsbt4sau4wirairb4kp+bqa4afLj,va,w5dl4yaksuK5eulak4faNa,z5iab4BageLjBLbuwL+bXwu4hau5b4FjnM4oau5l4Gag4fauaK5i"
def Qo:au 1 244 Qn:=av
def Qp:ao:=aw "Ncbeal4faN5laN5dl4jabaK5faglnji5dekahadfblaj4hal5l4naagmabagAopMnq4iar5dl4taagsabagAvuKtuyuK5eubahjuM4iau5al4CafaaahFLvabud+eAbuubbuxbyzu4gau5b4JaaahFLvbua4bau5b4MjjM4kau5l4Naf4fau5i"
def Qq:au 0 245 Qp:=av
def Qr:ao:=aw "hbbcalaK5laajdRAeMMfR4dag5i"
def Qs:au 0 246 Qr:=av
def Qt:ao:=aw ">dcgcLhal4em+cZa4hp+bqaaK5dl4nabgmonK5eolqaa4afLgp4iaK5ial4rabd+eBbq4car5l4tabecdacd+epctud+bVcsu5labguMuS4jau5dk4CecdabaitbvabuaacjuMd+dIdzwu4Bau4JiuaiCb4kp+bqa4afLj,Ia,J5naaabaacaadaaeaafaagbkahaaiaajaakaalaamaadl4LaksuK5eulqaaak4afLgv4iau5iadk4QecdabaijuMtbwbuaaacjuMd+dIdAwu4Pau4YiuaiDb4mp+bqa4afLl,X4la,Y5oaaabaacaadaaeaafaagaahblaiaajaakaalaamaanaadl40aksuK5eulqaaak4afLgv4iau5iadc44ecdabaihbvubuqgcabubbOeLjeLld+dreBwvuiuaivb4afLgv4iau5i"
def Bs:au 6 247 Qt:=av
def Qu:ao:=aw "lbbccdl4cm+b+ap+dvh5dkcabbdoeTedbd+dxbgccbbiqhdabfbbhcbj4afdck5jaaabaacaadaafaagaaeacbghaaiaai"
def Qv:au 0 248 Qu:=av
def Qw:ao:=aw "Hdbgal4haN5l4jaaabacaagltbibjbkbm5dlabacoop5eqlaa4har5ial4taags4iat5dc4vaaabtbvabuaaaactbvbuaawbyxu4bau5l4Caaaaguahtbxbvbua4a1bnu5laa4hau5i"
def Qx:au 6 249 Qw:=av
def Qy:ao:=aw "+bfeciajal4fm+doa4im+dvdaNaK5dl4uedhd+eCbtrcu5eul4yeceedhd+ctcvu4xau4Biuaiyb4lp+bqa4afLk,Aa,B5l4DabaceLkhLwv4afLuv5labal4java,H5ial4JacAuMObduK4nau5l4Mam4oau5dl4NacouK5eub4oaM5adk4QeceabanhLvueLud+dvcyu4Pau4WiuaiBb4pp+b+c4afdo,Va,W5maaabaacaadaaeaafbjagaahaaiaajaakaalaadl4YapsuK5eulap4jaNa,Z5iadk41edod+dJbuedh4rp+dvhp+dvh4afdq,14afdr,25haaacaabcdebcdbeaeaafabcgaadl44acouK5eukedhedod+dJbu4afdqw4afdru5faaabaacabadaaeaaal4:eceedqedrd+eDdwvu49au4>iuaizb4tav4qa,>5dl4*apsuK5eulap4jaNa,+a+5ial4+baabamamjuSasd+dDeyxvu4jauaK5i"
def Qz:au 1 250 Qy:=av
def QA:ao:=aw "kcbeal4faL5laad+eFbfabd+eFbhd+eEcgi4faj5i"
def QB:au 0 251 QA:=av
def QC:ao:=aw "hbbcalaN5laad+bxbdhbeKbf4dag5i"
def QD:au 0 252 QC:=av
def QE:ao:=aw "JbbcalaN5l4iaaMhR4eai5dl4kadERjaankl5embadjnM4eao5alaN5dlaK5fagdl4qafadnpq5erahadfbl4vaaadMvu4hau5dl4yafaaadKvunxu5eubagjuM4hau5ab4Faeagubbuxbiwu4fau5b4tafjsM4gat5l4Jae4dau5i"
def QF:au 0 253 QE:=av
def QG:ao:=aw "tcal4habvhgDh;4fai5la=5fagdl4kafCjK5ekahadfbb4oaaaeafGopveqd+bGcnr5b4mafAlQ4gam5"
def QH:au 0 254 QG:=av
def QI:ao:=aw "Mcbeal4faK5l4kaad+cFcjW4jak4miiaiib4galam5dl4oagrcn5eol4faK5iadc4qafhbpKbqvdrRs>afhbuMbuvduRu8StuafhbuSbuvduSyu4iau5dl4GahabOadu3ywu5eulaad+cIcu:5l4faK5ial4Mah4fau5i"
def QJ:au 0 255 QI:=av
def QK:ao:=aw "pbbccGlp+bge5lp+bge5l4iaad+cFch,+oP4hai4kigaigb4fajak5l4m3oae3p5leGd4afGco5i"
def QL:au 0 256 QK:=av
def QM:ao:=aw "gbbcalaN5dlaa5edlBbbV4dae5ial4gBbb04daf5i"
def QN:au 1 257 QM:=av
def QO:ao:=aw "tcbeal4faK5dl4haaggaK5faglnih5dejahadfblai4gak5l4mabaaafhbmnboLlbp5eqlaf4far5iab4tjiM4jas5l4faX5i"
def QP:au 0 258 QO:=av
def QQ:ao:=aw "gbbcalaL5laaaasde4daf5i"
def QR:au 0 269 QQ:=av
def QS:ao:=aw "cabacil4bp+eWl5lqliab,+o0bb,+o1cb,+o2db,+o3eb,+o4fb,+o5gb,+o6hb,+o74afiab5i"
def QT:au 0 270 QS:=av
def QU:ao:=aw "+bYcbecil4dm+eWa4fp+eWl5dk4pabd+eLbod+eMaeic4gp+ftmp+ftmp+eWl4af<fp4af<gq4afihr5kaaadaabdefgbdcdefgbdecfgafbgagaahabdiabdjaadl4taK5faglnsY5detahadfblas4jau5dk4wzbihRbud+eNcu,+qCzbihRbud+eNcu,+qDDxuzbihRbud+eNcu,+qEDxu4kau5maaabaadaaeaahaaiaacaceifabigaajaakaalaadc4Hzbih7buajjvuzbihRbuzbih<buNwuzbihRburbuzbih4buNwuDAujGuaizb<gubujxuaizb<fubujxu4lau5dk46zbihKbud+eNcu,+qFzbihKbud+eNcu,+qGDxuzbihKbud+eNcu,+qHDxu4mau5maaabaadaaeaahaaiaacaceifabigaajaakaalaal4+a+alzbihKbuzbihMbuNwuzbihKbuzbihSbuNwuDzuzbihMbuzbihSbuNwuDzuj,*u4nau5b4+brakamjvuzbihKbuzbihMbuzbihSbuzbihWbuakjvuzbihRbuzbih<buzbih4buqliab,+bsbbIcbGdbEebAfbygbwhbu4afihu5bjsM4tau5dl4+bMaK5fcglnuQ5deuahcdfdlav4oau5c4+bPanzbihubuanzbicubujxuzbihA4afbuv5bjEM4+bMau5l4+bYeih4afieu5i"
def QV:au 0 271 QU:=av
def QW:ao:=aw "rbbcalaN5laN5dla=5fagdlaeCfK5egahadfbb4kadaaaeGklvemubbnxbbjo4eap5b4iaeAhQ4fai5l4rad4daq5i"
def QX:au 0 272 QW:=av
def QY:ao:=aw "+dpdbgal4haN5l4v2beAYY4iau5dlaK5fagdl4wainu25euahadfbl4kaK5fcgdl4AajnuR5euahcdfdc4EahaiahaihbvubuE,+o8uabaiERuajjvuhbyubuvgujCuhbJI4afbuv5b4CajjuM4kau5b4yaijuM4jau5dl4la25fegdl4VaknuY5euahedffdc4ZahakAu,+p3hbwubuahakAuShbwubu4maza,75k49ahakahakAu2hbwubuald+eOcu,+qIald+eOcu,+qJDwualMu,+qKDwujCuahakAu7hbwubujzuamd+eOcu,+qLamd+eOcu,+qMDwuamMu,+qNDwujCuhb,8,94afbuv5HaaabaacaadaaeaafaagaahaajaamaanaaqaaraasaataauaawaayaaBaaCaaiacgukacgulaaoaapaavaaxacguzacguAaaDaaEaaFaaGaab4XakjuM4lau5l4+bwBbaaawbevu4oau5dlaK5fggdl4+bzaonuY5euahgdfhdc4+bDanhbuRbuanhbu<buNxuanhbuRbuA,+qOuanhbu4buNxuDCu4qau5dk4+bTanhbu7buanhbuRbud+eOcu,+qPanhbuRbud+eOcu,+qQDyuanhbuRbud+eOcu,+qRDyujIuapjvuacaohbvubujyuahaohbvubujyu4rau5FaaabaacaadaaeaafaahaaiaajaamaanaaoaasaauaavaawaaxaazaaAaaBaaCaagafcjoxCkaecoxClaapadcxCqaaraataayaaDaaEaadc4+ceanhbuKbuanhbuMbuNxuanhbuKbuanhbuSbuNxuDBuanhbuMbuanhbuSbuNxuDBu4sau5dk4+cBanhbuKbud+eOcu,+p4anhbuKbud+eOcu,+qSDyuanhbuKbud+eOcu,+qTDyuarjvu4tau5raaabaacaaeaafaagaajaakaalaaoaadacglhabliaamaanaapaaqaac4+cRaqasjvuanhbuKbuanhbuMbuanhbuSbuanhbuWbuaqjvuanhbuRbuanhbu<buanhbu4buBbi,+cS,+cV,+cYIDAxu4oau5b4+bBaojuM4pau5dl4uaK5figdl4+c,atnuQ5euahidfjc4+ddanatanathbvubuaaathbvubujyuhbED4afbuv5b4+dbatjuM4uau5l4+dpan4hau5i"
def QZ:au 1 273 QY:=av
def R0:ao:=aw "Dbbeal4faL5dccabbfaahbghbicbcbkaahblmbnIjoap6JcacbraahbstbucbbbuaahbvubuIzu6alquL4fau5i"
def R1:au 0 274 R0:=av
def R2:ao:=aw "Lcceccfal4dmCa4fp+b9faK5dledcabghd+b5cgircj5eklqfa4afcel4gaM5iadl4ncacbm5fal4qonT4pap5eol4rabcbcbrhbqsbtd+c7bu4afceu4gaK5il4yonU4xau5eudc4zabFbubMacccbud+eScwuiuaivb4afcev4gau5ial4Gabcbcbuhbwubud+c6bu4afceu4gaK5i"
def R3:au 0 280 R2:=av
def R4:ao:=aw "uebial4fm+b9a4hm+b9c4jaL5dl4leceecgd+b;ckl4kam5l4oajsnK5eolajnpK4jaq5ial4sabadnrs4jat5i"
def R5:au 0 281 R4:=av
def R6:ao:=aw "EbbcalaK5l4kaad+cFcjQ4jak4miiaiib4ealam5dl4oaercn5eol4daK5ial4ga15dl4qadgpaK5faglnrq5desahadfblhbprbt4iau5b4wafRu8ahvhuSwu4gau5b4BjrM4sau5l4CafDu;vdu4dau5i"
def R7:au 0 282 R6:=av
def R8:ao:=aw "jcbealm+e:baL5laaJ+eUabdd+eTcfgrch4fai5i"
def R9:au 0 283 R8:=av
def Ra:ao:=aw "jbbdalm+ccaaL5lcacbegfbbogh4eai5i"
def Rb:au 0 284 Ra:=av
def Rc:ao:=aw "jcbealm+b=baL5laaJ+eWabdd+eVcfgrch4fai5i"
def Re:au 0 285 Rc:=av
def Rf:ao:=aw "hbbdalm+bqaaL5leLcbbd+dmcef4eag5i"
def Rg:au 0 286 Rf:=av
def Rh:ao:=aw "hbbcal4cm+bqaaL5lcKbbdgeofK4dag5i"
def Ri:au 0 287 Rh:=av
def Rj:ao:=aw "fbbcal4cm+ccaaL5lcbbbd4dae5i"
def Rk:au 0 288 Rj:=av
def Rl:ao:=aw "obbdalm+bqaaL5lcKcbegfbboghai6veLcd+cmbkrcl6aljmL4ean5i"
def Rm:au 0 289 Rl:=av
def Rn:ao:=aw "jcadl4fab5eelaad+bGcfV5iabaad+bGch05"
def Ro:au 0 290 Rn:=av
def Rp:ao:=aw "gbbcalaN5laaubbdd+cVc,+oXe4daf5i"
def Rq:au 0 291 Rp:=av
def Rr:ao:=aw "Xdcgahal4haKaL5l4naagm4jan5l4pai4kaKao5dfagdl4qajaknpq5erahafblajakjstvhuGu,+p2vdu4mau5l4zacaaalh+bfvue+bfuabLzcvunuK5eubaljuM4kau5b4Jal4lau5l4Kajajainvuau6+bkacaaajh+bfvue+bfuabLzcvuouK6alCuL4haHa,W5i"
def Rs:au 0 295 Rr:=av
def Rt:ao:=aw "lcbfalm+bsa4gaK5lbce+bfdLgbhabd+encij4gak5i"
def Ru:au 0 296 Rt:=av
def Rv:ao:=aw "ucbeal4faK5l4iaad+eYbh4gai5l4kabd+eYbj4hak5dl4maf5eldlag5eml4faK5ial4faX5iadl4oag5enl4faM5iadl4paaabnop5eql4faX5iadl4saaabyrs5etl4faM5ial4faK5i"
def Rw:au 0 297 Rv:=av
def Rx:ao:=aw "lcbeal4dm+cZa4fa,+qU5l4habcbcbhKgi4gpdt4afbfj5l4lJ+e0abf4fak5i"
def Ry:au 0 299 Rx:=av
def Rz:ao:=aw "2cbecGl4fp+bge5l4jabd+c+bi4gp+bge4afGfj5ddc4maaklcambneGf3r4laq4sikaikb4haras5fal4vahrcu4uau5etk4xaakucaubueGfabd+bDbu4a3s5iaaabaacaadaaeaafaagacdehaal4Faakucduburcuau6+bcagabd+e1cvurcu6alyuL4Eau5eub4Qaaaaaaagabd+bDbukzcbu4afbuykAccu4afbuykBcdu4afbuO5aleGf4afGeu5i"
def RA:au 0 300 Rz:=av
def RB:ao:=aw "6cbeal4faL5dl4kaagjd+e2bkrclam6Cabgoaagqspr6alnOs5etl4faL5ialaKa15dl4vaaguaK5faglnuv5deuahadfblav4iau5dk4Aaaahhbvubud+e3buabahhbvubud+e3buDzu4jau5maaabaacaadaafaagaahaaiaaeabijaakaalaal4Lagainvuau6+bkagagaiDvunxu6alzuL5eubahai4gava,V5ab4Xj,wM4xau5dc4Yaaafhbvubuabafhbvubunyu4fau5i"
def RC:au 0 301 RB:=av
def RD:ao:=aw "Gcceafal4faNaK5laN5dl4maaglaK5faglnnm5deoahadfblhblnbp4jaq5l4tabaiLsbt4sau4wirairb4kp+bqa4afLj,va,w5dl4yaksuK5eulak4faNa,z5iab4BageLjBLbuwL+bXwu4hau5b4FjnM4oau5l4Gag4fauaK5i"
def RE:au 1 302 RD:=av
def RF:ao:=aw "Ncbeal4faN5laN5dl4jabaK5faglnji5dekahadfblaj4hal5l4naagmabagAopMnq4iar5dl4taagsabagAvuKtuyuK5eubahjuM4iau5al4CafaaahFbvabud+eBbuubbuxbyzu4gau5b4JaaahFbvbua4bau5b4MjjM4kau5l4Naf4fau5i"
def RG:au 0 303 RF:=av
def RH:ao:=aw "ibbcalaN5dlaaQad5eel4daN5ial4guLaaaxL+bXfg4dah5i"
def RI:au 0 310 RH:=av
def RJ:ao:=aw "ibbcalaN5dlaaQad5eel4daN5ial4gubaaaxbyfg4dah5i"
def RK:au 0 311 RJ:=av
def RL:ao:=aw "ibbcalaN5dlaaQad5eel4daN5ial4gBbaaawbyfg4dah5i"
def RM:au 6 311 RL:=av
def RN:ao:=aw "lbbcal4cm+dvaaL5lcbbbdgeccbbgghjfinjS4dak5i"
def RO:au 0 312 RN:=av
def RP:ao:=aw "Gdcgahal4em+doam+dvbm+dvcaNaK5dlcaebi5ejdkcbebkcbfbmubclnd+e6boecdJ+cnbqad+dzcprisaisb4hata,u5naaabaacaadaagaahaaeaafabgiaajaakaalaamaaiadk4wccebuccfbuubcwud+e7buecdJ+dEbuad+dCcwuiuaivb4hava,F5naaabaacaadaagaahaaeaafabgiaajaakaalaamaai"
def RQ:au 0 313 RP:=av
def RR:ao:=aw "ucbeal4faL5dlaagfabghsgi5ejlaagkabgmnln4fao5ial4qaaXpabXrnqs4fat5i"
def RS:au 0 314 RR:=av
def RT:ao:=aw "gbbcalaN5laad+e9bdd+e8be4daf5i"
def RU:au 0 315 RT:=av
def RV:ao:=aw "+bwbbcc<lp+ftm5lp+ftm5dl4laK5faglnk25delahadfblak4fam5c4oaeaaaeERphboqbrvgsRt,+oZaaaeERujuMhbxubuvguRu>SCuaaaeERujuShbxubuvguRu8SCuaaaeERujuWhbxubuvguSBuzb<dn4afbuv5bjkM4lau5dl4ga25fcgdl4YafnuY5euahcdfddc42afAu,+p3zb<dubuafAuSzb<dubu4haya,85l4:agd+eNcu,+qVagd+eNcu,+qWDwuagGu,+qXDwu4jau5l4+a,ahd+eNcu,+qYahd+eNcu,+qZDwuahGu,+q0Dwu4kau5c4+bhafafAu2zb<dubuaijvuafAu7zb<dubujyuajjvuzb<dH4afbuv5b40afjuM4gau5l4+bwe<d4af<cu5i"
def RW:au 0 321 RV:=av
def RX:ao:=aw "cabac<l4bp+ftm5lqm<ab,+o9bb,+o:cb,+o;db,+o<eb,+o=fb,+o>gb,+o?hb,+o*ib,+o+jb,+o,kb,+palb,+pbmb,+pcnb,+pdob,+pepb,+pfqb,+pgrb,+phsb,+pitb,+pjub,+pkvb,+plwb,+pmxb,+pnyb,+pozb,+ppAb,+pqBb,+prCb,+psDb,+ptEb,+puFb,+pvGb,+pwHb,+pxIb,+pyJb,+pzKb,+pALb,+pBMb,+pCNb,+pDOb,+pEPb,+pFQb,+pGRb,+pHSb,+pITb,+pJUb,+pKVb,+pLWb,+pMXb,+pNYb,+pOZb,+pP0b,+pQ1b,+pR2b,+pS3b,+pT4b,+pU5b,+pV6b,+pW7b,+pX8b,+pY9b,+pZ:b,+p0;b,+p14af<ab5i"
def RY:au 0 322 RX:=av
def RZ:ao:=aw "rcbeal4fa,+p55l4habvhgNh,+q14gai5l4kaaafRjkaaafA9nGmoSlp4faq5i"
def S0:au 0 323 RZ:=av
def S1:ao:=aw "ncbeal4fa,+p55laaabGfgaaabA9jRikShl4fam5i"
def S2:au 1 324 S1:=av
def S3:ao:=aw "jcbeal4faL5laaabd+e=cfgChK4fai5i"
def S4:au 0 329 S3:=av
def S5:ao:=aw "ibbdalm+ccaaL5lbbeccLebfrcg4eah5i"
def S6:au 0 330 S5:=av
def S7:ao:=aw "jcbeal4faL5laaabd+e>cfgChK4fai5i"
def S8:au 0 331 S7:=av
def S9:ao:=aw "ibbdalm+bqaaL5lbbeLcLebfrcg4eah5i"
def Sa:au 0 332 S9:=av
def Sb:ao:=aw "gbbcalaL5laaaasde4daf5i"
def Sc:au 0 334 Sb:=av
def Sd:ao:=aw "wcbfal4gaK5ddc4iaabchbhibjabbchblmbnd+cRcko4hap5l4ragsqK5erlag4gas5ial4uaaabd+bXctu4gau5i"
def Se:au 0 336 Sd:=av
def Sf:ao:=aw "kcbeal4faL5laaXfabXhogi4faj5i"
def Sg:au 0 337 Sf:=av
def Sh:ao:=aw "jbbcalaL5laaCdMae6naaIgQ6alfhL4dai5i"
def Si:au 0 338 Sh:=av
def Sj:ao:=aw "gbbcala15laavhdDe;4daf5i"
def Sk:au 0 339 Sj:=av
def Sl:ao:=aw "KbbcalaN5laK5dl4kaagjaK5faglnlk5demahadfblhbjlbn4gao5l4qadafgqjpr4eas5l4uadntK5eubVj,+p64aWu5abjlM4mau5l4yadd+e,cNu4hau5dl4AaaguaK5fcglnuv5deuahcdfdlhbxvbu4jau5b4Gagaiwbyvu4hau5b4Jj,BM4Cau5l4Kag4dau5i"
def Sm:au 1 342 Sl:=av
def Sn:ao:=aw "KbbcalaN5laK5dl4kaagjaK5faglnlk5demahadfblhbjlbn4gao5l4qadafgqjpr4eas5l4uadntK5eubVj,+p64aWu5abjlM4mau5l4yadd+facNu4hau5dl4AaaguaK5fcglnuv5deuahcdfdlhbxvbu4jau5b4GagaiwL+bXvu4hau5b4Jj,BM4Cau5l4Kag4dau5i"
def Sp:au 1 343 Sn:=av
def Sq:ao:=aw "GbbcalaN5laN5dlaK5fagdl4iaejh7aagjnik5elahadfbl4ga05dlaK5fcgdl4pagnoQ5epahcdfdb4tafETsaaaeagjvuhbxubujtu4gau5b4ragjqM4har5b4Cadafubbuxbbwu4eau5b4naejmQ4fan5l4Gad4dau5i"
def Sr:au 0 344 Sq:=av
def Ss:ao:=aw "HbbcalaN5laN5dla,+q25fagdl4iaeChK5eiahadfbl4gaK5fcgdl4mafaagmnln5eoahcdfdl4saaafhbrsbtvhuju;4hau5b4yadagaevhuGwuKu,+p4veuubbuxbbBu4eau5b4qafjpM4gaq5b4kaeAjM4fak5l4Had4dau5i"
def St:au 0 345 Ss:=av
def Su:ao:=aw "tcbeal4faK5dl4haaggaK5faglnih5dejahadfblai4gak5l4mabaaafhcmnecoLlbp5eqlaf4far5iab4tjiM4jas5l4faX5i"
def Sv:au 0 349 Su:=av
def Sw:ao:=aw "tcbeal4faK5dl4haaggaK5faglnih5dejahadfblai4gak5l4mabaaafhLmneLoLlbp5eqlaf4far5iab4tjiM4jas5l4faX5i"
def Sx:au 0 350 Sw:=av
def Sy:ao:=aw "Bcbeal4faN5dlabnfK5egbVj,+oO4aWh5adlabaaUjaaglAkmAin4cao5l4qabypK5eqbaaaaUstbrabtaabYbynvuaagutbwabua4bau5al4Baa4fau5i"
def Sz:au 6 354 Sy:=av
def SA:ao:=aw "Bcbeal4faN5dlabnfK5egbVj,+oO4aWh5adlabaaUjaaglAkmAin4cao5l4qabypK5eqbaaaaUstLrabtaabYL+bXavuaagutLwabua4bau5al4Baa4fau5i"
def SB:au 6 355 SA:=av
end Go.Proofs.YtlgnfcaolejgeaaGreat
