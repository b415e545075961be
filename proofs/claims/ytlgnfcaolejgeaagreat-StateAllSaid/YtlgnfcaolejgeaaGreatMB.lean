import Derived.Test.YtlgnfcaolejgeaaGreatMA
import Derived.Lib.Overlaps
import Derived.Laws.Externs
import Derived.KernelRfl
import Derived.Test.YtlgnfcaolejgeaaGreatProg
set_option linter.all false
namespace Go.bA
open Go
variable{n b3:R}{s a7:R -> U -> Prop}{j8:Array Value}{j:Fr}{f t e7:U}{g A e1:List R}{e i v M c0 j0:Nat}{u:bl}{m:Program}{e4:Value}{l h8:World}
section
variable  {o:Oper}{a:Act}   
def I8 (x:TypeId) (b:Operand) (y:o.op= .call {callee:= .builtin .cap,args:= #[b],argTypes:= #[x]}) (F:TypeId) (z:m.underlying x=some (.slice F)) (L:aT b=true) (P:bL u a j) (C:Holds u f l) (c:G ⟨m,s⟩ (.mD b) j f a7):bR m s o a l u f a7:=by
 have d:=P.aj b L;simp only[G]at c;generalize D:a.eval b=W at d;split at c
 case h_2=>exact c.elim
 rename_i e h;unfold q9 at h;split at h
 .rename_i S T k E r;rw[r]at d;obtain rfl:=a4G h;cases d with
  |al S T k E hk V=>exact .same C (v:= .int .i64 k) (by simp[execOp,y,resolve,invoke,builtin,D,Builtin.cap_,run_underlying z,goInt]) (.v _ rfl) c
 .rename_i r;rw[r]at d;obtain rfl:=a4G h;cases d with
  |di g k dn bP p=>simp only[Own.lH]at p;subst p;have:=bP rfl;subst this;exact .same C (v:= .int .i64 0) (by simp[execOp,y,resolve,invoke,builtin,D,Builtin.cap_,run_underlying z,goInt]) (.v _ rfl) c
  |J i off len k E n xs dn hk hlen V q t hH v p=>exact p.elim
 .cases h
theorem I9 (z r:Nat) (y d h:Option Operand) (k b c:Int) (C:(y=none/\k=0)\/ ∃p,valOf a y=some (.int p k)) (D:(d=none/\b=z)\/ ∃p,valOf a d=some (.int p b)) (L:(h=none/\c=r)\/ ∃p,valOf a h=some (.int p c))
  (P:h=none\/d.isSome=true) (S:0<=k) (T:k<=b) (j:b<=c) (l:c<=r) (E:World):(Instr.sliceBounds true z r (valOf a y) (valOf a d) (valOf a h)).run m E= .ok (k.toNat,b.toNat,c.toNat) E:=by
 have n:(b.toNat:Int)=b:=a6o a9p;have q:(c.toNat:Int)=c:=a6o a9p;have V:0<=b:=a9p;have s:0<=c:=a9p;have W:b<=(r:Int):=a9p;have x:valOf a none=none:=rfl;rcases L with ⟨rfl,rfl⟩|⟨t,hm⟩
 .rcases C with ⟨rfl,rfl⟩|⟨e,F⟩<;>rcases D with ⟨rfl,rfl⟩|⟨f,G⟩
  .simp[Instr.sliceBounds,x]
  .simp only[Instr.sliceBounds,x,G];simp[run_sliceBound,W,V]
  .simp only[Instr.sliceBounds,x,F];simp[run_sliceBound,S,T]
  simp_all [Instr.sliceBounds,run_sliceBound]
 .have g:h≠none:=by rintro rfl;rw[x]at hm;cases hm
  have i:d.isSome=true:=P.resolve_left g;rcases D with ⟨rfl,rfl⟩|⟨f,G⟩
  .simp at i
  rcases C with ⟨rfl,rfl⟩|⟨e,F⟩;simp_all [Instr.sliceBounds,run_sliceBound];simp_all [Instr.sliceBounds,run_sliceBound]
def Ia (k2:TypeId) (e:Operand) (F P S:Option Operand) (k4:o.op= .slice k2 e F P S) (k5:S=none\/P.isSome=true) (Y:TypeId) (k6:m.underlying k2=some (.slice Y)) (g:Nat) (H:(m.info? Y).map (·.size)=some g) (k7:aT e=true) (I:F.all aT=true) (K:P.all aT=true) (M:S.all aT=true)
  (p:bL u a j) (N:Holds u f l) (T:G ⟨m,s⟩ (.lO g e F P S) j f a7):bR m s o a l u f a7:=by
 have r:=p.aj e k7;have O: ∀(i:Option Addr) (len k:Nat) (c h d:Int),((F=none/\c=0)\/ ∃q,valOf a F=some (.int q c))->((P=none/\h=len)\/ ∃q,valOf a P=some (.int q h))->((S=none/\d=k)\/ ∃q,valOf a S=some (.int q d))->0<=c->c<=h->h<=d->d<=k->
   a.eval e= .slice i len k->(execOp a.eval o).run m l= .ok (.value (sliced i c.toNat h.toNat d.toNat g)) l:=by
  intro i len k c h d x y z t v w C n;have k3:=I9 (m:=m) len k F P S c h d x y z k5 t v w C l;simp only[valOf]at k3;cases Z:m.info? Y with
  |none=>simp[Z]at H
  |some ii=>
   have k8:ii.size=g:=by simpa[Z] using H
   simp[execOp,k4,n,Instr.sliceAt,Instr.slice,run_underlying k6,k3,sizeOf,typeInfo,Z,k8,sliced]
 simp only[G]at T;generalize n:a.eval e=l6 at r;split at T
 case h_2=>exact T.elim
 rename_i L b;unfold rC at b;split at b
 .rename_i A len k Q V;rw[V]at r;split at b
  case h_2=>cases b
  rename_i c h d D W hm;split at b
  case isFalse=>cases b
  rename_i C;obtain⟨rfl,t,v,w,j9⟩:=C;obtain rfl:=a4G b;have x:=gl p I D;have y:=gl p K W;have z:=gl p M hm;cases r with
  |al A k9 k Q X k0=>
   have L:=O _ len k c h d (by simpa using x) y z t v w j9 n;refine .same N L ?_ T;cases F with
   |none=>
    simp only[df,a4S]at D;subst D;simp only[a6I,a5Q,if_false];have:sliced (some ⟨A,0,none⟩) ((0:Nat):Int).toNat h.toNat d.toNat Q= .slice (some ⟨A,0,none⟩) h.toNat d.toNat:=by unfold sliced;simp[Addr.add]
    rw[this];exact .al _ _ _ _ X a9p
   |some F=>
    simp only[a7i,if_true];by_cases B:c<d
    .rw[if_pos B];unfold sliced;rw[if_neg a9p,a5M,hi,a5e];exact .bw _ _ _ _ _ X a9p
    .rw[if_neg B];unfold sliced;have:h.toNat - c.toNat=0:=a9p;rw[this];exact .di _ _ _ (λl0=>by omega) (show d.toNat - c.toNat=0 by omega)
 .rename_i A k1 len k Q V;rw[V]at r;split at b
  case h_2=>cases b
  rename_i c h d D W hm;split at b
  case isFalse=>cases b
  rename_i C;obtain⟨rfl,t,v,w,j9⟩:=C;obtain rfl:=a4G b;have x:=gl p I D;have y:=gl p K W;have z:=gl p M hm;cases r with
  |bw A k1 k9 k Q X k0=>
   have L:=O _ len k c h d (by simpa using x) y z t v w j9 n;refine .same N L ?_ T;by_cases B:c<d
   .rw[if_pos B];unfold sliced;rw[if_neg a9p,a5M,hi];exact .bw _ _ _ _ _ X a9p
   .rw[if_neg B];unfold sliced;have:h.toNat - c.toNat=0:=a9p;rw[this];exact .di _ _ _ (λl0=>by omega) (show d.toNat - c.toNat=0 by omega)
 .rename_i V;rw[V]at r;split at b
  case h_2=>cases b
  rename_i c h d D W hm;split at b
  case isFalse=>cases b
  rename_i C;obtain⟨rfl,rfl,rfl⟩:=C;obtain rfl:=a4G b;have x:=gl p I D;have y:=gl p K W;have z:=gl p M hm;cases r with
  |di i k dn bP E=>simp only[Own.lH]at E;subst E;have:=bP rfl;subst this;have L:=O none 0 0 0 0 0 (by simpa using x) (by simpa using y) (by simpa using z) a9p a9p a9p a9p n;exact .same N L (.di _ _ .nil (λ_=>rfl) rfl) T
  |J l1 k1 len k g l2 xs dn H hlen k0 l3 l4 hH l5 E=>exact E.elim
 .rename_i V;rw[V]at r;split at b
  case h_2=>cases b
  rename_i c h d D W hm;split at b
  case isFalse=>cases b
  rename_i C;obtain⟨rfl,rfl,rfl⟩:=C;obtain rfl:=a4G b;have x:=gl p I D;have y:=gl p K W;have z:=gl p M hm;cases r with
  |di i k dn bP E=>simp only[Own.lH]at E;subst E;have L:=O i 0 0 0 0 0 (by simpa using x) (by simpa using y) (by simpa using z) a9p a9p a9p a9p n;refine .same N L ?_ T;unfold sliced;exact .di _ _ .zero (λ_=>rfl) rfl
  |J l1 k1 len k g l2 xs dn H hlen k0 l3 l4 hH l5 E=>exact E.elim
 .cases b
theorem w2 (h:j8.size=e) (E: ∀b∈j8.toList,b.oneCell'=true) (z:0<e) (c:Nat):br u (Builtin.zeroCells j8 c) (List.replicate c (j8.toList.map cY)).flatten/\(∀p∈(List.replicate c (j8.toList.map cY)).flatten,p.one=true):=by
 have r:(j8.toList.map cY).length=e:=by simp[h]
 refine⟨br.dT.2 ⟨by simp[size_zeroCells,jH],λx b F d C=> ?_⟩,λp k=> ?_⟩
 .have y:x<c*e:=by grind[List.getElem?_eq_some_iff,jH]
  rw[vZ _ _ _ (by rw[r];exact y),r,a5j]at C;rw[a6g]at d;have G:x%e<j8.size:=by rw[h];exact a6S _ z
  simp only[Builtin.zeroCells,h]at d;rw[a8o]at d;simp only[a8Z,y,if_true,a5M,a4S]at d;grind[Array.getElem?_eq_getElem,Option.some.injEq,aZ.cY]
 .obtain⟨L,D,k⟩:=a8z.1 k;obtain rfl:=(List.mem_replicate.1 D).2;obtain⟨b,_,rfl⟩:=a5d.1 k;exact nK b
theorem Ib (P:TypeId) (h:Operand) (C:o.op= .call {callee:= .builtin .clear,args:= #[h],argTypes:= #[P]}) (S:TypeId) (D:m.underlying P=some (.slice S)) (p:TypeInfo) (w:m.info? S=some p) (c:Value) (A:p.zero=some c) (V:c.cells.size=p.size) (W: ∀h∈c.cells.toList,h.oneCell'=true) (e:0<p.size)
  (B:aT h=true) (H:bL u a j) (g:Holds u f l) (y:G ⟨m,s⟩ (.mE p.size (c.cells.toList.map cY) h) j f a7):bR m s o a l u f a7:=by
 have z:=H.aj h B;simp only[G]at y;generalize E:a.eval h=k3 at z;split at y
 case h_2=>exact y.elim
 rename_i k4 d;unfold kp at d;split at d
 .rename_i r k b F I L;rw[L]at z;split at d
  case h_2=>cases d
  rename_i k5 K;split at d
  case isFalse=>cases d
  rename_i M;obtain⟨rfl,N⟩:=M;obtain rfl:=a4G d;obtain⟨i,n⟩:=w2 (u:=u) V W e b;have q:(List.replicate b (c.cells.toList.map cY)).flatten.length=b*p.size:=by rw[jH];simp[V]
  obtain⟨x,T,t,k6,O⟩:=Step.store g K k _ _ i n (by rw[q];exact N);refine .value (v:= .tuple #[]) ?_ O (.undef _) y;have v:=run_storeCells_at m r k T (Builtin.zeroCells c.cells b).toList 0 x l t (by have:=i.1;simp only[a7J];omega) (An W b);simp only[a6x]at v;have Q:(storeCells ⟨r,k,none⟩ (Builtin.zeroCells c.cells b).toList).run m l= .ok () (l.setRow r (cX x k (Builtin.zeroCells c.cells b).toList)):=by rw[v];rfl
  cases z with
  |bw r k b F I k7 X=>
   cases b with
   |zero=>
    have Y:(Builtin.zeroCells c.cells 0).toList= []:=a4N (by simp[size_zeroCells]);have Z:cX x k []=x:=by simp[cX]
    rw[Y,Z];have j9:l.setRow r x=l:=setRow_self l r x T (0,0) t;simp[execOp,C,resolve,invoke,builtin,E,Builtin.clear_,run_underlying D,j9]
   |succ b=>simp[execOp,C,resolve,invoke,builtin,E,Builtin.clear_,run_underlying D,zeroValue,w,A,typeInfo,Q]
 .rename_i k8 L;rw[L]at z;obtain rfl:=a4G d;have k0:(execOp a.eval o).run m l= .ok (.value (.tuple #[])) l:=by
   cases z with
   |di k1 F dn bP k2=>cases k1<;>simp[execOp,C,resolve,invoke,builtin,E,Builtin.clear_,run_underlying D]
   |J k9 k len F l0 l1 xs dn e q X l2 n hH l3 k2=>simp_all [execOp,resolve,invoke,builtin,Builtin.clear_,run_underlying]
  exact .same g k0 (.undef _) y
 .cases d
theorem Ic (L:aZ u e4 n) (M:Holds u f l) (c:bM f e n=some (i,g)) (y:Program) (b:Nat) (x:b<=i):
  ∃z:List Value,(Builtin.firstCells e b e4).run y l= .ok z.toArray l/\br u z.toArray (g.take (b*e))/\(g.take (b*e)).length=b*e:=by
 have P: ∀(S:Value) (T:R) (V:List R),aZ u S T->bM f e T=some (b,V)->V=g.take (b*e)->(Builtin.firstCells e b S).run y l=(Builtin.firstCells e b e4).run y l->
   ∃z:List Value,(Builtin.firstCells e b e4).run y l= .ok z.toArray l/\br u z.toArray (g.take (b*e))/\(g.take (b*e)).length=b*e:=by
  intro S T V N W t O;obtain⟨Q,v,w,k4,_⟩:=vY N M W y;refine⟨Q,by rw[<-O];exact v.cells,?_,by rw[<-t,<-w];exact v.size⟩;rw[<-t];refine br.dT.2 ⟨by simpa using w,λC k5 j k6 k7=> ?_⟩;grind
 have k8:=c;unfold bM at c;split at c
 .rename_i k A;split at c
  case isFalse=>cases c
  rename_i k9;simp only[a4S,a5U]at c;obtain⟨rfl,rfl⟩:=c;have l0: ∀D∈k,D.cells.length=e:=by simp_all
  cases L with
  |di X d A bP Y=>simp only[a4R,Nat.le_zero]at x;subst x;exact⟨[],by cases X<;>simp[Builtin.firstCells,loadCells,loadCellsFrom],⟨a9q,λC j c=>by simp at c⟩,a9q⟩
  |J B r len d F Z k A hk hlen H I l1 hH l2 Y=>
   subst hlen;have j9: ∀D∈k.take b,D.cells.length=F:=λD k0=>I D (a4Z k0);have k1:flat (k.take b)=(flat k).take (b*F):=((fZ b I).2).symm;by_cases K:k= []
   .subst K;simp only[a4R,Nat.le_zero]at x;subst x;exact⟨[],by simp[Builtin.firstCells,loadCells,loadCellsFrom],⟨a9q,λC j c=>by simp at c⟩,a9q⟩
   obtain rfl:F=e:=by
    match k,K with
    |l3::l4,_=>simp_all
   refine P (.slice (some ⟨B,r,none⟩) b d) (.J (k.take b) .any) (flat (k.take b)) (.J B r b d F Z (k.take b) .any hk a9r a9p j9 (λl5 G=> ?_) (λC k2=>hH C (a5X k2 (a4Y _ x))) (λC j l6=> ?_) trivial) ?_ k1 rfl;grind;grind
   .unfold bM;simp_all
 .rename_i p E d h;split at c
  case h_2=>cases c
  rename_i m q;split at c
  case isFalse=>cases c
  rename_i G;simp only[a4S,a5U]at c;obtain⟨rfl,rfl⟩:=c;obtain⟨rfl,k3⟩:=G;have W:b*h<=E*h:=a4Y _ x;cases L with
  |al p E d h s H=>refine P (.slice (some ⟨p,0,none⟩) b d) (.al p b d h) (m.take (b*h)) (.al p b d h s a9p) ?_ (by grind) rfl;simp only[bM,q];rw[if_pos ⟨trivial,a9p⟩]
 .rename_i p r E d h;split at c
  case h_2=>cases c
  rename_i m q;split at c
  case isFalse=>cases c
  rename_i G;simp only[a4S,a5U]at c;obtain⟨rfl,rfl⟩:=c;obtain⟨rfl,k3⟩:=G;have W:b*h<=E*h:=a4Y _ x;cases L with
  |bw p r E d h s H=>refine P (.slice (some ⟨p,r,none⟩) b d) (.bw p r b d h) ((m.drop r).take (b*h)) (.bw p r b d h s a9p) ?_ (by grind) rfl;simp only[bM,q];rw[if_pos ⟨trivial,a9p⟩]
 .cases c
theorem Ie (N k2:TypeId) (D E:Operand) (q:o.op= .call {callee:= .builtin .copy,args:= #[D,E],argTypes:= #[N,k2]}) (t:TypeId) (v:m.underlying N=some (.slice t)) (d:Nat) (k3:(m.info? t).map (·.size)=some d)
  (k4:aT D=true) (k5:aT E=true) (O:bL u a j) (V:Holds u f l) (W:G ⟨m,s⟩ (.mF d D E) j f a7):bR m s o a l u f a7:=by
 have y:=O.aj D k4;have Q:=O.aj E k5;simp only[G]at W;generalize e:a.eval D=k6 at y;split at W
 case h_2=>exact W.elim
 rename_i n1 n2 c;unfold kZ at c;split at c
 case h_2=>cases c
 rename_i h z X;obtain⟨k7,g,k8,n3,k9⟩:=vY Q V X m;have l0:k7.length=h*d:=g.size;have n4:z.length=h*d:=by rw[<-k8,l0]
 have Y: ∀b,∃r:Array Value,(Builtin.firstCells d (min h b) (a.eval E)).run m l= .ok r l/\br u r (z.take (b*d))/\(z.take (b*d)).length=min h b*d:=by intro b;obtain⟨r,n5,n9,a00⟩:=Ic Q V X m (min h b) a9p;grind[min,Nat.mul_le_mul_right,Nat.min_eq_left,List.take_of_length_le,Nat.min_eq_right]
 have l1: ∃w,m.info? t=some w/\w.size=d:=by simp_all
 obtain⟨w,A,B⟩:=l1;have a01: ∀(k p b x:Nat) (C:List R),k6= .slice (some ⟨k,p,none⟩) b x->f k=some (.cells C)->p+b*d<=C.length->
   a7 (.v (.int .i64 (min h b:Nat))) (f.set k (.cells (putAt C p (z.take (b*d)))))->bR m s o a l u f a7:=by
  intro k p b x C l2 H Z l3;obtain⟨r,F,L,i⟩:=Y b;have I: ∀K∈z.take (b*d),K.one=true:=λK P=>k9 K (a4Z P);have a02:min h b*d<=b*d:=a4Y _ a9p;obtain⟨j9,T,l4,a03,l5⟩:=Step.store V H p (z.take (b*d)) r L I a9p;refine .value (v:= .int .i64 (min h b:Nat)) ?_ l5 (.v _ rfl) l3;have k0:=run_storeCells_at m k p T r.toList 0 j9 l l4 (by have:=L.1;simp;omega) (L.nI I);simp only[a6x]at k0;have l6:(storeCells ⟨k,p,none⟩ r.toList).run m l= .ok () (l.setRow k (cX j9 p r.toList)):=by rw[k0];rfl
  have n:Nat.min h b=min h b:=rfl;rw[l2]at e;simp[execOp,q,resolve,invoke,builtin,e,Builtin.copy_,run_underlying v,g.len,sizeOf,typeInfo,A,B,n,F,l6,goInt]
 split at c
 .rename_i k p b x M S;rw[S]at y;split at c
  case h_2=>cases c
  rename_i C H;split at c
  case isFalse=>cases c
  rename_i P;obtain⟨rfl,Z⟩:=P;simp only[a4S,a5U]at c;obtain⟨rfl,rfl⟩:=c;cases y with
  |bw k p b x M l7 k1=>grind
 .rename_i k b x M S;rw[S]at y;split at c
  case h_2=>cases c
  rename_i C H;split at c
  case isFalse=>cases c
  rename_i P;obtain⟨rfl,Z⟩:=P;simp only[a4S,a5U]at c;obtain⟨rfl,rfl⟩:=c;cases y with
  |al k b x M l7 k1=>simp_all
 .rename_i a04 S;rw[S]at y;simp only[a4S,a5U]at c;obtain⟨rfl,rfl⟩:=c;have c:(execOp a.eval o).run m l= .ok (.value (.int .i64 0)) l:=by
   obtain⟨r,F,L,i⟩:=Y 0;have n:Nat.min h 0=0:=Nat.min_zero h;rw[Nat.min_zero]at F;have l8:r= #[]:=a8h (by have:=L.1;simp at this;simpa using this);subst l8;cases y with
   |di l9 x dn bP n0=>cases l9<;>simp[execOp,q,resolve,invoke,builtin,e,Builtin.copy_,run_underlying v,g.len,sizeOf,typeInfo,A,B,n,F,goInt,storeCells]
   |J a05 p len x d a06 xs dn k3 i k1 a07 I hH a08 n0=>simp at i;subst i;simp[execOp,q,resolve,invoke,builtin,e,Builtin.copy_,run_underlying v,g.len,sizeOf,typeInfo,A,B,n,F,goInt,storeCells]
  exact .same V c (.v _ rfl) W
 .cases c
theorem Ig (k:FuncId) (c:Func) (p r:Operand) (M:Array TypeId) (N:o.op= .call {callee:= .value (.func k),args:= #[p,r],argTypes:=M}) (O:m.funcs[k]? =some c) (Q:(c.name== "runtime.NumGoroutine")=false) (X:c.body.isNone=true) (Y:Extern.findNext c=none)
  (d:TypeId) (D:Array TypeId) (Z:Extern.find c=some (Extern.SlicesOverlaps.overlaps #[d,d] D)) (x:TypeId) (j9:m.underlying d=some (.slice x)) (E:Nat) (k0:(m.info? x).map (·.size)=some E)
  (k1:aT p=true) (k2:aT r=true) (w:bL u a j) (A:Holds u f l) (z:G ⟨m,s⟩ (.mH p r) j f a7):bR m s o a l u f a7:=by
 have B:=w.aj p k1;have H:=w.aj r k2;simp only[G]at z;generalize k3:a.eval p=n9 at B;generalize k4:a.eval r=a00 at H;split at z
 case h_2=>exact z.elim
 rename_i a01 h;unfold kr at h;split at h
 case h_2=>cases h
 rename_i F L k5 k6;split at h
 case isFalse=>cases h
 rename_i k7;obtain⟨k8,k9,l0⟩:=k7;obtain rfl:=a4G h;have I: ∀(P:R) (S:Value) (b:Nat),cQ P=some b->aZ u S P-> ∃l1 l2 l3,S= .slice (some ⟨b,l1,none⟩) l2 l3:=by
  intro P S b y V;cases V<;>simp only[cQ,a4S,reduceCtorEq]at y
  .subst y;exact⟨_,_,_,rfl⟩
  .subst y;exact⟨_,_,_,rfl⟩
 have K: ∀b,kq f b=true-> ∃C T,l.heap[b]? =some (.cells C T (0,0))/\C.size≠0:=by
  intro b W;unfold kq at W;split at W
  .rename_i a02 a03 l4;obtain⟨_,C,T,y,V,_⟩:=A.dS b _ l4;exact⟨C,T,y,by rw[V.1];simp⟩
  .cases W
 obtain⟨e,g,i,rfl⟩:=I _ _ _ k5 B;obtain⟨n,q,c2,rfl⟩:=I _ _ _ k6 H;obtain⟨l5,l6,t,a04⟩:=K _ k9;obtain⟨l7,l8,l9,n0⟩:=K _ l0;have n1: ∀l,(Go.sizeOf x).run m l= .ok E l:=by
  intro l;cases n2:m.info? x with
  |none=>simp[n2]at k0
  |some ii=>simp_all [sizeOf,typeInfo]
 have n3:=Lib.run_overlaps_apart (P:=m) l d (D.getD 0 0) x j9 E n1 ⟨F,e,none⟩ ⟨L,n,none⟩ g i q c2 k8 l6 l8 l5.size l7.size (by simp[World.shape?,t]) (by simp[World.shape?,l9]) n0 (by simp[World.frozen?,t]) (by simp[World.frozen?,t]);have n4:(Extern.SlicesOverlaps.overlaps #[d,d] D #[.slice (some ⟨F,e,none⟩) g i,.slice (some ⟨L,n,none⟩) q c2]).run m l= .ok (.bool false) l:=n3;have v:=run_callFunc_extern (P:=m) (f:=k) (fn:=c) O Q X Y Z #[.slice (some ⟨F,e,none⟩) g i,.slice (some ⟨L,n,none⟩) q c2] l;rw[n4]at v;simp only[Result.andThen_ok]at v;refine .same A (v:= .bool false) ?_ (.v _ rfl) z;have n5:a.eval (.func k)= .func (.func k) #[] #[]:=rfl;simp[execOp,N,resolve,n5,Deferred.ofValue,invoke,k3,k4,v]
def Au (h:World) (z x G p:TypeId) (d:TypeInfo) (y:Value) (C:IntKind) (L:m.underlying z=some (.slice p)) (P:m.underlying x=some (.int C))
  (S:m.info? p=some d) (T:d.zero=some y) (D:Option Addr) (c k:Nat) (E:List Value) (u:0<d.size)
  (V:(Builtin.firstCells d.size c (.slice D c k)).run m h.drew= .ok E.toArray h.drew)
  (b:Nat) (v:0<b) (W:k<c+b) (w:((c+b:Nat):Int)<=9223372036854775807) (e:(c+b)*d.bytes<=140737488355328):
  (Builtin.append_ #[z,x] G #[.slice D c k,.int .i64 b]).run m h=
   .ok (.slice (some ⟨h.heap.size,0,none⟩) (c+b) (grownCap h (c+b) k p))
    (h.drew.alloc (.cells (E.toArray++Builtin.zeroCells y.cells b++Builtin.zeroCells y.cells (grownCap h (c+b) k p -(c+b))) p)):=by
 have f: ¬(c+b<=k):=a9p;have g: ¬(9223372036854775807<((c:Int)+(b:Int))):=a9p;have i: ¬(281474976710656<Builtin.nextslicecap (c+b) k*d.bytes):=by have:=growslice_fits W e;omega
 have j:IntKind.i64.wrap (b:Int)=b:=by rw[IntKind.wrap_i64];omega
 have l: ¬((b:Int)<0):=a9p;have A:b*d.bytes<=(c+b)*d.bytes:=a4Y _ a9p;have n: ¬(281474976710656<(b:Int)*(d.bytes:Int)):=by rw[<-Int.natCast_mul];omega
 have F:b≠0:=a9p;have q: ¬(b*d.size=0):=Nat.mul_ne_zero F a9p;have s: ∀r:World,(underlying x).run m r= .ok (.int C) r:=λr=>run_underlying P r;have t: ¬(d.size=0):=a9p;simp[Builtin.append_,run_underlying L,s,sizeOf,typeInfo,zeroValue,S,T,asInt,asIntOf,j,l,f,q,F,t,g,i,n,Question.forced,V,newRow,grownCap]
theorem Ih (r x:Operand) (C D:TypeId) (B:IntKind) (k0:m.underlying D=some (.int B)) (k1:o.op= .call {callee:= .builtin .append,args:= #[r,x],argTypes:= #[C,D]}) (k:TypeId) (k2:m.underlying C=some (.slice k)) (d:TypeInfo) (k3:m.info? k=some d) (p:Value) (k4:d.zero=some p)
  (H:p.cells.size=d.size) (k5: ∀r∈p.cells.toList,r.oneCell'=true) (y:0<d.size) (l3:aT r=true) (l4:aT x=true) (k6:bL u a j) (S:Holds u f l) (z:G ⟨m,s⟩ (.mG d.size d.bytes (p.cells.toList.map cY) r x) j f a7):bR m s o a l u f a7:=by
 have E:=k6.aj r l3;have V:=k6.aj x l4;simp only[G]at z;generalize k7:a.eval r=l5 at E;generalize k8:a.eval x=a01 at V;have newRow: ∀(I:List Value) (b c h:Nat) (e:List R),br u I.toArray e->(∀W∈e,W.one=true)->b+c<=h->
   ∃F:List R,F.length=(h -(b+c))*d.size/\Step u f l u (f.set l.heap.size (.cells (e++(List.replicate c (p.cells.toList.map cY)).flatten++F))) (l.drew.alloc (.cells (I.toArray++Builtin.zeroCells p.cells c++Builtin.zeroCells p.cells (h -(b+c))) k)):=by
  intro I b c h e K M N;obtain⟨l6,a02⟩:=w2 (u:=u) H k5 y c;obtain⟨l7,a03⟩:=w2 (u:=u) H k5 y (h -(b+c));refine⟨(List.replicate (h -(b+c)) (p.cells.toList.map cY)).flatten,by rw[jH];simp[H],?_⟩;refine(Step.drew S).trans (Step.new S.drew _ k _ (λW g=> ?_) (br.append (br.append K l6) l7));grind
 split at z
 .rename_i i b h a04 c O Q;rw[O]at E;rw[Q]at V;obtain rfl:=V.dU;split at z
  case h_2=>exact z.elim
  rename_i n l8;obtain⟨rfl,l9,k9,n0,X,n1,Y⟩:=z;obtain⟨M,q,T,a05,a06,l0⟩:=S.read l8;have a07:q.size=n.length:=l0.1;have Z:((c.toNat:Nat):Int)=c:=a6o k9;cases E with
  |al i b h n2 a08 N=>
   have a09:b*d.size<=n.length:=by rw[l9];exact a4Y _ N
   have n3:(q.toList.take (b*d.size)).length=b*d.size:=a9r;have n4:(Builtin.firstCells d.size b (.slice (some ⟨i,0,none⟩) b h)).run m l.drew= .ok (q.toList.take (b*d.size)).toArray l.drew:=by
    refine run_firstCells_some l.drew d.size b ⟨i,0,none⟩ b h _ n3 (λl1 v E=> ?_);have a10:l1<b*d.size:=by grind
    rw[hi,a5e];show l.cell? _= _;grind[cell_of_row,List.getElem?_take_of_lt]
   have L:=Au (m:=m) l C D o.type k d p B k2 k0 k3 k4 (some ⟨i,0,none⟩) b h _ y n4 c.toNat a9p n0 a9p X;rw[Z]at L;have P:=grownCap_ge l (b+c.toNat) h k;have j9:=grownCap_le_maxLen l (b+c.toNat) h k (by unfold maxLen;omega);have K:br u (q.toList.take (b*d.size)).toArray (n.take (b*d.size)):=by rw[br.dT]at l0|-;grind
   obtain⟨F,t,w⟩:=newRow _ b c.toNat (grownCap l (b+c.toNat) h k) (n.take (b*d.size)) K (λW g=>M W (a4Z g)) P;exact .value (iS r x C D k1 (by rw[k7,k8];exact L)) w (.al _ _ _ _ y P) (Y _ _ F S.en P j9 t)
 .rename_i n5 l2 c O Q;rw[O]at E;rw[Q]at V;obtain rfl:=V.dU;obtain⟨rfl,rfl,k9,X,n1,Y⟩:=z;have Z:((c.toNat:Nat):Int)=c:=a6o a9p;have n9:l5= .slice none 0 0:=by
   cases E with
   |di a11 h l2 bP A=>simp only[Own.lH]at A;subst A;rw[bP rfl]
   |J a13 off len h n2 a14 n5 l2 y hlen N a15 M hH a16 A=>exact A.elim
  subst n9;have L:=Au (m:=m) l C D o.type k d p B k2 k0 k3 k4 none 0 0 [] y (by simp[Builtin.firstCells]) c.toNat a9p a9p a9p (by simpa using X);rw[Z]at L;simp only[a5e]at L;have P:=grownCap_ge l c.toNat 0 k;have j9:=grownCap_le_maxLen l c.toNat 0 k (by unfold maxLen;omega);obtain⟨F,t,w⟩:=newRow [] 0 c.toNat (grownCap l c.toNat 0 k) [] ⟨rfl,λl1 a18 a00=>by simp at a00⟩ (λW g=>by simp at g) a9p;simp only[a5e,a5b]at w t;exact .value (iS r x C D k1 (by rw[k7,k8];exact L)) w (.al _ _ _ _ y P) (Y _ _ F S.en P j9 t)
 .exact z.elim
end
def ks (a:Program) (b:TypeId):Option Nat:=(a.info? b).map (·.size)
def placeOf (a:Program) (h:TypeId) (b:Nat):Option (Nat×Nat):=
 match a.underlying h with
 |some (.struct k)=>(k.toList.mapM (λc=>(a.info? c.type).map λo=>(c.offset,o.size))).bind λp=>p[b]?
 |some (.array _ r)=>(a.info? r).map λd=>(b*d.size,d.size)
 | _=>none
def w3 (a:Program) (c:TypeId):Bool:=
 match a.underlying c with
 |some (.struct d)=>(d.toList.mapM (λb=>(a.info? b.type).map λh=>(b.offset,h.size))).isSome
 |some (.array _ k)=>(a.info? k).isSome
 | _=>false
def rF (b:Program) (c:TypeId):Option (Array Value):=
 match b.info? c with
 |some d=>match d.zero with
  |some a=>if a.cells.toList.all (·.oneCell')then some a.cells else none
  |none=>none
 |none=>none
def Av (b:Program) (c:TypeId) (a:Nat×Operand):Option (Nat×Nat×Operand):=
 match placeOf b c a.1 with
 |some (off,cq)=>if 0<cq/\aT a.2=true then some (off,cq,a.2)else none
 |none=>none
def rG (a:Program) (b:TypeId):List (Nat×Operand)->Option (List (Nat×Nat×Operand))
 | []=>some []
 |c::d=>match Av a b c,rG a b d with
  |some h,some k=>some (h::k)
  | _,_=>none
def rH:Nat->List (Nat×Operand)->Option (List Operand)
 | _,[]=>some []
 |a,(c,b)::d=>if a=c/\aT b=true then(rH (a+1) d).map (b:: ·)else none
def Aw (a:Program) (b:TypeId) (c:Operand):Option ca:=
 match a.underlying b,ks a b with
 |some d,some h=>if aT c=true/\(d.isRow=true\/h=1)then some (.load d.isRow h c)else none
 | _,_=>none
structure Env where
 jz:List Nat
 Ax:List Nat
 wr:List Nat
 tA:List Nat
 ty:Bool
 lQ:Bool
 pins:List Nat:= []
 Ay:Bool:=false
 w4:Bool:=false
def Env.Ii (a:Env):Operand->Bool
 | .tmp b=>a.Ax.contains b
 | _=>false
def Env.fG (a:Env):Option Nat->Bool
 |some b=> !a.wr.contains b
 |none=>true
def Env.mut (a:Env):Option Nat->Bool
 |some b=>a.tA.contains b
 |none=>false
def Env.box (a:Env):Option Nat->Bool
 |some b=>a.jz.contains b
 |none=>false
def w5 (h:Program) (o:Env) (r:Option Nat) (x:TypeId) (a:Operand) (c d y:Option Operand):Option ca:=
 if aT a=true/\c.all aT=true/\d.all aT=true then
  match h.underlying x,y with
  |some (.slice k),none=>match ks h k with
   |some b=>some (.oS b a c d)
   |none=>none
  |some (.array p k),none=>match ks h k with
   |some b=>if 0<b then some (if o.Ii a=true then .jE b p a c d else .kj b p a c d (o.fG r))else none
   |none=>none
  | _,_=>none
 else none
def tB (a:Program) (b:Bool) (c:TypeId) (d h:Operand):Option ca:=
 match a.underlying c with
 |some .bool=>none
 |some (.slice _)=>match h with
  | .const (.slice none 0 0)=>some (.mA b d)
  | _=>none
 |some (.pointer _)=>some (.q4 b d h)
 |some (.int _)=>some (.bin (if b then .neq else .eql) d h)
 |some .string=>some (.bin (if b then .neq else .eql) d h)
 |some k=>match flatK a 20 c with
  |some bI=>if a.cellsOf c=bI.length/\(a.info? c).isSome=true/\k.isRow=true/\a.eqGuardType a.depth c=false then some (.eqv b (mJ bI) d h)else none
  |none=>none
 |none=>none
def w6 (d:Program) (x:Env) (y:Option Nat) (k:Call):Option ca:=
 match k.callee,k.args.toList,k.argTypes.toList with
 | .value (.func p),args,_=>if gk d p=true/\args.all aT=true then some (.fY p args)else none
 | .builtin .len,[a],[h]=>match d.underlying h with
  |some (.slice _)=>if aT a=true then some (.len a)else none
  |some .string=>if aT a=true then some (.q3 a)else none
  | _=>none
 | .builtin .append,[a,b],[h,z]=>match d.underlying h with
  |some (.slice o)=>match d.info? o with
   |some c=>match c.zero with
    |some r=>if h=z/\r.cells.size=c.size/\0<c.size/\aT a=true/\aT b=true then(if x.mut y=true then(if r.cells.toList.all (·.oneCell')=true then some (.lL c.size c.bytes a b)else none)else some (.app c.size c.bytes a b))else none
    |none=>none
   |none=>none
  | _=>none
 | .builtin .max,[a,b],_=>if aT a=true/\aT b=true then some (.lK true .i64 a b)else none
 | .builtin .min,[a,b],_=>if aT a=true/\aT b=true then some (.lK false .i64 a b)else none
 | .builtin .copy,[a,b],[h,_]=>match d.underlying h with
  |some (.slice o)=>match ks d o with
   |some C=>if aT a=true/\aT b=true then some (.mz C a b)else none
   |none=>none
  | _=>none
 | _,_,_=>none
def w7 (b:Program) (y:Env) (x:Oper):Option ca:=
 match x.op with
 | .move a| .assign a=>if aT a=true then some (.fb a)else none
 | .pick z a k=>if aT z=true/\aT a=true/\aT k=true then some (.pick z a k)else none
 | .alloc T=>match rF b T with
  |some o=>some (.alloc T (o.toList.map cY))
  |none=>none
 | .box T a=>if aT a=true then some (if y.box x.dst=true then .kh T a else .box T a)else none
 | .load d a=>Aw b d a
 | .store d a k=>match ks b d with
  |some r=>if 0<r/\aT a=true/\aT k=true then some (.store r a k)else none
  |none=>none
 | .nilCheck a=>if aT a=true then some (.q0 a)else none
 | .fieldAddr d a c=>match b.underlying d with
  |some (.struct D)=>match D[c]? with
   |some fd=>match ks b fd.type with
    |some r=>if r≠0/\aT a=true then some (.kY fd.offset a)else none
    |none=>none
   |none=>none
  | _=>none
 | .indexAddr d a c=>if aT a=true/\aT c=true then
   match b.underlying d with
   |some (.array len h)=>match ks b h with
    |some p=>some (.q1 p len a c)
    |none=>none
   |some (.slice h)=>match ks b h with
    |some p=>some (.dL p a c)
    |none=>none
   | _=>none
  else none
 | .field _ _ _=>none
 | .index d a c=>if aT a=true/\aT c=true then
   match b.underlying d with
   |some (.array len h)=>match b.underlying h,ks b h with
    |some C,some p=>if C.isRow=true\/p=1 then some (.q2 C.isRow p len a c)else none
    | _,_=>none
   |some .string=>some (.lI a c)
   | _=>none
  else none
 | .build d parts=>match rF b d,rG b d parts.toList with
  |some o,some res=>if w3 b d=true then some (.lJ (o.toList.map cY) res)else none
  | _,_=>none
 | .buildSlice d r parts=>match b.underlying d,rH 0 parts.toList with
  |some (.slice h),some xs=>match b.info? h with
   |some c=>match c.zero with
    |some o=>if o.cells.size=c.size/\o.cells.toList.all (·.oneCell')=true/\0<c.size/\r*c.size<=2^24/\xs.length=r then some (if y.mut x.dst=true then .kl c.size xs else .ki c.size xs)else none
    |none=>none
   |none=>none
  | _,_=>none
 | .slice d a aV aW E=>w5 b y x.dst d a aV aW E
 | .binOp op d a k _=>if aT a=true/\aT k=true then
   match op with
   | .eql=>tB b false d a k
   | .neq=>tB b true d a k
   |op=>some (.bin op a k)
  else none
 | .unOp op _ a=>if aT a=true then some (.un op a)else none
 | .convert st F a=>match b.underlying st,b.underlying F with
  |some (.int _),some (.int p)=>if aT a=true then some (.iQ p a)else none
  |some (.slice h),some .string=>match b.underlying h with
   |some (.int .u8)=>if aT a=true then some (.q5 a)else none
   | _=>none
  |some .string,some (.slice h)=>match b.underlying h with
   |some (.int .u8)=>if aT a=true then some (.q6 a)else none
   | _=>none
  | _,_=>none
 | .makeSlice d a k=>match b.underlying d with
  |some (.slice h)=>match b.info? h with
   |some c=>match c.zero with
    |some o=>if o.cells.size=c.size/\o.cells.toList.all (·.oneCell')=true/\0<c.size/\aT a=true/\aT k=true then some (.kk c.size c.bytes (o.cells.toList.map cY) a k)else none
    |none=>none
   |none=>none
  | _=>none
 | .extract a c=>if aT a=true then some (.ext a c)else none
 | .call z=>w6 b y x.dst z
 | _=>none
variable{e3:ca}{I:Bool}{Z e9:Operand}{b0:Type}{b2:TypeId}
section
variable  {o:Oper}{a:Act}   
def w8 {b:TypeDesc} (c:b.isRow=true\/e=1):b.isRow=false->e=1:=λd=>c.resolve_left (by simp[d])
theorem w9 (c:rF m b2=some j8): ∃b v,m.info? b2=some b/\b.zero=some v/\v.cells=j8/\ ∀d∈j8.toList,d.oneCell'=true:=by unfold rF at c;grind
theorem Ij (c:rF m b2=some j8) (d:w3 m b2=true) (b:List (Nat×Value)):m.built b2 b=Instr.fill (placeOf m b2) j8 b:=by obtain⟨h,v,k,p,rfl,_⟩:=w9 c;unfold w3 at d;unfold Program.built placeOf;grind[Option.isSome_iff_exists]
theorem Az {x:TypeId}: ∀ {r:List (Nat×Operand)}{res:List (Nat×Nat×Operand)},rG m x r=some res->r.length=res.length/\
  ∀(d:Nat) (h:Nat×Operand) (b:Nat×Nat×Operand),r[d]? =some h->res[d]? =some b->placeOf m x h.1=some (b.1,b.2.1)/\h.2=b.2.2/\aT h.2=true/\0<b.2.1
 | [],res,c=>by
  simp only[rG,a4S]at c;simp_all
 |h::r,res,c=>by
  simp only[rG]at c;split at c
  case h_2=>cases c
  rename_i b D y z;obtain rfl:=a4G c;obtain⟨C,E⟩:=Az z;refine⟨by simp[C],λd F G k p=> ?_⟩
  match d,k,p with
  |0,k,p=>simp only[a6u,a4S]at k p;subst k;subst p;unfold Av at y;grind
  |d+1,k,p=>grind
theorem AA: ∀ {d:Nat}{h:List (Nat×Operand)}{c:List Operand},rH d h=some c->h=(c.zipIdx d).map (λk=>(k.2,k.1))/\ ∀p∈c,aT p=true
 |d,[],c,b=>by
  simp only[rH,a4S]at b;simp_all
 |d,(x,p)::y,c,b=>by
  simp only[rH]at b;split at b
  case isFalse=>cases b
  rename_i z;obtain⟨C,r,rfl⟩:=a7y.1 b;obtain⟨D,E⟩:=AA r;simp_all
def qd {b:Array b0}{c:b0} (d:b.toList= [c]):b= #[c]:=a7Y.1 d
def iT {b:Array b0}{c d:b0} (h:b.toList= [c,d]):b= #[c,d]:=a7Y.1 h
theorem Ik {P:Env}{S:Option Nat}{d h E:Option Operand} (z:o.op= .slice b2 Z d h E) (b:w5 m P S b2 Z d h E=some e3) (C:bL u a j) (D:Holds u f l) (k:G ⟨m,s⟩ e3 j f a7):bR m s o a l u f a7:=by
 unfold w5 at b;split at b
 case isFalse=>cases b
 rename_i c;split at b
 .rename_i p r;split at b
  case h_2=>cases b
  rename_i x y;obtain rfl:=a4G b;exact HF b2 Z d h z p r x y c.1 c.2.1 c.2.2 C D k
 .rename_i F p r;split at b
  case h_2=>cases b
  rename_i x y;split at b
  case isFalse=>cases b
  rename_i L;obtain rfl:=a4G b;split at k
  .exact HM b2 Z d h z F p r x y L c.1 c.2.1 c.2.2 C D k
  .exact Ai b2 Z d h z F p r x y L _ c.1 c.2.1 c.2.2 C D k
 .cases b
theorem AB {c:TypeId} (d:o.op= .binOp (if I then .neq else .eql) b2 Z e9 c) (h:aT Z=true) (y:aT e9=true) (b:tB m I b2 Z e9=some e3) (k:bL u a j) (p:Holds u f l) (r:G ⟨m,s⟩ e3 j f a7):bR m s o a l u f a7:=by
 unfold tB at b;split at b
 .cases b
 .rename_i z x;split at b
  .obtain rfl:=a4G b;exact HQ I b2 Z c d z x h k p r
  .cases b
 .rename_i z x;obtain rfl:=a4G b;grind[HD]
 .obtain rfl:=a4G b;exact vV _ b2 Z e9 c d h y k p r
 .obtain rfl:=a4G b;exact vV _ b2 Z e9 c d h y k p r
 .rename_i C _ _ _ _ _ x;split at b
  case h_2=>cases b
  rename_i D E;split at b
  case isFalse=>cases b
  rename_i F;obtain rfl:=a4G b;grind[HC]
 .cases b
theorem Il {V:Env}{W:Option Nat}{P:Call} (D:o.op= .call P) (b:w6 m V W P=some e3) (E:bL u a j) (F:Holds u f l) (L:G ⟨m,s⟩ e3 j f a7):bR m s o a l u f a7:=by
 obtain⟨A,B,H⟩:=P;unfold w6 at b;split at b
 .rename_i I c;simp only at c;subst c;split at b
  case isFalse=>cases b
  rename_i h;obtain rfl:=a4G b;obtain⟨y,S⟩:=h;unfold gk at y;split at y
  case h_2=>cases y
  rename_i K M;simp only[a4K,bne_iff_ne,ne_eq]at y;grind[HE,List.all_eq_true]
 .rename_i k x c d p;simp only at c d p;subst c;obtain rfl:=qd d;obtain rfl:=qd p;split at b
  .rename_i z r;split at b
   case isFalse=>cases b
   rename_i h;obtain rfl:=a4G b;exact Hw x k D z r h E F L
  .rename_i r;split at b
   case isFalse=>cases b
   rename_i h;obtain rfl:=a4G b;exact Hx x k D r h E F L
  .cases b
 .rename_i k C x T c d p;simp only at c d p;subst c;obtain rfl:=iT d;obtain rfl:=iT p;split at b
  case h_2=>cases b
  rename_i z r;split at b
  case h_2=>cases b
  rename_i e g;split at b
  case h_2=>cases b
  rename_i i n;split at b
  case isFalse=>cases b
  rename_i h;obtain⟨rfl,y,S,q,t⟩:=h;split at b
  .split at b
   case isFalse=>cases b
   rename_i N;obtain rfl:=a4G b;exact Ao k C x x _ r (.inl ⟨z,rfl⟩) D z r e g i n y (by grind) S q t E F L
  .obtain rfl:=a4G b;grind[HJ]
 .rename_i k C c d;simp only at c d;subst c;obtain rfl:=iT d;split at b
  case isFalse=>cases b
  rename_i h;obtain rfl:=a4G b;grind[Ap]
 .rename_i k C c d;simp only at c d;subst c;obtain rfl:=iT d;split at b
  case isFalse=>cases b
  rename_i h;obtain rfl:=a4G b;grind[Ap]
 .rename_i k C x T c d p;simp only at c d p;subst c;obtain rfl:=iT d;obtain rfl:=iT p;split at b
  case h_2=>cases b
  rename_i z r;split at b
  case h_2=>cases b
  rename_i v w;split at b
  case isFalse=>cases b
  rename_i h;obtain rfl:=a4G b;exact HP x T k C D z r v w h.1 h.2 E F L
 .cases b
theorem Im {K:Env} (b:w7 m K o=some e3) (x:bL u a j) (p:Holds u f l) (r:G ⟨m,s⟩ e3 j f a7):bR m s o a l u f a7:=by
 unfold w7 at b;split at b
 case h_1 d c=>split at b;(rename_i y;obtain rfl:=a4G b;exact Ae d (.inl c) y x p r);(cases b)
 case h_2 d c=>split at b;(rename_i y;obtain rfl:=a4G b;exact Ae d (.inr c) y x p r);(cases b)
 case h_3 M d S c=>split at b;(rename_i y;obtain rfl:=a4G b;grind[Hn]);(cases b)
 case h_4 T c=>
  split at b
  .rename_i i L;obtain rfl:=a4G b;obtain⟨z,v,g,B,rfl,n⟩:=w9 L;exact Hl T c z g v B n p r
  .cases b
 case h_5 T d c=>
  split at b
  .rename_i y;obtain rfl:=a4G b;grind[HL,Hm]
  .cases b
 case h_6 k d c=>
  unfold Aw at b;split at b
  .rename_i q P C V;split at b
   .rename_i h;obtain rfl:=a4G b;exact Hi k d c q C P V (w8 h.2) h.1 x p r
   .cases b
  .cases b
 case h_7 k d S c=>
  split at b
  .rename_i P V;split at b
   .rename_i h;obtain rfl:=a4G b;exact Hk k d S c P V h.1 h.2.1 h.2.2 x p r
   .cases b
  .cases b
 case h_8 d c=>split at b;(rename_i y;obtain rfl:=a4G b;exact Ho d c y x p r);(cases b)
 case h_9 k d z c=>
  split at b
  .rename_i N C;split at b
   .rename_i O Q;split at b
    .rename_i P V;split at b
     .rename_i h;obtain rfl:=a4G b;exact Hp k d z c N C O Q P V h.1 h.2 x p r
     .cases b
    .cases b
   .cases b
  .cases b
 case h_10 k d z c=>
  split at b
  case isFalse=>cases b
  rename_i h;split at b
  .rename_i len D C;split at b
   .rename_i E W;obtain rfl:=a4G b;exact Hq k d z c len D C E W h.1 h.2 x p r
   .cases b
  .rename_i D C;split at b
   .rename_i E W;obtain rfl:=a4G b;exact Hr k d z c D C E W h.1 h.2 x p r
   .cases b
  .cases b
 case h_11 k d z c=>cases b
 case h_12 k d z c=>
  split at b
  case isFalse=>cases b
  rename_i h;split at b
  .rename_i len D C;split at b
   .rename_i q E F W;split at b
    .rename_i X;obtain rfl:=a4G b;exact Ht k d z c len D C q F E W (w8 X) h.1 h.2 x p r
    .cases b
   .cases b
  .rename_i C;obtain rfl:=a4G b;exact Hu k d z c C h.1 h.2 x p r
  .cases b
 case h_13 k H c=>
  split at b
  .rename_i i res L Y;split at b
   .rename_i Z;obtain rfl:=a4G b;obtain⟨z,v,g,B,rfl,n⟩:=w9 L;obtain⟨j9,k0⟩:=Az Y;exact HH k H c (placeOf m k) _ res (Ij L Z) n j9 k0 x p r
   .cases b
  .cases b
 case h_14 k P H c=>
  split at b
  .rename_i D k4 C k1;split at b
   .rename_i z g;split at b
    .rename_i i L;split at b
     .rename_i h;obtain rfl:=a4G b;obtain⟨k5,k6⟩:=AA k1;grind[HI,List.all_eq_true,Am]
     .cases b
    .cases b
   .cases b
  .cases b
 grind[Ik]
 case h_16 I k d S k2 c=>
  split at b
  case isFalse=>cases b
  rename_i h;split at b;grind[AB];grind[AB]
  .obtain rfl:=a4G b;exact vV _ k d S k2 c h.1 h.2 x p r
 case h_17 I k d c=>split at b;(rename_i y;obtain rfl:=a4G b;exact HA I k d c y x p r);(cases b)
 case h_18 t w d c=>
  split at b
  .rename_i k3 E e F;split at b
   .rename_i y;obtain rfl:=a4G b;exact HB t w d c E k3 e F y x p r
   .cases b
  .rename_i D e F;split at b
   .rename_i A;split at b
    .rename_i y;obtain rfl:=a4G b;exact HN t w d c D e A F y x p r
    .cases b
   .cases b
  .rename_i D e F;split at b
   .rename_i A;split at b
    .rename_i y;obtain rfl:=a4G b;exact HR t w d c D e F A y x p r
    .cases b
   .cases b
  .cases b
 case h_19 k d S c=>
  split at b
  case h_2=>cases b
  rename_i D C;split at b
  case h_2=>cases b
  rename_i z g;split at b
  case h_2=>cases b
  rename_i i L;split at b
  case isFalse=>cases b
  rename_i h;obtain rfl:=a4G b;grind[HO,List.all_eq_true]
 case h_20 d z c=>split at b;(rename_i y;obtain rfl:=a4G b;exact Hv d z c y x p r);(cases b)
 case h_21 M c=>exact Il c b x p r
 .cases b
end
def AD (a:Program) (b:TypeId):Bool:=
 match a.underlying b with
 |some (.slice _)=>true
 |some .string=>true
 | _=>false
def wa (b:Program) (p:Env) (r:Option Nat) (c d:Operand) (h k:TypeId):Option ca:=
 match b.underlying h with
 |some (.slice x)=>match b.info? x with
  |some a=>match a.zero with
   |some o=>if AD b k=true/\o.cells.size=a.size/\o.cells.toList.all (·.oneCell')=true/\0<a.size/\aT c=true/\aT d=true then
     (if h≠k/\p.mut r=true then some (.lL a.size a.bytes c d)else none)else none
   |none=>none
  |none=>none
 | _=>none
def wb (b:Program) (c:Env) (d:Option Nat) (a:Call):Option ca:=
 match a.callee,a.args.toList,a.argTypes.toList with
 | .value (.tmp h),args,_=>if args.all aT=true then some (.iR (.tmp h) args)else none
 | .builtin .append,[k,o],[p,r]=>wa b c d k o p r
 | _,_,_=>none
def AE:TypeDesc->Bool
 | .interface _=>true
 | _=>false
def Io {a:TypeDesc} (c:AE a=false): ∀b,a≠ .interface b:=λb hm=>by subst hm;cases c
def rI (a:Program) (b:TypeId) (c:List c5):Bool:=
 decide (a.cellsOf b=c.length)&&(a.info? b).isSome&&(match a.underlying b with|some (.array _ _)|some (.struct _)=>true| _=>false)
theorem AF {a:List c5} (c:flatK m 20 b2=some a) (b:rI m b2 a=true):mL m b2 (mJ a):=by simp only[rI,a4K,decide_eq_true_eq]at b;obtain⟨⟨d,h⟩,k⟩:=b;refine⟨⟨20,a9p,by rw[tz];exact c⟩,by rw[tz];exact d,h,?_⟩;grind
def wc (a:Program) (k:Op):Option ca:=
 match k with
 | .makeMap _ none=>some .kn
 | .lookup mt b c ok=>match a.underlying mt with
  |some (.map d o)=>match flatK a 20 d,a.info? o with
   |some bI,some p=>match p.zero with
    |some h=>if rI a d bI=true/\ry h=true/\aT b=true/\aT c=true then some (.lM ok (mJ bI) (ofConst h) b c)else none
    |none=>none
   | _,_=>none
  | _=>none
 | .mapUpdate mt b c v| .insert mt b c v=>match a.underlying mt with
  |some (.map d _)=>match flatK a 20 d with
   |some bI=>if rI a d bI=true/\aT b=true/\aT c=true/\aT v=true then some (.lN (mJ bI) b c v)else none
   |none=>none
  | _=>none
 | _=>none
def we (c:Program) (h:Env) (d:Oper):Option ca:=
 match d.op with
 | .makeFunc (.func k) first cap=>if first.toList.all aT=true/\cap.toList.all aT=true then some (.bG k first.toList cap.toList)else none
 | .makeInterface b a=>match c.underlying b with
  |some o=>if AE o=false/\aT a=true then some (.q7 b a)else none
  |none=>none
 | .panic a=>if aT a=true then some (.mB a)else none
 | .range b a=>match c.underlying b with
  |some .string=>if aT a=true then some (.km a)else none
  | _=>none
 | .next a true=>if aT a=true then some (.mC a)else none
 | .call p=>wb c h d.dst p
 | _=>none
def AG (a:Program) (c:FuncId):Bool:=
  match a.funcs[c]? with
  |some fn=>fn.origin== "slices.overlaps" &&fn.body.isNone&& !(fn.name== "runtime.NumGoroutine")&&(Extern.allNextRows.lookup fn.name).isNone&&(Extern.allGenericRows.lookup fn.name).isNone&&(Extern.allTypedRows.lookup fn.name).isNone&&(Extern.allRows.lookup fn.name).isNone&&
    (match fn.params.toList with
     | [b,d]=>b==d&&(match a.underlying b with|some (.slice h)=>(a.info? h).isSome| _=>false)
     | _=>false)
  |none=>false
def wg (c:Program) (r:Env) (p:Call):Option ca:=
 match p.callee,p.args.toList,p.argTypes.toList with
 | .builtin .cap,[a],[h]=>match c.underlying h with
  |some (.slice _)=>if aT a=true then some (.mD a)else none
  | _=>none
 | .builtin .clear,[a],[h]=>match c.underlying h with
  |some (.slice o)=>match c.info? o with
   |some b=>match b.zero with
    |some k=>if k.cells.size=b.size/\k.cells.toList.all (·.oneCell')=true/\0<b.size/\aT a=true then some (.mE b.size (k.cells.toList.map cY) a)else none
    |none=>none
   |none=>none
  | _=>none
 | .builtin .copy,[a,d],[h,_]=>if r.w4=true then(match c.underlying h with
  |some (.slice o)=>match ks c o with
   |some x=>if aT a=true/\aT d=true then some (.mF x a d)else none
   |none=>none
  | _=>none)else none
 | .builtin .append,[a,d],[h,y]=>match c.underlying y with
  |some (.int _)=>match c.underlying h with
   |some (.slice o)=>match c.info? o with
    |some b=>match b.zero with
     |some k=>if k.cells.size=b.size/\k.cells.toList.all (·.oneCell')=true/\0<b.size/\aT a=true/\aT d=true then some (.mG b.size b.bytes (k.cells.toList.map cY) a d)else none
     |none=>none
    |none=>none
   | _=>none
  | _=>none
 | .value (.func z),[a,d],_=>if AG c z=true/\aT a=true/\aT d=true then some (.mH a d)else none
 | _,_,_=>none
def wh (a:Program) (c:Env) (h:Oper):Option ca:=
 match h.op with
 | .slice k d aV aW b=>if c.w4=true then(match a.underlying k with
  |some (.slice o)=>match ks a o with
   |some p=>if aT d=true/\aV.all aT=true/\aW.all aT=true/\b.all aT=true/\(b=none\/aW.isSome=true)then some (.lO p d aV aW b)else none
   |none=>none
  | _=>none)else none
 | .call r=>wg a c r
 | _=>none
def wi (b:Program) (d:Env) (c:Oper):Option ca:=
 match wh b d c with
 |some a=>some a
 |none=>match wc b c.op with
 |some a=>some a
 |none=>match we b d c with
 |some a=>some a
 |none=>w7 b d c
def Ip:Extern.allNextRows.lookup "slices.overlaps" =none:=a9u
def Iq:Extern.allGenericRows.lookup "slices.overlaps" =none:=a9u
def Ir:Extern.allTypedRows.lookup "slices.overlaps" =some Extern.SlicesOverlaps.overlaps:=a9u
section
variable  {o:Oper}{a:Act}   
theorem Is {h:Env}{k:Option Nat}{d:TypeId} (y:o.op= .call {callee:= .builtin .append,args:= #[Z,e9],argTypes:= #[d,b2]}) (b:wa m h k Z e9 d b2=some e3) (z:bL u a j) (C:Holds u f l) (D:G ⟨m,s⟩ e3 j f a7):bR m s o a l u f a7:=by
 unfold wa at b;split at b
 case h_2=>cases b
 rename_i E F;split at b
 case h_2=>cases b
 rename_i L P;split at b
 case h_2=>cases b
 rename_i S T;split at b
 case isFalse=>cases b
 rename_i p;obtain⟨r,V,W,e,g,i⟩:=p;obtain⟨c,n,q⟩: ∃c,m.underlying b2=some c/\((∃x,c= .slice x)\/c= .string):=by unfold AD at r;grind
 split at b
 case isFalse=>cases b
 obtain rfl:=a4G b;grind[Ao,List.all_eq_true]
def It {z:Env}{C:Option Nat}{d:Call} (h:o.op= .call d) (b:wb m z C d=some e3) (k:bL u a j) (p:Holds u f l) (r:G ⟨m,s⟩ e3 j f a7):bR m s o a l u f a7:=by
 obtain⟨P,D,E⟩:=d;unfold wb at b;split at b
 .rename_i F c;simp only at c;subst c;split at b
  case isFalse=>cases b
  rename_i L;obtain rfl:=a4G b;exact HT (.tmp F) D E h rfl (by simpa only[a4W] using L) k p r
 .rename_i S T V W c x y;simp only at c x y;subst c;obtain rfl:=iT x;obtain rfl:=iT y;exact Is h b k p r
 .cases b
theorem Iu {z:Env} (b:we m z o=some e3) (k:bL u a j) (p:Holds u f l) (r:G ⟨m,s⟩ e3 j f a7):bR m s o a l u f a7:=by
 unfold we at b;split at b
 .rename_i D first E c
  split at b
  case isFalse=>cases b
  rename_i d;obtain rfl:=a4G b;grind[HS,List.all_eq_true]
 .rename_i x h c;split at b
  case h_2=>cases b
  rename_i C y;split at b
  case isFalse=>cases b
  rename_i d;obtain rfl:=a4G b;exact HU x h c C y (Io d.1) d.2 k p r
 .rename_i h c;split at b
  case isFalse=>cases b
  rename_i d;obtain rfl:=a4G b;exact HV h c d k p r
 .rename_i x h c;split at b
  case h_2=>cases b
  rename_i y;split at b
  case isFalse=>cases b
  rename_i d;obtain rfl:=a4G b;exact HW x h c y d k p r
 .rename_i h c;split at b
  case isFalse=>cases b
  rename_i d;obtain rfl:=a4G b;exact HX h c d k p r
 .rename_i F c;exact It c b k p r
 .cases b
def Iv (b:wc m o.op=some e3) (D:bL u a j) (x:Holds u f l) (y:G ⟨m,s⟩ e3 j f a7):bR m s o a l u f a7:=by
 have kg: ∀mt d h v,(o.op= .mapUpdate mt d h v\/o.op= .insert mt d h v)->(match m.underlying mt with
  |some (.map k _)=>match flatK m 20 k with
   |some p=>if rI m k p=true/\aT d=true/\aT h=true/\aT v=true then some (.lN (mJ p) d h v)else none
   |none=>none
  | _=>none)=some e3->bR m s o a l u f a7:=by
  intro mt d h v E b;split at b
  case h_2=>cases b
  rename_i k z hm;split at b
  case h_2=>cases b
  rename_i p C;split at b
  case isFalse=>cases b
  rename_i c;obtain rfl:=a4G b;exact I7 mt k z d h v E hm (AF C c.1) c.2.1 c.2.2.1 c.2.2.2 D x y
 generalize r:o.op=S at b;unfold wc at b;split at b
 .obtain rfl:=a4G b;exact I5 _ r x y
 .split at b
  case h_2=>cases b
  rename_i k z hm;split at b
  case h_2=>cases b
  rename_i p T C F;split at b
  case h_2=>cases b
  rename_i L P;split at b
  case isFalse=>cases b
  rename_i c;obtain rfl:=a4G b;exact I6 _ k z _ _ _ r hm (AF C c.1) F P (aZ.ofConst u L c.2.1) c.2.2.1 c.2.2.2 D x y
 .exact kg _ _ _ _ (.inl r) b
 .exact kg _ _ _ _ (.inr r) b
 .cases b
theorem Iw {g:Env}{F:Call} (L:o.op= .call F) (b:wg m g F=some e3) (P:bL u a j) (S:Holds u f l) (T:G ⟨m,s⟩ e3 j f a7):bR m s o a l u f a7:=by
 obtain⟨k4,k5,i⟩:=F;unfold wg at b;split at b
 .rename_i r h c d k;simp only at c d k;subst c;obtain rfl:=qd d;obtain rfl:=qd k;split at b
  case h_2=>cases b
  rename_i x y;split at b
  case isFalse=>cases b
  rename_i p;obtain rfl:=a4G b;exact I8 h r L x y p P S T
 .rename_i r h c d k;simp only at c d k;subst c;obtain rfl:=qd d;obtain rfl:=qd k;split at b
  case h_2=>cases b
  rename_i x y;split at b
  case h_2=>cases b
  rename_i n q;split at b
  case h_2=>cases b
  rename_i t v;split at b
  case isFalse=>cases b
  rename_i p;obtain rfl:=a4G b;grind[Ib,List.all_eq_true]
 .rename_i r D h W c d k;simp only at c d k;subst c;obtain rfl:=iT d;obtain rfl:=iT k;split at b
  case isFalse=>cases b
  split at b
  case h_2=>cases b
  rename_i x y;split at b
  case h_2=>cases b
  rename_i w A;split at b
  case isFalse=>cases b
  rename_i p;obtain rfl:=a4G b;exact Ie h W r D L x y w A p.1 p.2 P S T
 .rename_i r D h k6 c d k;simp only at c d k;subst c;obtain rfl:=iT d;obtain rfl:=iT k;split at b
  case h_2=>cases b
  rename_i k7 k8;split at b
  case h_2=>cases b
  rename_i x y;split at b
  case h_2=>cases b
  rename_i n q;split at b
  case h_2=>cases b
  rename_i t v;split at b
  case isFalse=>cases b
  rename_i p;obtain rfl:=a4G b;grind[Ih,List.all_eq_true]
 .rename_i B r D c d;simp only at c d;subst c;obtain rfl:=iT d;split at b
  case isFalse=>cases b
  rename_i p;obtain rfl:=a4G b;obtain⟨z,H,I⟩:=p;unfold AG at z;split at z
  case h_2=>cases z
  rename_i C K;simp only[a4K,beq_iff_eq,Option.isNone_iff_eq_none,a6l]at z;obtain⟨⟨⟨⟨⟨⟨⟨e,M⟩,N⟩,O⟩,Q⟩,X⟩,Y⟩,E⟩:=z;split at E
  case h_2=>cases E
  rename_i h W Z;simp only[a4K,beq_iff_eq]at E;obtain⟨rfl,V⟩:=E;split at V
  case h_2=>cases V
  rename_i x y;obtain⟨j9,k0⟩:=a5A.1 V;have k1:C.params= #[h,h]:=iT Z;have k2:Extern.findNext C=none:=by simp[Extern.findNext,e,O,Ip]
  have k3:Extern.find C=some (Extern.SlicesOverlaps.overlaps #[h,h] C.resultTypes):=by simp[Extern.find,e,Q,X,Y,Iq,Ir,k1]
  exact Ig B C r D i L K N (by rw[M];rfl) k2 h _ k3 x y j9.size (by rw[k0];rfl) H I P S T
 .cases b
def Ix {r:Env} (b:wh m r o=some e3) (h:bL u a j) (k:Holds u f l) (p:G ⟨m,s⟩ e3 j f a7):bR m s o a l u f a7:=by
 unfold wh at b;split at b
 .rename_i x y z C D d;split at b
  case isFalse=>cases b
  split at b
  case h_2=>cases b
  rename_i E F;split at b
  case h_2=>cases b
  rename_i L P;split at b
  case isFalse=>cases b
  rename_i c;obtain rfl:=a4G b;exact Ia x y z C D d c.2.2.2.2 E F L P c.1 c.2.1 c.2.2.1 c.2.2.2.1 h k p
 .rename_i S d;exact Iw d b h k p
 .cases b
def Iy {r:Env} (b:wi m r o=some e3) (d:bL u a j) (h:Holds u f l) (k:G ⟨m,s⟩ e3 j f a7):bR m s o a l u f a7:=by
 unfold wi at b;split at b
 .rename_i p c;obtain rfl:=a4G b;exact Ix c d h k
 split at b
 .rename_i p c;obtain rfl:=a4G b;exact Iv c d h k
 .split at b
  .rename_i p c;obtain rfl:=a4G b;exact Iu c d h k
  .exact Im b d h k
end
structure c6 where
 dst:Option Nat
 op:ca
 guard:Option (Nat×Bool)
def E (h:Ctx) (c:c6) (d:Fr) (a:U) (b:R->U->Prop):Prop:=
 match c.guard with
 |none=>G h c.op d a b
 |some (k,want)=>match d k with
  | .v (.bool o)=>if o=want then G h c.op d a b else b (.aL []) a
  | .aL []=>b (.aL []) a
  | _=>False
def T (c:Ctx) (a:c6) (d:Fr->U->Prop) (b:Fr) (h:U):Prop:=E c a b h λk o=>d (dm b a.dst k) o
def iU (b:Ctx):List c6->(Fr->U->Prop)->Fr->U->Prop
 | [],a=>a
 |c::d,a=>T b c (iU b d a)
variable{K:Ctx}
theorem mM {b:c6} (c: ∀d h,s d h->a7 d h) (a:E K b j f s):E K b j f a7:=by
 unfold E at*;cases k:b.guard with
 |none=>rw[k]at a;exact Aa c a
 |some fH=>
  obtain⟨p,r⟩:=fH;rw[k]at a;simp only at a|-;split at a
  .split at a
   .next o=>rw[if_pos o];exact Aa c a
   simp_all
  .exact c _ _ a
  .exact a.elim
variable{j4:Fr -> U -> Prop}
def rJ {b:c6}{c:Fr->U->Prop} (h: ∀j d,j4 j d->c j d) (a:T K b j4 j f):T K b c j f:=mM (λ_ _ a=>h _ _ a) a
def tmpsOf (a:List Operand):List Nat:=a.filterMap λ| .tmp b=>some b| _=>none
def ca.operands:ca->List Operand
 | .fb a| .q7 _ a| .mB a| .km a| .mC a| .box _ a| .kh _ a| .q5 a| .q6 a| .mA _ a| .load _ _ a| .q0 a| .kY _ a| .len a| .q3 a| .un _ a| .iQ _ a| .ext a _| .mD a| .mE _ _ a=> [a]
 | .pick d h k=> [d,h,k]
 | .alloc _ _| .kn=> []
 | .lM _ _ _ a c=> [a,c]
 | .lN _ a c v=> [a,c,v]
 | .bG _ first cap=>first++cap
 | .iR a args=>a::args
 | .store _ a b| .q1 _ _ a b| .dL _ a b| .q2 _ _ _ a b| .lI a b| .bin _ a b| .eqv _ _ a b| .q4 _ a b| .app _ _ a b| .lL _ _ a b| .lK _ _ a b| .kk _ _ _ a b| .mz _ a b| .mF _ a b| .mG _ _ _ a b| .mH a b=> [a,b]
 | .lJ _ o=>o.map λp=>p.2.2
 | .ki _ xs=>xs
 | .kl _ xs=>xs
 | .oS _ a aV aW| .kj _ _ a aV aW _| .jE _ _ a aV aW=>a::(aV.toList++aW.toList)
 | .lO _ a aV aW r=>a::(aV.toList++(aW.toList++r.toList))
 | .fY _ args=>args
def c6.reads (a:c6):List Nat:=tmpsOf a.op.operands++(match a.guard with|some (b,_)=> [b]|none=> [])
def Iz {a:Fr}{b:List Operand} (d: ∀c∈tmpsOf b,j c=a c) (h:Z∈b):aj j Z=aj a Z:=by
 cases Z<;>first
  |rfl
  |exact d _ (a8p.2 ⟨_,h,rfl⟩)
def AH {b c:Fr}{k:List R->Prop}: ∀(d:List (Nat×Nat×Operand)) (h:List R),(∀a∈d,aj b a.2.2=aj c a.2.2)->(ko b h d k↔ko c h d k)
 | [],_,_=>a6P
 |(off,cq,o)::r,h,p=>by
  have x:aj b o=aj c o:=p _ (a6t);simp only[ko,x];rw[AH r _ (λa y=>p a (a6j _ y))]
theorem oW {c:Fr}{a:Option Operand} (h: ∀b∈a.toList,aj j b=aj c b) (d:Nat):df j a d=df c a d:=by
 cases a with
 |none=>rfl
 |some b=>simp only[df,h b a9q]
theorem AI {d:Fr} (z: ∀r∈tmpsOf e3.operands,j r=d r) (x:U) (y:R->U->Prop):G K e3 j x y↔G K e3 d x y:=by
 have a: ∀h∈e3.operands,aj j h=aj d h:=λh C=>Iz z C;cases e3<;>simp only[ca.operands,a5i,a6n,or_false,forall_eq_or_imp,forall_eq,a5a]at a<;>simp only[G]
 case lJ D E=>exact AH E D (λF L=>a _ (a5d.2 ⟨F,L,rfl⟩))
 case ki k P=>rw[a6p a]
 case kl k P=>rw[a6p a]
 case fY S T=>rw[a6p a]
 case iR h T=>rw[a.1,a6p a.2]
 case bG S first e=>grind[List.map_congr_left]
 case oS k h o p=>simp only[a.1,oW (j:=j) (c:=d) (a:=o) (λb c=>a.2 b (.inl c)),oW (j:=j) (c:=d) (a:=p) (λb c=>a.2 b (.inr c))]
 case lO k h o p V=>simp only[rC,a.1,oW (j:=j) (c:=d) (a:=o) (λb c=>a.2 b (.inl c)),oW (j:=j) (c:=d) (a:=p) (λb c=>a.2 b (.inr (.inl c))),oW (j:=j) (c:=d) (a:=V) (λb c=>a.2 b (.inr (.inr c)))]
 case kj k W h o p f=>grind[oW]
 case jE k W h o p=>grind[oW]
 all_goals simp_all
def IA {b:c6}{c:Fr} (o: ∀a∈b.reads,j a=c a) (d:U) (h:R->U->Prop):E K b j d h↔E K b c d h:=by
 have p: ∀a∈tmpsOf b.op.operands,j a=c a:=λa r=>o a (a6Z _ r);unfold E;cases x:b.guard with
 |none=>exact AI p d h
 |some fH=>
  obtain⟨k,z⟩:=fH;have y:j k=c k:=o k (a6V _ (by simp[x]));simp only[y];split
  .split
   .exact AI p d h
   .exact a6P
  .exact a6P
  .exact a6P
def IB (c:Fr) (a:Nat) (b:R):(dm c (some a) b) a=b:=by simp[dm,kg]
theorem tC (c:Fr) (a:Option Nat) (d:R) (b:Nat) (h:a≠some b):(dm c a d) b=c b:=by
 cases a with
 |none=>rfl
 |some a=>simp[dm,kg,a4Q (λk=>h (by rw[k]):a≠b)]
theorem qe (d:Fr) (a b:Option Nat) (h k:R) (o: ∀c,a=some c->b≠some c):dm (dm d a h) b k=dm (dm d b k) a h:=by
 cases a with
 |none=>rfl
 |some a=>
  cases b with
  |none=>rfl
  |some b=>have r:a≠b:=λp=>o a rfl (by rw[p]);funext c;simp only[dm,kg];grind
theorem la {b:c6} (c:Option Nat) (p: ∀a,c=some a->a∉b.reads) (d:Fr) (o:R) (h:U) (k:R->U->Prop):E K b (dm d c o) h k↔E K b d h k:=
 IA (λa r=>tC d c o a (λx=>p a x r)) h k
theorem U.ef (a:U) (d:e≠i) (b c:bp):(a.set e b).set i c=(a.set i c).set e b:=by grind[U.set]
theorem U.IC (a:U) (c:e≠i) (b:bp):(a.set e b).del i=(a.del i).set e b:=by grind[U.set,U.del]
theorem U.tD (a:U) (b:Nat) (c:bp) (d:a b=none):a.join (U.emp.set b c)=a.set b c:=by grind[U.join,U.set,U.emp]
theorem qf (c:U) (b:Nat) (d:bp):c.pV (U.emp.set b d)↔c b=none:=by
 constructor
 .intro a;rcases a b with a|a
  .exact a
  .simp[U.set]at a
 .intro a h;grind[U.set,U.emp]
def rK (b:Nat) (c:bp) (d:R->U->Prop):R->U->Prop:=λh k=> ∃a,d h a/\a b=none/\k=a.set b c
theorem rL (a:U) (c:bp) (d:a e=none) (b:a.read i=some g):(a.set e c).read i=some g:=by
 have h:i≠e:=by rintro rfl;simp[U.read,d]at b
 simpa[U.read,U.an _ _ h] using b
theorem AJ (a:U) (d:bp) (h:a e=none) {b:Nat×List R} (c:bM a i n=some b):bM (a.set e d) i n=some b:=by
 unfold bM at c|-;split
 .exact c
 grind[rL];grind[rL];simp_all
def ID (a:U) (c:bp) (h:a e=none) {d:Nat×List R} (b:mI a i n=some d):mI (a.set e c) i n=some d:=by
 unfold mI at b|-;split
 .exact b
 .rename_i k;split at b
  .exact absurd rfl (k _)
  .exact AJ a c h b
theorem IE (b:U) (c:bp) (h:b e=none) (a:kp i g n b=some f):kp i g n (b.set e c)=some (f.set e c)/\f e=none:=by
 unfold kp at a|-;split at a
 .rename_i k o p r x;split at a
  case h_2=>cases a
  rename_i y d;have z:k≠e:=by rintro rfl;rw[h]at d;cases d
  split at a
  case isFalse=>cases a
  rename_i C;obtain rfl:=a4G a;simp_all [U.an,if_pos,U.ef,a4Q]
 simp_all
 .cases a
theorem IF (c:U) (d:bp) (h:c e=none) {o:R} (a:kZ i n b3 c=some (o,f)):kZ i n b3 (c.set e d)=some (o,f.set e d)/\f e=none:=by
 unfold kZ at a|-;split at a
 case h_2=>cases a
 rename_i E F p;rw[AJ c d h p];simp only;split at a
 .rename_i k G r x y;split at a
  case h_2=>cases a
  rename_i z b;have C:k≠e:=by rintro rfl;rw[h]at b;cases b
  split at a
  case isFalse=>cases a
  rename_i D;simp only[a4S,a5U]at a;obtain⟨rfl,rfl⟩:=a;simp_all [U.an,if_pos,U.ef,a4Q]
 .rename_i k r x y;split at a
  case h_2=>cases a
  rename_i z b;have C:k≠e:=by rintro rfl;rw[h]at b;cases b
  split at a
  case isFalse=>cases a
  rename_i D;simp only[a4S,a5U]at a;obtain⟨rfl,rfl⟩:=a;simp_all [U.an,if_pos,U.ef,a4Q]
 simp_all
 .cases a
theorem IG (a:U) (c:bp) (h:a e=none) {d:R} (k:kr n b3 a=some d):kr n b3 (a.set e c)=some d:=by
 have p: ∀b,kq a b=true->kq (a.set e c) b=true:=λb o=>by
  have r:b≠e:=by rintro rfl;simp[kq,h]at o
  grind[kq,U.an]
 unfold kr at k|-;grind
variable{Y:bp}
theorem AK (c:f e=none) (a:G K e3 j f s):G K e3 j (f.set e Y) (rK e Y s):=by
 have E: ∀x,s x f->rK e Y s x (f.set e Y):=λx i=>⟨f,i,c,rfl⟩;have l6: ∀(d:Nat) (F:bp) (x:R),(f.set e Y) d=none->(f d=none->s x (f.set d F))->rK e Y s x ((f.set e Y).set d F):=λd F x S C=>by
  have b:e≠d:=by rintro rfl;simp[U.set]at S
  rw[U.an _ _ (a4Q b)]at S;exact⟨_,C S,by rw[U.an _ _ b];exact c,U.ef f b Y F⟩
 cases e3<;>simp only[G]at a|-
 case fY l7 Q=>
  have:=hK.frame (t:=U.emp.set e Y) a ((qf f e Y).2 c);rw[U.tD f e Y c]at this;refine this.mono (λx X ⟨p,l,V,m⟩=>⟨p,l,(qf p e Y).1 V,?_⟩) (λ_ _ a=>a);rw[m,U.tD p e Y ((qf p e Y).1 V)]
 case iR o Q=>
  split at a
  case h_2=>exact a.elim
  refine⟨a.1,?_⟩;have:=hK.frame (t:=U.emp.set e Y) a.2 ((qf f e Y).2 c);rw[U.tD f e Y c]at this;refine this.mono (λx X ⟨p,l,V,m⟩=>⟨p,l,(qf p e Y).1 V,?_⟩) (λ_ _ a=>a);rw[m,U.tD p e Y ((qf p e Y).1 V)]
 case mD o=>grind
 case lO=>grind
 case mE r n o=>
  split at a
  case h_2=>exact a.elim
  rename_i p q;obtain⟨t,u⟩:=IE f Y c q;rw[t];exact⟨p,a,u,rfl⟩
 case mF r o L=>
  split at a
  case h_2=>exact a.elim
  rename_i x p q;obtain⟨t,u⟩:=IF f Y c q;rw[t];exact⟨p,a,u,rfl⟩
 case mH o L=>
  grind[IG]
 case mG r bytes n o L=>
  grind[rL]
 case kn=>grind
 case lM l8 Z n o r=>
  split at a
  case h_2=>exact a.elim
  next d D z j9=>
  split at a
  case h_2=>exact a.elim
  next k0 k1 y=>
  have b:d≠e:=by rintro rfl;rw[c]at y;cases y
  grind[U.an,dx]
 case lN Z o r v=>
  split at a
  case h_2=>exact a.elim
  next d D z j9=>
  split at a
  case h_2=>exact a.elim
  next k0 k1 y=>
  have b:d≠e:=by rintro rfl;rw[c]at y;cases y
  rw[U.an _ _ b,y];exact⟨a.1,a.2.1,_,a.2.2,by rw[U.an _ _ (a4Q b)];exact c,U.ef f (a4Q b) Y _⟩
 case km o=>grind
 case mB o=>
  split at a
  case h_2=>exact a.elim
  obtain⟨k2,S,C⟩:=a;refine⟨k2,λd F k3=> ?_,C⟩;have:=S d F k3;have b:d≠e:=by grind
  rw[U.an _ _ b];exact this
 case mC o=>
  split at a
  case h_2=>exact a.elim
  next d W z=>
  refine⟨a.1,?_⟩;have C:=a.2;split at C
  case h_2=>exact C.elim
  next l9 n0 y=>
  have b:d≠e:=by rintro rfl;rw[c]at y;cases y
  rw[U.an _ _ b,y];simp only;split
  .next k4=>rw[if_pos k4]at C;exact⟨_,C,by rw[U.an _ _ (a4Q b)];exact c,U.ef f (a4Q b) Y _⟩
  simp_all
 case lJ k5 n1=>exact vQ (λD k=>E _ k) _ _ a
 case alloc T k5=>grind
 case box T o=>simp_all
 case kh T o=>simp_all
 case kk r bytes n o L=>grind
 case lK=>grind
 case mA n2 o=>
  grind
 case kl r M=>
  grind
 case lL r bytes o L=>
  split at a
  case h_2=>exact a.elim
  rename_i n3 w k6;rw[ID f Y c k6];simp only;split at a;grind
  .next d P A B z=>
   split at a
   case h_3=>exact a.elim
   all_goals
   rename_i D k;have b:d≠e:=by rintro rfl;rw[c]at k;cases k
   rw[U.an _ _ b,k];refine⟨a.1,a.2.1,a.2.2.1,a.2.2.2.1,?_⟩;have h:=a.2.2.2.2;split
   .next H=>rw[if_pos H]at h;exact⟨_,h,by rw[U.an _ _ (a4Q b)];exact c,U.ef f (a4Q b) Y _⟩
   simp_all
  .next d W P A B z=>
   split at a
   case h_2=>exact a.elim
   rename_i D k;have b:d≠e:=by rintro rfl;rw[c]at k;cases k
   rw[U.an _ _ b,k];refine⟨a.1,a.2.1,a.2.2.1,a.2.2.2.1,?_⟩;have h:=a.2.2.2.2;split
   .next H=>rw[if_pos H]at h;exact⟨_,h,by rw[U.an _ _ (a4Q b)];exact c,U.ef f (a4Q b) Y _⟩
   simp_all
  .exact a.elim
 case jE r P o k7 k8=>
  split at a
  .next d W z=>
   split at a
   .refine⟨a.1,a.2.1,a.2.2.1,?_⟩;have h:=a.2.2.2;split at h
    .next D k=>
     have b:d≠e:=by rintro rfl;rw[c]at k;cases k
     grind[U.an]
    .exact h.elim
   .exact a.elim
  .exact a.elim
 case mz r o L=>
  split at a
  .next d W P A B w k9 z l0=>
   refine⟨a.1,a.2.1,?_⟩;have h:=a.2.2;split at h
   .next D k=>
    have b:d≠e:=by rintro rfl;rw[c]at k;cases k
    rw[U.an _ _ b,k];exact⟨h.1,_,h.2,by rw[U.an _ _ (a4Q b)];exact c,U.ef f (a4Q b) Y _⟩
   .exact h.elim
  .next d P A B w k9 z l0=>
   refine⟨a.1,a.2.1,?_⟩;have h:=a.2.2;split at h
   .next D k=>
    have b:d≠e:=by rintro rfl;rw[c]at k;cases k
    rw[U.an _ _ b,k];exact⟨h.1,_,h.2,by rw[U.an _ _ (a4Q b)];exact c,U.ef f (a4Q b) Y _⟩
   .exact h.elim
  .exact a.elim
 case ki r M=>
  grind
 case load n4 P o=>
  grind[rL]
 case store P o L=>
  split at a
  .next d W z=>
   split at a
   case h_2=>exact a.elim
   next k=>
    have b:d≠e:=by rintro rfl;rw[c]at k;cases k
    rw[U.an _ _ b,k];exact⟨a.1,a.2.1,_,a.2.2,by rw[U.an _ _ (a4Q b)];exact c,U.ef f (a4Q b) Y _⟩
  .exact a.elim
 case kj r P o k7 k8 n5=>
  split at a
  .next d W z=>
   split at a
   .refine⟨a.1,a.2.1,a.2.2.1,?_⟩;have h:=a.2.2.2;split at h
    .next D k=>
     have b:d≠e:=by rintro rfl;simp[U.read,c]at k
     rw[rL f Y c k];refine⟨h.1,?_⟩;have N:=h.2;split
     .next i=>rw[if_pos i]at N;exact⟨_,N,by rw[U.an _ _ (a4Q b)];exact c,U.ef f (a4Q b) Y _⟩
     simp_all
    .exact h.elim
   .exact a.elim
  .exact a.elim
 case app r bytes o L=>
  split at a<;>try exact a.elim
  rename_i M l1 w F _ _;refine⟨a.1,a.2.1,a.2.2.1,a.2.2.2.1,?_⟩;have h:=a.2.2.2.2;cases l1<;>simp only at h|-;grind;grind
  case buf O n9 _=>
   have b:O≠e:=by rintro rfl;rw[c]at h;cases h.1
   refine⟨by rw[U.an _ _ b];exact h.1,λg l2 l3=> ?_⟩;have I:g≠e:=by rintro rfl;grind[U.ah]
   have l4:g=O\/f g=none:=l3.imp id (λa=>by rwa[U.an _ _ I]at a);refine⟨_,h.2 g l2 l4,by rw[U.an _ _ (a4Q I),U.eI _ (a4Q b)];exact c,?_⟩;rw[U.IC f (a4Q b) Y,U.ef _ (a4Q I) Y]
 case pick=>grind
 case dL r o l5=>
  grind
 case lI o l5=>
  grind
 all_goals
  (repeat' split at a)<;>first
   |exact a.elim
   |exact E _ a
   |exact⟨a.1,E _ a.2⟩
   |exact⟨a.1,a.2.1,E _ a.2.2⟩
   |exact⟨a.1,a.2.1,a.2.2.1,E _ a.2.2.2⟩
   |exact⟨a.1,a.2.1,a.2.2.1,a.2.2.2.1,E _ a.2.2.2.2⟩
   |exact⟨a.1,a.2.1,a.2.2.1,a.2.2.2.1,a.2.2.2.2.1,E _ a.2.2.2.2.2⟩
theorem wj {b:c6} (c:f e=none) (a:E K b j f s):E K b j (f.set e Y) (rK e Y s):=by
 have k: ∀d,s d f->rK e Y s d (f.set e Y):=λd o=>⟨f,o,c,rfl⟩;unfold E at*;cases h:b.guard with
 |none=>rw[h]at a;exact AK c a
 |some fH=>
  obtain⟨r,x⟩:=fH;rw[h]at a;simp only at a|-;split at a
  .split at a
   .next p=>rw[if_pos p];exact AK c a
   simp_all
  .exact k _ a
  .exact a.elim
def mN:ca->Bool
 | .mE _ _ _| .mF _ _ _| .mG _ _ _ _ _| .mH _ _| .alloc _ _| .kn| .lM _ _ _ _ _| .lN _ _ _ _| .km _| .mC _| .mB _| .iR _ _| .box _ _| .kh _ _| .load _ _ _| .store _ _ _| .ki _ _| .kj _ _ _ _ _ _| .jE _ _ _ _ _| .app _ _ _ _| .fY _ _| .kk _ _ _ _ _| .mz _ _ _| .mA _ _| .kl _ _| .lL _ _ _ _=>false
 | _=>true
def nP:ca->Bool
 | .load _ _ _| .jE _ _ _ _ _=>true
 | _=>false
def lb:ca->Bool
 | .alloc _ _| .kn| .km _| .box _ _| .kh _ _| .ki _ _| .kl _ _| .kk _ _ _ _ _=>true
 | _=>false
def AL {k:Fr}: ∀(o:List (Nat×Nat×Operand)) (b:List R) {r:List R->Prop},ko k b o r-> ∃c,∀a:List R->Prop,ko k b o a↔a c
 | [],b,_,_=>⟨b,λa=>a6P⟩
 |(off,cq,y)::c,b,_,d=>by
  obtain⟨x,p⟩:=AL c _ d.2.2;exact⟨x,λa=>⟨λh=>(p a).1 h.2.2,λh=>⟨d.1,d.2.1,(p a).2 h⟩⟩⟩
def AM (b:mN e3=true) (a:G K e3 j f s): ∃k,∀(c:U) (d:R->U->Prop),G K e3 j c d↔d k c:=by
 cases e3<;>simp only[mN,a5Q]at b<;>simp only[G]at a|-
 case pick=>split at a;(exact⟨_,λc d=>a6P⟩);(exact a.elim)
 case mD=>split at a;(exact⟨_,λc d=>a6P⟩);(exact a.elim)
 case lO=>split at a;(exact⟨_,λc d=>a6P⟩);(exact a.elim)
 case lJ x y=>
  obtain⟨k,o⟩:=AL _ _ a;exact⟨.agg k,λc d=>o _⟩
 case lK=>split at a;(exact⟨_,λc d=>⟨λb=>b.2,λb=>⟨a.1,b⟩⟩⟩);(exact a.elim)
 case dL z p r=>
  split at a
  .have h:=a.2;split at h
   .exact⟨_,λc d=>⟨λb=>b.2.2,λb=>⟨a.1,h.1,b⟩⟩⟩
   .exact h.elim
  .exact⟨_,λc d=>⟨λb=>b.2.2.2,λb=>⟨a.1,a.2.1,a.2.2.1,b⟩⟩⟩
  .exact⟨_,λc d=>⟨λb=>b.2.2.2,λb=>⟨a.1,a.2.1,a.2.2.1,b⟩⟩⟩
  .exact a.elim
 case lI p r=>
  split at a
  .have h:=a.2;split at h
   .exact⟨_,λc d=>⟨λb=>b.2,λb=>⟨a.1,b⟩⟩⟩
   .exact h.elim
  .exact a.elim
 all_goals
  (repeat' split at a)<;>first
   |exact a.elim
   |exact⟨_,λc d=>a6P⟩
   |exact⟨_,λc d=>⟨λb=>b.2,λb=>⟨a.1,b⟩⟩⟩
   |exact⟨_,λc d=>⟨λb=>b.2.2,λb=>⟨a.1,a.2.1,b⟩⟩⟩
   |exact⟨_,λc d=>⟨λb=>b.2.2.2,λb=>⟨a.1,a.2.1,a.2.2.1,b⟩⟩⟩
   |exact⟨_,λc d=>⟨λb=>b.2.2.2.2,λb=>⟨a.1,a.2.1,a.2.2.1,a.2.2.2.1,b⟩⟩⟩
   |exact⟨_,λc d=>⟨λb=>b.2.2.2.2.2,λb=>⟨a.1,a.2.1,a.2.2.1,a.2.2.2.1,a.2.2.2.2.1,b⟩⟩⟩
def AN (b:nP e3=true) (a:G K e3 j f s): ∃h,∀(c:R->U->Prop),G K e3 j f c↔c h f:=by
 cases e3<;>simp only[nP,a5Q]at b<;>simp only[G]at a|-
 case load=>
  split at a
  .split at a
   .exact⟨_,λc=>⟨λb=>b.2,λb=>⟨a.1,b⟩⟩⟩
   .exact a.elim
  .exact⟨_,λc=>⟨λb=>b.2,λb=>⟨a.1,b⟩⟩⟩
  .exact a.elim
 case jE=>
  split at a
  .split at a
   .have d:=a.2.2.2;split at d
    .exact⟨_,λc=>⟨λb=>b.2.2.2.2,λb=>⟨a.1,a.2.1,a.2.2.1,d.1,b⟩⟩⟩
    .exact d.elim
   .exact a.elim
  .exact a.elim
def AO (a:lb e3=true) (b:G K e3 j U.emp λ_ _=>True):
  (∃y,∀(c:U) (d:R->U->Prop),G K e3 j c d↔d y c)\/ ∃(z:Nat->R) (C:Nat->bp),∀(c:U) (d:R->U->Prop),G K e3 j c d↔ ∀r,c r=none->d (z r) (c.set r (C r)):=by
 cases e3<;>simp only[lb,a5Q]at a<;>simp only[G]at b|-
 case alloc T D=>exact .inr ⟨_,_,λc d=>a6P⟩
 case kn=>exact .inr ⟨_,λ_=> _,λc d=>a6P⟩
 case km x=>split at b;(exact .inr ⟨_,λ_=> _,λc d=>a6P⟩);(exact b.elim)
 case box T x=>exact .inr ⟨_,λ_=> _,λc d=>⟨λa=>a.2,λa=>⟨b.1,a⟩⟩⟩
 case kh T x=>exact .inr ⟨_,λ_=> _,λc d=>⟨λa=>a.2,λa=>⟨b.1,a⟩⟩⟩
 case kk k bytes E x F=>split at b;(exact .inr ⟨λo=> .al o _ _ k,λ_=> _,λc d=>⟨λa=>a.2.2.2.2,λa=>⟨b.1,b.2.1,b.2.2.1,b.2.2.2.1,a⟩⟩⟩);(exact b.elim)
 case ki k h=>
  by_cases p:h.length=0
  .simp only[if_pos p]at b|-;exact .inl ⟨_,λc d=>⟨λa=>a.2,λa=>⟨b.1,a⟩⟩⟩
  .simp only[if_neg p]at b|-;exact .inr ⟨λo=> .J (h.map (aj j)) (.buf o h.length),λ_=> .buf k h.length h.length,λc d=>⟨λa=>a.2,λa=>⟨b.1,a⟩⟩⟩
 case kl k h=>
  by_cases p:h.length=0
  .simp only[if_pos p]at b|-;exact .inl ⟨_,λc d=>⟨λa=>a.2,λa=>⟨b.1,a⟩⟩⟩
  .simp only[if_neg p]at b|-;exact .inr ⟨λo=> .al o h.length h.length k,λ_=> .cells (flat (h.map (aj j))),λc d=>⟨λa=>a.2,λa=>⟨b.1,a⟩⟩⟩
theorem AP (a:lb e3=true) (b:G K e3 j f s):G K e3 j U.emp λ_ _=>True:=by
 cases e3<;>simp only[lb,a5Q]at a<;>simp only[G]at b|-;simp
 case kn=>exact λ_ _=>trivial
 case km c=>grind
 simp_all;simp_all
 case kk=>grind
 simp_all;simp_all
def Def (a:Ctx) (b:c6) (c:Fr):Prop:=E a b c U.emp λ_ _=>True
def wk {b:c6} (k:mN b.op=true) (a:E K b j f s): ∃p,∀(c:U) (d:R->U->Prop),E K b j c d↔d p c:=by
 unfold E at*;cases o:b.guard with
 |none=>rw[o]at a;exact AM k a
 |some fH=>
  obtain⟨r,x⟩:=fH;rw[o]at a;simp only at a|-;split at a
  .split at a
   .next h=>simp only[if_pos h];exact AM k a
   .next h=>simp only[if_neg h];exact⟨_,λc d=>a6P⟩
  .exact⟨_,λc d=>a6P⟩
  .exact a.elim
theorem tE {b:c6} (h:nP b.op=true) (a:E K b j f s): ∃o,∀(c:R->U->Prop),E K b j f c↔c o f:=by
 unfold E at*;cases k:b.guard with
 |none=>rw[k]at a;exact AN h a
 |some fH=>
  obtain⟨p,r⟩:=fH;rw[k]at a;simp only at a|-;split at a
  .split at a
   .next d=>simp only[if_pos d];exact AN h a
   .next d=>simp only[if_neg d];exact⟨_,λc=>a6P⟩
  .exact⟨_,λc=>a6P⟩
  .exact a.elim
def IH {b:c6} (d:lb b.op=true) (a:E K b j f s):Def K b j:=by
 unfold Def;unfold E at*;cases h:b.guard with
 |none=>rw[h]at a;exact AP d a
 |some fH=>
  obtain⟨k,o⟩:=fH;rw[h]at a;simp only at a|-;split at a
  .split at a
   .next c=>rw[if_pos c];exact AP d a
   .next c=>rw[if_neg c];trivial
  .trivial
  .exact a.elim
def AQ {d:c6} (o:lb d.op=true) (a:Def K d j):
  (∃r,∀(b:U) (c:R->U->Prop),E K d j b c↔c r b)\/ ∃(x:Nat->R) (y:Nat->bp),∀(b:U) (c:R->U->Prop),E K d j b c↔ ∀h,b h=none->c (x h) (b.set h (y h)):=by
 unfold Def at a;unfold E at*;cases p:d.guard with
 |none=>rw[p]at a;exact AO o a
 |some fH=>
  obtain⟨z,C⟩:=fH;rw[p]at a;simp only at a|-;split at a
  .split at a
   .next k=>simp only[if_pos k];exact AO o a
   .next k=>simp only[if_neg k];exact .inl ⟨_,λb c=>a6P⟩
  .exact .inl ⟨_,λb c=>a6P⟩
  .exact a.elim
structure dj where
 i:Nat
 pre:List Nat
 iu:List Nat
section
variable (P:Ctx) (xs:Nat->c6)
def hj (a:Nat) (b:Fr) (c:U):Prop:=
 match(xs a).dst with
 |some d=>E P (xs a) b c λh _=>h=b d
 |none=>True
def can (c:Fr->U->Prop):List dj->Fr->U->Prop
 | []=>c
 |a::o=>λd p=>(∀b∈a.pre,Def P (xs b) d)/\T P (xs a.i) (λh k=>(∀b∈a.iu,hj P xs b h k)/\can c o h k) d p
def clear (a:Option Nat) (b:List Nat):Bool:=match a with|some c=> !b.contains c|none=>true
def lR (a b:Option Nat):Bool:=match a,b with|some c,some d=>c !=d| _,_=>true
def indep (a b:dj) (d:List Nat):Bool:=
  clear (xs a.i).dst (xs b.i).reads&&clear (xs b.i).dst (xs a.i).reads&&lR (xs a.i).dst (xs b.i).dst&&
  b.iu.all (λc=>c==a.i||d.contains c||(clear (xs a.i).dst (xs c).reads&&lR (xs a.i).dst (xs c).dst))&&
  ((a.pre.isEmpty&&a.iu.isEmpty&&(mN (xs a.i).op||(nP (xs a.i).op&&((mN (xs b.i).op||nP (xs b.i).op||lb (xs b.i).op)||(b.iu.contains a.i&&clear (xs a.i).dst (xs a.i).reads&&(xs a.i).dst.isSome)))))||
   (b.iu.isEmpty&&(mN (xs b.i).op||lb (xs b.i).op)&&a.pre.contains b.i&&a.pre.all (λc=>clear (xs b.i).dst (xs c).reads)&&
     a.iu.all (λc=>clear (xs b.i).dst (xs c).reads&&lR (xs b.i).dst (xs c).dst)))
variable {P xs}
theorem rM {b:Option Nat}{c:List Nat} (d:clear b c=true): ∀a,b=some a->a∉c:=by intro a h;subst h;simpa[clear] using d
theorem AR {a b:Option Nat} (d:lR a b=true): ∀c,a=some c->b≠some c:=by grind[lR]
theorem AS {a:Option Nat} (h:clear a (xs e).reads=true) (k:lR a (xs e).dst=true) (b:Fr) (d:R) (c:U):hj P xs e (dm b a d) c↔hj P xs e b c:=by
 unfold hj;cases o:(xs e).dst with
 |none=>exact a6P
 |some p=>grind[la,rM,tC,AR]
theorem II (b:f i=none) (a:hj P xs e j f):hj P xs e j (f.set i Y):=by
 unfold hj at*;cases c:(xs e).dst with
 |none=>trivial
 |some h=>rw[c]at a;exact mM (λk o ⟨p,d,_,_⟩=>d) (wj b a)
def Pass (a:Nat->c6) (b:dj):List dj->Prop
 | []=>True
 |d::c=>indep a d b (c.map (·.i))=true/\Pass a b c
theorem AT {D:Fr->U->Prop} (c:dj) (e:List dj): ∀(x:List dj),Pass xs c x->(x.map (·.i)).Nodup-> ∀(d:Fr) (o:U),can P xs D (x++c::e) d o->
  T P (xs c.i) (λS k=>(∀a∈c.iu,a∉x.map (·.i)->hj P xs a S k)/\can P xs D (x++e) S k) d o
 | [],_,_,d,o,s=>rJ (λS k F=>⟨λa z _=>F.1 a z,F.2⟩) s.2
 |p::x,hk,n3,d,o,s=>by
  have A:=hk.1;have Z:(x.map (·.i)).Nodup:=by simp_all
  have j9:p.i∉x.map (·.i):=by simp_all
  have ih:=AT (D:=D) c e x hk.2 Z;obtain⟨k0,B⟩:=s;simp only[indep,a4K]at A;obtain⟨⟨⟨⟨k1,k2⟩,a3⟩,a4⟩,H⟩:=A;have l:=rM k1;have c2:=rM k2;have aI:=AR a3;have n4: ∀a∈c.iu,a≠p.i->a∉x.map (·.i)->clear (xs p.i).dst (xs a).reads=true/\lR (xs p.i).dst (xs a).dst=true:=λa z n5 n9=>by
   grind
  have W:T P (xs p.i) (λS k=>(∀a∈p.iu,hj P xs a S k)/\T P (xs c.i) (λI K=>(∀a∈c.iu,a∉x.map (·.i)->hj P xs a I K)/\can P xs D (x++e) I K) S k) d o:=
   rJ (λS k F=>⟨F.1,ih S k F.2⟩) B
  clear B ih;simp only[a6s,a4K]at H;rcases H with ⟨⟨k3,k4⟩,k5⟩|⟨⟨⟨⟨k6,k7⟩,k8⟩,a00⟩,a01⟩
  .
   have k9:p.pre= []:=a8A.1 k3;have a02:p.iu= []:=a8A.1 k4;have m: ∀(r:R) (b:R) (k:U),(∀G,E P (xs p.i) d k G↔G r k)->
     ((∀a∈c.iu,a∉x.map (·.i)->hj P xs a (dm (dm d (xs p.i).dst r) (xs c.i).dst b) k)/\can P xs D (x++e) (dm (dm d (xs p.i).dst r) (xs c.i).dst b) k)->
     (∀a∈c.iu,a∉(p::x).map (·.i)->hj P xs a (dm d (xs c.i).dst b) k)/\can P xs D (p::x++e) (dm d (xs c.i).dst b) k:=λr b k V i=>by
    rw[qe d _ _ r b aI]at i;refine⟨λa z l0=> ?_,?_⟩
    .simp only[a5h,a5i,not_or]at l0;grind[AS]
    .refine⟨by rw[k9];simp,?_⟩;simp_all [T,la]
   rcases k5 with l1|⟨l2,l3⟩
   .obtain⟨r,V⟩:=wk l1 W;have t:=(V o _).1 W;have h:=t.2;unfold T at h|-;rw[la _ l]at h;exact mM (λb k i=>m r b k (λG=>V k G) i) h
   .obtain⟨r,V⟩:=tE l2 W;have t:=(V _).1 W;have h:=t.2;unfold T at h|-;rw[la _ l]at h;rcases l3 with u|⟨⟨l4,l5⟩,l6⟩
    .rcases u with u|M
     case inr=>
      rcases AQ M (IH M h)with ⟨b,C⟩|⟨f,g,C⟩
      .rw[C]at h|-;exact m r b o V h
      .rw[C]at h|-;intro y n;refine m r (f y) _ ?_ (h y n);have l7:E P (xs p.i) d o λj _=>j=r:=(V _).2 rfl;have a03:E P (xs p.i) d (o.set y (g y)) λj _=>j=r:=mM (λ_ _ ⟨_,F,_,_⟩=>F) (wj (Y:=g y) n l7);grind[tE]
     have L: ∃b,∀G:R->U->Prop,E P (xs c.i) d o G↔G b o:=by
      rcases u with L|L
      .obtain⟨b,C⟩:=wk L h;exact⟨b,λG=>C o G⟩
      .exact tE L h
     obtain⟨b,C⟩:=L;rw[C]at h|-;exact m r b o V h
    .refine mM (λb k i=> ?_) h;have l8:=i.1 p.i (by simpa using l4) j9;obtain⟨a04,N⟩:=a5A.1 l6;have a05:E P (xs p.i) d k λj _=>j=r:=by have:=l8;rw[qe d _ _ r b aI]at this;unfold hj at this;rw[N]at this;simp only at this;rw[IB,<-N,la _ (rM l5),la _ c2]at this;exact this
     grind[tE]
  .
   have O:c.iu= []:=a8A.1 k6;have Q:Def P (xs c.i) d:=k0 c.i (by simpa using k8);have l9:(∃r,∀(o:U) (D:R->U->Prop),E P (xs c.i) d o D↔D r o)\/ ∃(f:Nat->R) (g:Nat->bp),∀(o:U) (D:R->U->Prop),E P (xs c.i) d o D↔ ∀y,o y=none->D (f y) (o.set y (g y)):=by
    rcases k7 with L|L
    .exact .inl (wk L Q)
    .exact AQ L Q
   have X: ∀b,∀a∈p.pre,Def P (xs a) (dm d (xs c.i).dst b):=λb a z=>by
    grind[Def,la,rM,List.all_eq_true]
   have a06: ∀a∈p.iu,∀(w:Fr) (b:R) (q:U),hj P xs a w q->hj P xs a (dm w (xs c.i).dst b) q:=λa z w b q F=>by
    simp_all [a4W,a4K,AS]
   unfold T at W;rcases l9 with ⟨b,C⟩|⟨f,g,C⟩
   .unfold T;rw[C];refine⟨λa z=>(by rw[O]at z;cases z),X b,?_⟩;unfold T;rw[la _ c2];refine mM (λv n0 F=> ?_) W;have h:=F.2;rw[la _ l,C,qe d _ _ v b aI]at h;refine⟨λa z=> ?_,h.2⟩;grind[qe]
   .unfold T;rw[C];intro y n;refine⟨λa z=>(by rw[O]at z;cases z),X (f y),?_⟩;unfold T;rw[la _ c2];refine mM (λv q n1=> ?_) (wj (Y:=g y) n W);obtain⟨n0,F,n2,rfl⟩:=n1;have h:=F.2;rw[la _ l,C]at h;have Y:=h y n2;rw[qe d _ _ v (f y) aI]at Y;refine⟨λa z=> ?_,Y.2⟩;grind[qe,II]
def tF (a:Nat->List Nat):Nat->List Nat->Nat->List Nat
 |0,acc,_=>acc
 |d+1,acc,b=>tF a d (acc++ [(a b).foldl (λh c=>h|||2^c|||acc.getD c 0) 0]) (b+1)
def dep (a:List Nat) (b c:Nat):Bool:=(a.getD c 0).testBit b
def kt (c:Nat->c6) (d:List Nat) (a:dj):List Nat->List dj->Bool
 | _,[]=>true
 |h,b::k=>(dep d a.i b.i||indep c a b h)&&kt c d a (h++ [b.i]) k
def mO (a:Nat->c6) (b:List Nat):List dj->Bool
 | []=>true
 |d::c=>kt a b d [] c&&mO a b c
def iV (a:Array Oper) (b:Nat):List Nat:=
 match a[b]? with
 |some c=>(c.after.toList.filter λd=>Region.binds .any d).map (·.on)
 |none=> []
def tG (k:Ctx) (o:Nat->c6) (b:Array Oper) (h:Fr->U->Prop):Nat->Array Bool->Fr->U->Prop
 |0,a,c,d=>Region.ready .any b a= []/\h c d
 |fuel+1,a,c,d=>(Region.ready .any b a= []->h c d)/\ ∀p∈Region.ready .any b a,T k (o p) (tG k o b h fuel (a.setIfInBounds p true)) c d
def AU (b:Array Oper) (c:Array Bool):Prop:= ∀a,a<b.size->c.getD a true=true-> ∀d∈iV b a,c.getD d false=true
theorem wm {a:Array Oper}:i∈iV a e↔ ∃b,a[e]? =some b/\ ∃c∈b.after,Region.binds .any c=true/\c.on=i:=by unfold iV;grind
theorem tH {a:Array Oper}{b:Array Bool}:e∈Region.ready .any a b↔b.getD e true=false/\e<a.size/\ ∀d∈iV a e,b.getD d false=true:=by
 rw[mem_ready];constructor
 .rintro⟨c,z,x,h⟩;refine⟨c,(a6a.1 x).1,λd y=> ?_⟩;obtain⟨C,D,k,o,p,rfl⟩:=wm.1 y;simp_all
 .rintro⟨c,r,h⟩;exact⟨c,a[e],a6E r,λk o p=>h _ (wm.2 ⟨_,a6E r,k,o,p,rfl⟩)⟩
theorem IJ (c:List Nat) (h:List Nat) (d:Nat): ∀a,(c.foldl (λa b=>a|||2^b|||h.getD b 0) a).testBit d=true->a.testBit d=true\/ ∃b∈c,d=b\/(h.getD b 0).testBit d=true:=by
 induction c with
 |nil=>intro a k;exact .inl k
 |cons o c ih=>grind
def Bits (h:Nat->List Nat) (d:List Nat):Prop:= ∀a b,dep d b a=true-> ∃c∈h a,b=c\/(dep d b c=true/\c<a)
theorem AV {h:Nat->List Nat} (F: ∀b a,a∈h b->a<b): ∀(x:Nat) (c:List Nat) (d:Nat),c.length=d->Bits h c->Bits h (tF h x c d)
 |0,c,d,_,y=>y
 |x+1,c,d,z,y=>by
  refine AV F x _ (d+1) (by simp[z]) λb G k=> ?_;have C: ∀b,b<d->(c++ [(h d).foldl (λo a=>o|||2^a|||c.getD a 0) 0]).getD b 0=c.getD b 0:=λb p=>by
   grind
  unfold dep at k|-;rcases a8x b d with p|p|p
  .rw[C b p]at k;obtain⟨a,D,r⟩:=y b G k;refine⟨a,D,r.imp id λE=>⟨?_,E.2⟩⟩;rw[C a a9p];exact E.1
  .subst p;have L:(c++ [(h b).foldl (λo a=>o|||2^a|||c.getD a 0) 0]).getD b 0=(h b).foldl (λo a=>o|||2^a|||c.getD a 0) 0:=by rw[<-z];simp[List.getD]
   rw[L]at k;rcases IJ _ _ _ _ k with r|⟨a,D,r⟩
   .simp at r
   grind
  grind
theorem IK {h:Array Oper}{d:Array Bool}{x:List Nat} (y:Bits (iV h) x) (z:AU h d) (L:d.size=h.size): ∀(k a b:Nat),b<=k->dep x a b=true->(∀c∈iV h b,d.getD c false=true)->d.getD a false=true:=by
 intro k
 induction k with
 |zero=>
  intro a b C r o;obtain⟨c,p,rfl|⟨_,D⟩⟩:=y b a r
  .exact o _ p
  .omega
 |succ k ih=>
  intro a b C r o;obtain⟨c,p,rfl|⟨E,D⟩⟩:=y b a r
  .exact o _ p
  .have F:=o c p;have G:c<d.size:=by grind
   refine ih a c a9p E (z c a9p ?_);simpa[G] using F
def AW {k:List Nat}{c d:dj}{o:List dj}: ∀ {h:List dj}{b:List Nat},kt xs k c b (h++d::o)=true->dep k c.i d.i=true\/indep xs c d (b++h.map (·.i))=true
 | [],b,a=>by
  simp only[a5b,kt,a4K,a6s]at a;simpa using a.1
 |p::h,b,a=>by
  simp only[a5I,kt,a4K]at a;have:=AW a.2;simpa using this
theorem AX {d:List Nat}{b:dj}{k:List dj}: ∀ {a:List dj},mO xs d (a++b::k)=true->(∀h∈a,dep d h.i b.i=false)->Pass xs b a
 | [],_,_=>trivial
 |h::a,c,o=>by
  simp only[a5I,mO,a4K]at c;refine⟨?_,AX c.2 (λp r=>o p (a6j _ r))⟩;have:=AW c.1;simp_all
theorem IL {a c:dj}{d h:List Nat} (k:indep xs a c d=true) (o: ∀b,b∈d->b∈h\/(clear (xs a.i).dst (xs b).reads=true/\lR (xs a.i).dst (xs b).dst=true)):indep xs a c h=true:=by simp only[indep,a4K]at k|-;grind
theorem AY {o:List Nat}{c:dj}: ∀ {d:List dj}{h k:List Nat},kt xs o c h d=true->(∀a,a∈h->a∈k\/(clear (xs c.i).dst (xs a).reads=true/\lR (xs c.i).dst (xs a).dst=true))->kt xs o c k d=true
 | [],_,_,_,_=>rfl
 |p::d,h,k,b,hm=>by
  simp only[kt,a4K,a6s]at b|-;refine⟨b.1.imp id (λb=>IL b hm),AY b.2 λa r=> ?_⟩;grind
theorem AZ {k:List Nat}{b d:dj}{o:List dj} (p:clear (xs b.i).dst (xs d.i).reads=true/\lR (xs b.i).dst (xs d.i).dst=true): ∀ {h:List dj}{c:List Nat},kt xs k b c (h++d::o)=true->kt xs k b c (h++o)=true
 | [],c,a=>by
  simp only[a5b,kt,a4K]at a|-;refine AY a.2 λr x=> ?_;grind
 |r::h,c,a=>by
  simp only[a5I,kt,a4K]at a|-;exact⟨a.1,AZ p a.2⟩
def B0 {d:List Nat}{h:dj}{k:List dj}: ∀ {b:List dj},mO xs d (b++h::k)=true->Pass xs h b->mO xs d (b++k)=true
 | [],a,_=>by simp only[a5b,mO,a4K]at a|-;exact a.2
 |p::b,a,o=>by
  simp only[a5I,mO,a4K]at a|-;have c:=o.1;simp only[indep,a4K]at c;exact⟨AZ ⟨c.1.1.1.1,c.1.1.2⟩ a.1,B0 a.2 o.2⟩
theorem IM {k:Array Oper}{V:List Nat} (q:Bits (iV k) V) (s: ∀a c,c∈iV k a->c<a): ∀(z:Nat) (b:Array Bool) (d:List dj),b.size=k.size->d.length<=z->
  (∀a,a∈d.map (·.i)↔(a<k.size/\b.getD a true=false))->(d.map (·.i)).Nodup->mO xs V d=true->AU k b-> ∀C D,can P xs j4 d C D->tG P xs k j4 z b C D:=by
 have t: ∀(b:Array Bool) (d:List dj),b.size=k.size->(∀a,a∈d.map (·.i)↔(a<k.size/\b.getD a true=false))->Region.ready .any k b= []->d= []:=λb d E r W=>by
  cases d with
  |nil=>rfl
  |cons h X=>
   exfalso;have u: ∀G a,a<=G->a<k.size->b.getD a true=false-> ∃c,c∈Region.ready .any k b:=by
    intro G
    induction G with
    |zero=>intro a e o p;refine⟨a,tH.2 ⟨p,o,λc x=> ?_⟩⟩;have:=s a c x;omega
    |succ G ih=>
     intro a e o p;by_cases v: ∀c∈iV k a,b.getD c false=true
     .exact⟨a,tH.2 ⟨p,o,v⟩⟩
     grind
   obtain⟨o,p⟩:=(r h.i).1 a9q;obtain⟨c,x⟩:=u h.i h.i (a5k _) o p;rw[W]at x;cases x
 intro z
 induction z with
 |zero=>intro b d E g r _ _ _ C D L;have:d= []:=a4N a9p;subst this;refine⟨?_,L⟩;simp_all [Region.ready,tH]
 |succ z ih=>
  intro b d E g r w i j C D L;refine⟨λW=> ?_,λa e=> ?_⟩
  .have:=t b d E r W;subst this;exact L
  .obtain⟨o,p,l⟩:=tH.1 e;have A:=(r a).2 ⟨p,o⟩;obtain⟨h,B,rfl⟩:=a5d.1 A;obtain⟨y,S,rfl⟩:=a7w B;have H:(y.map (·.i)++h.i::S.map (·.i)).Nodup:=by simpa using w
   have I:(y.map (·.i)).Nodup:=(List.nodup_append.1 H).1;have m:Pass xs h y:=AX i λF f=>by
    cases K:dep V F.i h.i with
    |false=>rfl
    |true=>exfalso;have Y:=IK q j E h.i F.i h.i (a5k _) K l;grind
   have M:=AT (D:=j4) h S y m I C D L;refine rJ (λN O Q=> ?_) M;refine ih (b.setIfInBounds h.i true) (y++S) (by simp[E]) (by simp at g|-;omega) (λc=> ?_) ?_ (B0 i m) ?_ N O Q.2
   .have Z:h.i∉(y++S).map (·.i):=by grind
    by_cases T:h.i=c;simp_all
    .rw[getD_set_ne true T,<-r c];grind
   grind
   .intro c x n F f;by_cases T:h.i=c
    .subst T;exact getD_set_true (l F f)
    .rw[getD_set_ne true T]at n;exact getD_set_true (j c x n F f)
end
inductive gm where
 |norm
 |exit (id:Nat)
 |ret
inductive dM where
 |skip
 |plain (ops:List c6)
 |draw (ops:List c6) (order:List dj)
 |seq (a b:dM)
 |cond (c:Operand) (a b:dM)
 |block (id:Nat) (a:dM)
 |loop (a:dM)
 |exit (id:Nat)
 |ret
 |refuse
def nth (a:List c6) (b:Nat):c6:=a.getD b {dst:=none,op:= .fb (.const (.bool true)),guard:=none}
def eR (a:Fr->U->Prop) (b:gm->Fr->U->Prop):gm->Fr->U->Prop
 | .norm=>a
 |c=>b c
def lf (c:Nat) (a:gm->Fr->U->Prop):gm->Fr->U->Prop
 | .exit b=>if b=c then a .norm else a (.exit b)
 |d=>a d
def bT (c:Ctx):dM->(gm->Fr->U->Prop)->Fr->U->Prop
 | .skip,a=>a .norm
 | .plain ops,a=>iU c ops (a .norm)
 | .draw ops order,a=>can c (nth ops) (a .norm) order
 | .seq h k,a=>bT c h (eR (bT c k a) a)
 | .cond z h k,a=>λb d=>match aj b z with
  | .v (.bool p)=>(p=true->bT c h a b d)/\(p=false->bT c k a b d)
  | _=>False
 | .block id h,a=>bT c h (lf id a)
 | .loop h,a=>λb d=> ∃(o:Fr->U->Prop) (r:Fr->U->Nat),o b d/\ ∀b d,o b d->bT c h (eR (λx y=>o x y/\r x y<r b d) a) b d
 | .exit id,a=>a (.exit id)
 | .ret,a=>a .ret
 | .refuse,_=>λ_ _=>False
def wo (a:Array Oper) (b:Oper):Option (Option (Nat×Bool)):=
 match b.guard with
 |none=>some none
 |some (c,want)=>match(a[c]?).bind (·.dst)with
  |some d=>some (some (d,want))
  |none=>none
def B1 (a:Nat):Option Nat->Bool
 |some b=>decide (b<a)
 |none=>true
def wq (a:List Nat):Option Nat->Bool
 |some b=> !a.contains b
 |none=>true
def qg (c:Program) (b:Env) (d:Nat) (h:Array Oper) (a:Oper):Option c6:=
 match wi c b a,wo h a with
 |some k,some o=>if B1 d a.dst=true/\wq b.pins a.dst=true then some {dst:=a.dst,op:=k,guard:=o}else none
 | _,_=>none
def fu {a b:Type} (c:a->Option b):List a->Option (List b)
 | []=>some []
 |d::h=>match c d,fu c h with
  |some k,some o=>some (k::o)
  | _,_=>none
def wu (b:Nat->List Nat) (c:List Nat) (d:Nat->Bool) (left:List Nat):Option Nat:=left.find? λa=>(b a).all (λh=>c.contains h)&&d a
def B2 (b:Nat->List Nat) (c:Nat->c6):Nat->List Nat->List Nat->List Nat
 |0,_,_=> []
 |fuel+1,done,left=>
  match(wu b done (λa=>mN (c a).op||nP (c a).op) left).or ((wu b done (λa=> !lb (c a).op) left).or (wu b done (λ_=>true) left))with
  |some a=>a::B2 b c fuel (a::done) (left.filter (·!=a))
  |none=> []
def B3 (a:c6):Bool:=mN a.op||nP a.op
def marks (a:Nat->c6) (d:Nat->Nat->Bool):List Nat->List Nat->List dj
 | _,[]=> []
 |ahead,b::h=>
  let k:=if B3 (a b)then []else h.filter λc=>(lb (a c).op||mN (a c).op)&& !d b c
  let o:=if B3 (a b)||lb (a b).op then []else ahead.filter λc=>nP (a c).op&& !d c b
  ⟨b,k,o⟩::marks a d (ahead++ [b]) h
def B4 (a:Array Oper) (b:Nat->c6):List dj:=
 marks b (dep (tF (iV a) a.size [] 0)) [] (B2 (iV a) b a.size [] (List.range a.size))
def wv (a:Array Oper) (d:Nat->c6) (b:List dj):Bool:=
 (List.range a.size).all (λc=>(iV a c).all (λh=>decide (h<c)))&&decide (b.length<=a.size)&&(List.range a.size).all (λc=>(b.map (·.i)).contains c)&&b.all (λk=>decide (k.i<a.size))&&
  decide ((b.map (·.i)).Nodup)&&mO d (tF (iV a) a.size [] 0) b
def tI:Code->List Oper
 | .region _ ops _=>ops.toList
 | .seq a b| .cond _ a b=>tI a++tI b
 | .block _ a| .loop a=>tI a
 | _=> []
def rN (a:List Nat):Operand->Bool
 | .tmp b=>a.contains b
 | _=>false
def derive (a:List Nat):List Oper->List Nat
 | []=>a
 |d::h=>match d.op,d.dst with
  | .fieldAddr _ b _,some c| .indexAddr _ b _,some c| .nilCheck b,some c=>derive (if rN a b then c::a else a) h
  | _,_=>derive a h
def IN (a:List Nat) (b:Oper):Bool:=
 match b.op with
 | .fieldAddr _ _ _| .indexAddr _ _ _| .nilCheck _| .load _ _| .slice _ _ _ _ _=>false
 |op=>op.operands.toList.any (rN a)
def IP (a:List Nat) (b:Oper):Bool:=
 match b.op with
 | .slice _ c _ _ _=>rN a c
 | _=>false
def IQ (a:List Nat) (h:Oper):List Nat:=
 let p (a:List Nat) (b:Operand):List Nat:=match b with| .tmp k=>if a.contains k then a else k::a| _=>a
 let c (b:Operand):List Nat:=match h.dst with
  |some d=>if a.contains d then p a b else if rN a b then(if a.contains d then a else d::a)else a
  |none=>a
 match h.op with
 | .move b| .assign b=>c b
 | .slice _ b _ _ _=>c b
 | .call o=>match o.callee,o.args.toList with
  | .builtin .append,[b,_]=>c b
  | _,_=>a
 | _=>a
def wx (b:List Oper):Nat->List Nat->List Nat
 |0,a=>a
 |d+1,a=>let c:=b.foldl IQ a;if c.length=a.length then a else wx b d c
def B5 (c:Program) (a:List Oper):List Nat:=
 a.filterMap λb=>match b.op,b.dst with
  | .indexAddr d (.tmp h) _,some k=>if !(match c.underlying d with|some (.slice _)=>true| _=>false)then none else let o:=derive [k] a;if a.any (λp=>match p.op with| .store _ r _=>rN o r| _=>false)then some h else none
  | _,_=>none
def IS (b:Program) (c:List Nat) (a:Oper):Bool:=
 match a.op,a.dst with
 | .convert st _ _,some d=>(match b.underlying st with|some .string=>true| _=>false)&&c.contains d
 | _,_=>false
def IT (d:Program) (b:Code):Env:=
 let a:=tI b
 let h:=(a.filterMap λc=>match c.op with| .box _ _=>c.dst| _=>none).filter λo=>let k:=derive [o] a;a.any (IP k)&& !a.any (IN k)
 {jz:=h,Ax:=derive h a,wr:=a.filterMap λc=>match c.op with| .call b=>(match b.callee,b.args.toList with| .builtin .copy,.tmp p:: _=>some p| _,_=>none)| _=>none,tA:=wx a 40 (B5 d a),ty:=false,lQ:=a.any (IS d (wx a 40 (B5 d a)))}
def gU (b:Program) (a:Env) (c:Nat):Code->Option dM
 | .skip=>some .skip
 | .region _ ops false=>match fu (qg b a c ops) ops.toList with
  |some xs=>some (.plain xs)
  |none=>if a.Ay=true then some .refuse else none
 | .region _ ops true=>match fu (qg b a c ops) ops.toList with
  |some xs=>if wv ops (nth xs) (B4 ops (nth xs))=true then some (.draw xs (B4 ops (nth xs)))else none
  |none=>none
 | .seq d h=>match gU b a c d,gU b a c h with
  |some k,some o=>some (.seq k o)
  | _,_=>none
 | .cond p d h=>match gU b a c d,gU b a c h with
  |some k,some o=>if aT p=true then some (.cond p k o)else none
  | _,_=>none
 | .block id d=>(gU b a c d).map (.block id)
 | .loop d=>(gU b a c d).map .loop
 | .exit id=>some (.exit id)
 | .ret=>some .ret
 | .refuse _=>some .refuse
 | _=>none
def oX (a:List Deferred×List (Nat×Value)) (b:Act):Prop:=b.defers=a.1/\ ∀c∈a.2,b.tmps.getD c.1 undef=c.2
theorem oX.put {d:List Deferred×List (Nat×Value)}{a:Act} (h:oX d a) {b:Option Nat}{v:Value}{k:List Nat} (p: ∀c∈d.2,c.1∈k) (r:wq k b=true):oX d (a.put b v):=by
 refine⟨by rw[<-h.1];cases b<;>rfl,λc o=> ?_⟩;cases b with
 |none=>exact h.2 c o
 |some b=>
  have x:c.1≠b:=by rintro rfl;grind[wq,Bool.not_eq_true',decide_eq_false_iff_not]
  rw[<-h.2 c o];simp_all [Act.put,a5u,a7s,a4Q]
def hL (c:List Deferred×List (Nat×Value)) (d:Nat) (h:bl) (k:U) (o:World) (p:Fr) (r:U) (a:Act) (x:World):Prop:=
 a.tmps.size=d/\oX c a/\ ∃b,bL b a p/\Step h k o b r x
def post (h:List Deferred×List (Nat×Value)) (D:R->U->Prop) (r:Nat) (k:bl) (o:U) (p:World) (x:gm->Fr->U->Prop):Exit->Act->World->Prop
 | .normal,b,d=> ∃a c,hL h r k o p a c b d/\x .norm a c
 | .exit id,b,d=> ∃a c,hL h r k o p a c b d/\x (.exit id) a c
 | .ret,b,d=> ∃a c,hL h r k o p a c b d/\x .ret a c
 | .panic E,b,d=>oX h b/\ ∃v z y C,E= [{v,recovered:=false}]/\Step k o p y C d/\aZ y v z/\up D z C/\ ∃a,bL y b a
 | _,_,_=>False
variable{b4:FuncId}
section
variable  {env:Env}    {D:List Deferred×List (Nat×Value)}
def size_put (a:Act) (b:Option Nat) (v:Value):(a.put b v).tmps.size=a.tmps.size:=by cases b<;>simp[Act.put]
theorem B6 {c o:Type}{p:c->Option o}: ∀ {d:List c}{b:List o},fu p d=some b->d.length=b.length/\ ∀(r:Nat) (h:c),d[r]? =some h-> ∃k,b[r]? =some k/\p h=some k
 | [],b,a=>by simp only[fu,a4S]at a;simp_all
 |h::y,b,a=>by
  simp only[fu]at a;split at a
  case h_2=>cases a
  rename_i k z C x;obtain rfl:=a4G a;obtain⟨E,F⟩:=B6 x;grind
theorem IU {h:Array Oper}{o:Oper}{z:Option (Nat×Bool)} (c:wo h o=some z) {a:Act} (E:bL u a j):
  match z with
  |none=>Region.wanted o (yielded h a.tmps)=true
  |some (b,C)=>(∀p,j b= .v (.bool p)->Region.wanted o (yielded h a.tmps)=(p==C))/\(j b= .aL []->Region.wanted o (yielded h a.tmps)=false):=by
 unfold wo at c;split at c
 .rename_i x;obtain rfl:=a4G c;simp[Region.wanted,x]
 .rename_i F C x;split at c
  case h_2=>cases c
  rename_i b G;obtain rfl:=a4G c;have d:=E b;refine⟨λp y=> ?_,λy=> ?_⟩
  .rw[y]at d;have k:=d.dU;have S:a.tmps[b]? =some (.bool p):=by
    rw[a5u]at k;cases r:a.tmps[b]? with
    |none=>rw[r]at k;cases k
    |some L=>rw[r]at k;simpa using k
   grind[yielded,Region.wanted]
  .rw[y]at d;have P:yielded h a.tmps F=none:=by
    unfold yielded;rw[G];simp only[Option.bind_some];cases r:a.tmps[b]? with
    |none=>rfl
    |some L=>rw[a5u,r]at d;simp only[a6K]at d;cases d;rfl
   simp[Region.wanted,x,P]
theorem B7 (L: ∀A∈D.2,A.1∈env.pins) {P:Array Oper}{b:Oper}{S:c6} (p:qg m env e P b=some S) {d:Act} (B:hL D e u f l j t d h8) (H:T ⟨m,s⟩ S j4 j t) (x:Exit->Act->World->Prop) (I: ∀v k o a h,(∃j,bL o d j)->Step u f l o a h->aZ o v k->up s k a->x (.panic [{v,recovered:=false}]) d h):
  if Region.wanted b (yielded P d.tmps)then b.wp m d h8 (λy h=> ∃c a,hL D e u f l c a y h/\j4 c a) x else∃c a,hL D e u f l c a (d.put b.dst undef) h8/\j4 c a:=by
 obtain⟨V,W,g,r,z⟩:=B;unfold qg at p;split at p
 case h_2=>cases p
 rename_i K j9 M N;split at p
 case isFalse=>cases p
 rename_i i;obtain rfl:=a4G p;have n: ∀C,b.dst=some C->C<d.tmps.size:=λC k0=>by grind[B1]
 have k1:=IU N r;have k2:G ⟨m,s⟩ K j t (λk a=>j4 (dm j b.dst k) a)->b.wp m d h8 (λy h=> ∃c a,hL D e u f l c a y h/\j4 c a) x:=λO=>by
  have:=Iy M r z.holds O x (λv k o a h q Q X=>I v k o a h ⟨j,r.mono q.le⟩ (z.trans q) Q X);refine Oper.wp_mono (λy h Y=> ?_) this;obtain⟨v,o,a,k,rfl,w,Z,F⟩:=Y;exact⟨dm j b.dst k,a,⟨by rw[size_put];exact V,W.put L i.2,o,(r.mono w.le).put b.dst n Z,z.trans w⟩,F⟩
 have k3:j4 (dm j b.dst (.aL [])) t-> ∃c a,hL D e u f l c a (d.put b.dst undef) h8/\j4 c a:=λF=>
  ⟨dm j b.dst (.aL []),t,⟨by rw[size_put];exact V,W.put L i.2,g,r.put b.dst n (aZ.undef g),z⟩,F⟩
 unfold T E at H;grind
theorem B8 (F: ∀T∈D.2,T.1∈env.pins) {G:Array Oper}{o:Exit->Act->World->Prop}{L:Fr->U->Prop} (P: ∀b c a d,hL D e u f l b c a d->L b c->o .normal a d) (S: ∀a v p k r x,(oX D a/\ ∃b,bL k a b)->Step u f l k r x->aZ k v p->up s p r->o (.panic [{v,recovered:=false}]) a x): ∀(y:List Oper) (z:List c6),fu (qg m env e G) y=some z->
  ∀(b:Fr) (c:U) (a:Act) (d:World),hL D e u f l b c a d->iU ⟨m,s⟩ z L b c->wpList m G o y a d
 | [],z,h,b,c,a,d,C,E=>by
  simp only[fu,a4S]at h;subst h;exact P b c a d C E
 |n::y,z,h,b,c,a,d,C,E=>by
  simp only[fu]at h;split at h
  case h_2=>cases h
  rename_i q V W g;obtain rfl:=a4G h;have ih:=B8 F P S y V g;have:=B7 F W C E o (λv p k r x i=>S a v p k r x ⟨C.2.1,i⟩);simp only[wpList];split
  .rename_i j;rw[if_pos j]at this;grind[Oper.wp_mono]
  grind
def wy (G: ∀w∈D.2,w.1∈env.pins) {y:Array Oper}{z:Exit->Act->World->Prop}{j:Fr->U->Prop} (C: ∀b d a c,hL D e u f l b d a c->j b d->z .normal a c) (L: ∀a v E o h k,(oX D a/\ ∃b,bL o a b)->Step u f l o h k->aZ o v E->up s E h->z (.panic [{v,recovered:=false}]) a k) {P:List c6} (S:fu (qg m env e y) y.toList=some P):
  ∀(p:Nat) (F:Array Bool) (b:Fr) (d:U) (a:Act) (c:World),hL D e u f l b d a c->tG ⟨m,s⟩ (nth P) y j p F b d->wpAny m .any y z p F a c
 |0,F,b,d,a,c,r,x=>⟨x.1,C b d a c r x.2⟩
 |p+1,F,b,d,a,c,r,x=>by
  refine⟨λA=>C b d a c r (x.1 A),λT n=> ?_⟩;have q:=x.2 T n;obtain⟨_,B,t,_⟩:=mem_ready.1 n;obtain⟨H,I,K⟩:=(B6 S).2 T B (by simpa using t);have M:nth P T=H:=by simp[nth,List.getD,I]
  rw[M]at q;have:=B7 G K r q z (λv E o h k N=>L a v E o h k ⟨r.2.1,N⟩);unfold wpOp;simp only[t];split
  .rename_i V;rw[if_pos V]at this;exact .inl (Oper.wp_mono (λO k ⟨W,h,g,i⟩=>wy G C L S p _ W h O k g i) this)
  .rename_i V;rw[if_neg V]at this;obtain⟨W,h,g,i⟩:=this;exact wy G C L S p _ W h _ c g i
theorem IV {a:Array Oper}{d:Nat->c6}{h:List dj} (c:wv a d h=true) (p:can K d j4 h j f):tG K d a j4 a.size (Array.replicate a.size false) j f:=by
 simp only[wv,a4K,a4W,decide_eq_true_eq,a5Z]at c;obtain⟨⟨⟨⟨⟨E,F⟩,G⟩,L⟩,x⟩,y⟩:=c;have r: ∀b k,k∈iV a b->k<b:=λb k P=>by
  grind[wm,Array.getElem?_eq_some_iff]
 refine IM (AV r a.size [] 0 rfl (λb z c=>by simp[dep]at c)) r a.size _ h a9q a9p (λb=> ?_) x y (λb o C=> ?_) j f p
 .constructor
  .intro o;obtain⟨z,p,rfl⟩:=a5d.1 o;simp_all
  simp_all
 .simp[o]at C
def oY (L:m.follows .mixedOrders=true) (G: ∀k2∈D.2,k2.1∈env.pins): ∀(r:Code) (x:dM),gU m env e r=some x-> ∀(p:gm->Fr->U->Prop) (b:Fr) (c:U) (d:Act) (k:World),hL D e u f l b c d k->bT ⟨m,s⟩ x p b c->r.wp m (post D s e u f l p) d k
 | .skip,x,a,p,b,c,d,k,h,bP=>by
  simp only[gU,a4S]at a;subst a;exact wp_skip ⟨b,c,h,bP⟩
 | .region id ops k3,x,a,p,b,c,d,k,h,bP=>by
  cases k3 with
  |false=>
   simp only[gU]at a;split at a
   case h_2=>
    split at a
    .obtain rfl:=a4G a;exact bP.elim
    .cases a
   rename_i Y n;obtain rfl:=a4G a;refine wp_region_list ?_;exact B8 G (L:=p .norm) (λb c d k h y=>⟨b,c,h,y⟩) (λd v q t z E F P w A=>⟨F.1,v,q,t,z,rfl,P,w,A,F.2⟩) ops.toList Y n b c d k h bP
  |true=>
   simp only[gU]at a;split at a
   case h_2=>cases a
   rename_i Y n;split at a
   case isFalse=>cases a
   rename_i k4;obtain rfl:=a4G a;refine wp_region_any L ?_;obtain⟨k5,k6,k7,k8,Z⟩:=h;exact wy G (j:=p .norm) (λb c d k h y=>⟨b,c,h,y⟩) (λd v q t z E F P w A=>⟨F.1,v,q,t,z,rfl,P,w,A,F.2⟩) n ops.size _ b c d _ ⟨k5,k6,k7,k8,Z.trans (Step.drew Z.holds)⟩ (IV k4 bP)
 | .seq c1 c2,x,a,p,b,c,d,k,h,bP=>by
  simp only[gU]at a;split at a
  case h_2=>cases a
  rename_i cg c9 F P;obtain rfl:=a4G a;refine wp_seq (wp_mono (oY L G c1 cg F _ b c d k h bP) λC S E o=> ?_);cases C with
  |normal=>obtain⟨T,z,V,y⟩:=o;exact oY L G c2 c9 P p T z S E V y
  |exit id=>exact o
  |ret=>exact o
  |goto j9=>exact o
  |panic B=>exact o
  |outgrown=>exact o
 | .cond r c1 c2,x,a,p,b,c,d,k,h,bP=>by
  simp only[gU]at a;split at a
  case h_2=>cases a
  rename_i cg c9 F P;split at a
  case isFalse=>cases a
  rename_i k9;obtain rfl:=a4G a;simp only[bT]at bP;split at bP
  case h_2=>exact bP.elim
  rename_i n2 l0;have k0:=(h.2.2.choose_spec.1).aj r k9;rw[l0]at k0;refine wp_cond_split k0.dU (λH=> ?_) (λH=> ?_)
  .exact oY L G c1 cg F p b c d k h (bP.1 H)
  .exact oY L G c2 c9 P p b c d k h (bP.2 H)
 | .block id r,x,a,p,b,c,d,k,h,bP=>by
  simp only[gU]at a;obtain⟨I,K,rfl⟩:=a7y.1 a;refine wp_block (wp_mono (oY L G r I K _ b c d k h bP) λC S E o=> ?_);cases C with
  |normal=>exact o
  |exit n3=>
   obtain⟨T,z,V,y⟩:=o;simp only[Exit.inBlock];simp only[lf]at y;split
   .rename_i M;rw[if_pos M]at y;exact⟨T,z,V,y⟩
   .rename_i M;rw[if_neg M]at y;exact⟨T,z,V,y⟩
  |ret=>exact o
  |goto j9=>exact o
  |panic B=>exact o
  |outgrown=>exact o
 | .loop r,x,a,p,b,c,d,k,h,bP=>by
  simp only[gU]at a;obtain⟨I,K,rfl⟩:=a7y.1 a;obtain⟨l1,k1,N,l2⟩:=bP;intro O Q X;have l3: ∀g b c d k,k1 b c=g->l1 b c->hL D e u f l b c d k->
    ∃C S E,post D s e u f l p C S E/\Arrives m (lone (O.at d (.code r:: .inLoop r::Q)) X k) O Q X C S E:=by
   intro g
   induction g using Nat.strongRecOn with
   | _ g ih=>
    intro b c d k l4 N h;obtain⟨C,i,j,o,W⟩:=oY L G r I K _ b c d k h (l2 b c N) O (.inLoop r::Q) X;cases C with
    |normal=>obtain⟨T,z,V,l5,l6⟩:=o;obtain⟨l7,l8,l9,n0,n1⟩:=ih (k1 T z) (l4▸l6) T z i j rfl l5 V;exact⟨l7,l8,l9,n0,.of_steps (Steps.trans W (.one step_inLoop)) n1⟩
    |exit id=>exact⟨.exit id,i,j,o,.pass (x:= .inLoop r) rfl (λ_ _=> .inl a9q) W⟩
    |goto j9=>exact o.elim
    |ret=>exact⟨.ret,i,j,o,.pass (x:= .inLoop r) rfl (λ_ _=> .inl a9q) W⟩
    |panic B=>exact⟨.panic B,i,j,o,.pass (x:= .inLoop r) rfl (λ_ _=> .inl a9q) W⟩
    |outgrown=>exact o.elim
  obtain⟨C,S,E,o,W⟩:=l3 _ b c d k rfl N h;exact⟨C,S,E,o,.of_steps (.one step_loop) W⟩
 | .exit id,x,a,p,b,c,d,k,h,bP=>by
  simp only[gU,a4S]at a;subst a;exact wp_exit ⟨b,c,h,bP⟩
 | .ret,x,a,p,b,c,d,k,h,bP=>by
  simp only[gU,a4S]at a;subst a;exact wp_ret ⟨b,c,h,bP⟩
 | .refuse n4,x,a,p,b,c,d,k,h,bP=>by
  simp only[gU,a4S]at a;subst a;exact bP.elim
structure ao where
 ntmps:Nat
 nparams:Nat
 code:dM
 results:List (Nat×Option (Bool×Nat))
def qh (b:Program):ResultVar->Option (Nat×Option (Bool×Nat))
 | .tmp a=>some (a,none)
 | .cell d a=>match b.underlying a,ks b a with
  |some c,some e=>if c.isRow=true\/e=1 then some (d,some (c.isRow,e))else none
  | _,_=>none
def Env.all (a:Env) (c:Nat) (b:Nat):Env:=
 match c with
 |1=> {a with tA:=List.range b}
 |2=> {a with ty:=true}
 |5=> {a with Ay:=true}
 |6=> {a with tA:=List.range b,w4:=true}
 | _=>a
def dv (a:Program) (c:Nat) (d:FuncId):Option ao:=
 match a.funcs[d]? with
 |some fn=>match fn.body with
  |some b=>match gU a ((IT a b).all c fn.ntmps) fn.ntmps b,fu (qh a) fn.results.toList with
   |some h,some rs=>if fn.params.size<=fn.ntmps then some ⟨fn.ntmps,fn.params.size,h,rs⟩else none
   | _,_=>none
  |none=>none
 |none=>none
def ga (b:Fr) (c:U):Nat×Option (Bool×Nat)->Option R
 |(a,none)=>some (b a)
 |(a,some (agg,e))=>match b a with
  | .ptr d off=>match c.read d with
   |some cs=>if off+e<=cs.length then some (aY agg e (cs.drop off))else none
   |none=>none
  | _=>none
def iW (a:Fr) (b:U) (c:List (Nat×Option (Bool×Nat))):Option R:=
 match fu (ga a b) c with
 |some [d]=>some d
 |some h=>some (.aL h)
 |none=>none
def qi (d:ao) (h:R->U->Prop):gm->Fr->U->Prop
 | .exit _,_,_=>False
 | _,k,a=> ∃b c,iW k a d.results=some b/\c.sub a/\h b c
def lS (a:List R):Fr:=λb=>a.getD b (.aL [])
def rO (b:Array Value):ResultVar->Sem Value
 | .tmp a=>pure (b.getD a undef)
 | .cell c a=>do loadVar a (<-asAddr (b.getD c undef))
theorem IW {o:Act}{p:ResultVar}{k:Nat×Option (Bool×Nat)} (z:aZ u (o.tmps.getD k.1 undef) (j k.1)) (P:Holds u f l) (d:qh m p=some k) (b:ga j f k=some n):
  ∃v,(rO o.tmps p).run m l= .ok v l/\aZ u v n:=by
 cases p with
 |tmp r=>simp only[qh,a4S]at d;subst d;simp only[ga,a4S]at b;subst b;exact⟨_,rfl,z⟩
 |cell C r=>
  simp only[qh]at d;split at d
  case h_2=>cases d
  rename_i x e E S;split at d
  case isFalse=>cases d
  rename_i V;obtain rfl:=a4G d;simp only[ga]at b;split at b
  case h_2=>cases b
  rename_i h a W;split at b
  case h_2=>cases b
  rename_i I g;split at b
  case isFalse=>cases b
  rename_i i;obtain rfl:=a4G b;have F:aZ u (o.tmps.getD C undef) (j C):=z;rw[W]at F;have q:=F.mK;obtain⟨s,c,T,K,t,G⟩:=P.read g;have M:=G.1;cases y:x.isRow with
  |true=>
   have w:l.rangeAt h a ((c.toList.drop a).take e):=by intro N v O;grind[cell_of_row]
   have A:((c.toList.drop a).take e).length=e:=a9r;have L:=run_loadVar_mid (P:=m) l h a r ((c.toList.drop a).take e) x w E y (by rw[A];exact S);refine⟨.agg ((c.toList.drop a).take e).toArray,by simp only[rO,Sem.run_bind,q,asAddr,Sem.run_pure,Result.andThen_ok,L],?_⟩;rw[show((c.toList.drop a).take e).toArray=c.extract a (a+e) by rw[<-Ad]];exact aZ.aY G s a e i
  |false=>
   obtain rfl:=w8 V y;have B:a<c.size:=a9p;have H:l.cell? ⟨h,a,none⟩=some (c.getD a undef):=by rw[cell_of_row l h a c T _ t];simp[B]
   have L:=vT (m:=m) l r x ⟨h,a,none⟩ _ E y H;grind[undef,rO,Sem.run_bind,asAddr,Sem.run_pure,Result.andThen_ok,aZ.vS]
theorem B9 {p:bl}{E:Fr}{F:U}{G:Act}{r:World} (L:Holds p F r): ∀(k:List ResultVar) (c:List (Nat×Option (Bool×Nat))) (d:List R),(∀o∈c,aZ p (G.tmps.getD o.1 undef) (E o.1))->fu (qh m) k=some c->fu (ga E F) c=some d->
  ∃h:List Value,(k.mapM (rO G.tmps)).run m r= .ok h r/\h.length=d.length/\ ∀(x:Nat) (y:Value) (z:R),h[x]? =some y->d[x]? =some z->aZ p y z
 | [],c,d,C,a,b=>by
  simp only[fu,a4S]at a;subst a;simp only[fu,a4S]at b;simp_all
 |j::k,c,d,C,a,b=>by
  simp only[fu]at a;split at a
  case h_2=>cases a
  rename_i o P S T;obtain rfl:=a4G a;simp only[fu]at b;split at b
  case h_2=>cases b
  rename_i l V W e;obtain rfl:=a4G b;obtain⟨v,n,q⟩:=IW (C o a9q) L S W;obtain⟨h,s,f,t⟩:=B9 L k P V (λg i=>C g (by simp[i])) T e;refine⟨v::h,?_,by simp[f],λx y z u w=> ?_⟩;simp_all;grind
theorem IX {o:Act}{c:Func}{p:List (Nat×Option (Bool×Nat))} (L: ∀F∈p,aZ u (o.tmps.getD F.1 undef) (j F.1)) (P:Holds u f l) (S:fu (qh m) c.results.toList=some p) (r:iW j f p=some n):
  ∃v,(results c o.tmps).run m l= .ok v l/\aZ u v n:=by
 unfold iW at r;have G: ∀d,fu (ga j f) p=some d-> ∃a:Array Value,(results c o.tmps).run m l= .ok (if T:a.size=1 then a[0]else .tuple a) l/\a.toList.length=d.length/\ ∀(y:Nat) (z:Value) (C:R),a.toList[y]? =some z->d[y]? =some C->aZ u z C:=λd x=>by
  obtain⟨a,b,h,k⟩:=B9 P c.results.toList p d L S x;refine⟨a.toArray,?_,by simpa using h,λy z C V W=>k y z C (by simpa using V) W⟩;have e:results c o.tmps=(do let a <-c.results.mapM (rO o.tmps);pure (if T:a.size=1 then a[0]else .tuple a)):=rfl;rw[e,Sem.run_bind,Array.mapM_eq_mapM_toList,Sem.run_map];rw[b];rfl
 split at r
 .rename_i g x;obtain rfl:=a4G r;obtain⟨a,b,h,k⟩:=G _ x;have E:a.size=1:=by simpa using h
  rw[dif_pos E]at b;refine⟨_,b,k 0 _ _ ?_ rfl⟩;simp[E]
 .rename_i d i x;obtain rfl:=a4G r;obtain⟨a,b,h,k⟩:=G _ x;have E:a.size≠1:=by grind[List.length_eq_one_iff]
  rw[dif_neg E]at b;exact⟨_,b,.aL _ _ (br.dT.2 ⟨h,k⟩).1 (br.dT.2 ⟨h,k⟩).2⟩
 .cases r
theorem IY (A:m.follows .mixedOrders=true) {E:ao} (b:dv m e b4=some E) (B:g.length<=E.ntmps) (q:bT ⟨m,a7⟩ E.code (qi E s) (lS g) f):hK m b4 g f s (up a7):=by
 intro h x o t H;unfold dv at b;split at b
 case h_2=>cases b
 rename_i p I;split at b
 case h_2=>cases b
 rename_i K M;split at b
 case h_2=>cases b
 rename_i N O Q X;split at b
 case isFalse=>cases b
 rename_i k4;obtain rfl:=a4G b;simp only at B q;refine calls_of_wp I M ?_;have u:h.size=g.length:=t.1;have Y:hL ([],[]) p.ntmps o f x (lS g) f {tmps:=h++Array.replicate (p.ntmps - h.size) undef,defers:= []} x:=by
  refine⟨a9r,⟨rfl,λS T=>by simp at T⟩,o,λc=> ?_,.refl H⟩;by_cases F:c<g.length
  .have V:lS g c=g[c]:=by simp[lS,List.getD,F]
   rw[V];have:=t.2 c g[c] (a4H F);have W:(h++Array.replicate (p.ntmps - h.size) undef).getD c undef=h.getD c undef:=by simp[a8V,u,F]
   rw[W];exact this
  .have V:lS g c= .aL []:=by simp[lS,List.getD,F]
   rw[V];have W:(h++Array.replicate (p.ntmps - h.size) undef).getD c undef=undef:=by simp only[a5u,a8V,u];grind
   rw[W];exact aZ.undef o
 refine wp_mono (oY A (λS T=>by simp at T) K N Q _ _ _ _ _ Y q) λZ i y r=> ?_;have w:(∃G z,hL ([],[]) p.ntmps o f x G z i y/\ ∃a L,iW G z O=some a/\L.sub z/\s a L)->
   i.defers= []/\ ∃v,(results p i.tmps).run m y= .ok v y/\((∃C a d k,Ending.returned v= .returned C/\Step o f x d k y/\aZ d C a/\s a k)\/(∃C a d k,Ending.returned v= .panicked [{v:=C,recovered:=false}]/\Step o f x d k y/\aZ d C a/\up a7 a k)):=by
  rintro⟨G,z,⟨_,j,d,j9,P⟩,a,L,k0,k1,l⟩;obtain⟨v,k2,n⟩:=IX (λS _=>j9 S.1) P.holds X k0;exact⟨j.1,v,k2,.inl ⟨v,a,d,L,rfl,P.drop k1,n,l⟩⟩
 cases Z with
 |normal=>exact w r
 |ret=>exact w r
 |exit id=>obtain⟨G,z,_,k3⟩:=r;exact k3.elim
 |goto k5=>exact r.elim
 |panic k6=>obtain⟨j,v,a,d,k,rfl,P,n,l,_⟩:=r;exact⟨j.1,.inr ⟨v,a,d,k,rfl,P,n,l⟩⟩
 |outgrown=>exact r.elim
def IZ (b:m.follows .mixedOrders=true) {a:ao} (c:dv m e b4=some a) (d:g.length<=a.ntmps) (h:bT (Ctx.of m) a.code (qi a s) (lS g) f):AC m b4 g f s:=
 (IY b c d h).H5
end
abbrev aG (a:Nat):Operand:= .tmp a
abbrev lT (a:Int):Operand:= .const (.int .i64 a)
abbrev qj:Operand:= .const (.bool false)
abbrev J0:Operand:= .const (.slice none 0 0)
abbrev bD (a:Nat) (b:ca):c6:=⟨some a,b,none⟩
abbrev on (a:ca):c6:=⟨none,a,none⟩
abbrev fe (a:Nat) (b:Bool) (c:Nat) (d:ca):c6:=⟨some c,d,some (a,b)⟩
abbrev aB (a b:Nat):c6:=⟨some a,.fb (.tmp b),none⟩
abbrev cH (a:Nat) (b:BinOp) (c d:Nat):c6:=⟨some a,.bin b (.tmp c) (.tmp d),none⟩
abbrev fv (a:Nat) (b:BinOp) (c:Nat) (d:Int):c6:=⟨some a,.bin b (.tmp c) (.const (.int .i64 d)),none⟩
abbrev oZ (a b:Nat):c6:=⟨some a,.len (.tmp b),none⟩
abbrev bg (a:Nat):dj:=⟨a,[],[]⟩
end Go.bA
set_option maxRecDepth 100000
namespace Go.Proofs.YtlgnfcaolejgeaaGreat
open Go Go.bA
theorem hm:Tryz.prog.follows .mixedOrders=true:=a9u
abbrev iv:=List R
def J1:Nat->Operand
 |0=>(.const (.int .i64 0))
 |1=>(.const (.bool false))
 |2=>(.const (.int .i64 1))
 |3=>(.const (.slice none 0 0))
 |4=>(.const (.bool true))
 |5=>(.const (.pointer none))
 |6=>(.const (.int .i64 8))
 | _=>(.const (.int .i64 4))
def J2:Nat->Operand
 |0=>(.const (.int .i64 2))
 |1=>(.const (.int .u8 2))
 |2=>(.const (.int .u8 3))
 |3=>(.const (.int .u8 1))
 |4=>(.const (.int .i64 3))
 |5=>(.const (.int .i64 (-1)))
 |6=>(.const (.int .i64 64))
 | _=>(.const (.int .i64 21))
def J3:Nat->Operand
 |0=>(.const (.int .u8 0))
 |1=>(.const (.int .u64 0))
 |2=>(.const (.int .i64 16))
 |3=>(.const (.int .i64 1048576))
 |4=>(.const (.int .i64 6))
 |5=>(.const (.int .i64 9))
 |6=>(.const (.string ⟨#[116]⟩))
 | _=>(.const (.int .i64 7))
def J4:Nat->Operand
 |0=>(.const (.int .u64 8))
 |1=>(.const (.int .u64 32))
 |2=>(.const (.int .i64 10))
 |3=>(.const (.int .u64 9223372036854775808))
 |4=>(.const (.int .i64 5))
 |5=>(.const (.int .i64 56))
 |6=>(.const (.int .u64 16))
 | _=>(.const (.int .u64 256))
def J5:Nat->Operand
 |0=>(.const (.int .u8 4))
 |1=>(.const (.int .i64 256))
 |2=>(.const (.string ⟨#[99,97,110,110,111,116,32,98,101,32,110,101,103,97,116,105,118,101]⟩))
 |3=>(.const (.int .i64 32))
 |4=>(.const (.int .u64 4294967295))
 |5=>(.const (.int .i64 40))
 |6=>(.const (.int .i64 100))
 | _=>(.const (.int .i64 20))
def J6:Nat->Operand
 |0=>(.const (.string ⟨#[105,100]⟩))
 |1=>(.const (.int .u8 67))
 |2=>(.func 237)
 |3=>(.const (.int .u8 80))
 |4=>(.const (.int .u8 128))
 |5=>(.const (.int .u64 24))
 |6=>(.const (.int .u32 1779033703))
 | _=>(.const (.int .u32 3144134277))
def J7:Nat->Operand
 |0=>(.const (.int .u32 1013904242))
 |1=>(.const (.int .u32 2773480762))
 |2=>(.const (.int .u32 1359893119))
 |3=>(.const (.int .u32 2600822924))
 |4=>(.const (.int .u32 528734635))
 |5=>(.const (.int .u32 1541459225))
 |6=>(.const (.int .u32 256))
 | _=>(.const (.int .u32 1116352408))
def J8:Nat->Operand
 |0=>(.const (.int .u32 1899447441))
 |1=>(.const (.int .u32 3049323471))
 |2=>(.const (.int .u32 3921009573))
 |3=>(.const (.int .u32 961987163))
 |4=>(.const (.int .u32 1508970993))
 |5=>(.const (.int .u32 2453635748))
 |6=>(.const (.int .u32 2870763221))
 | _=>(.const (.int .u32 3624381080))
def J9:Nat->Operand
 |0=>(.const (.int .u32 310598401))
 |1=>(.const (.int .u32 607225278))
 |2=>(.const (.int .u32 1426881987))
 |3=>(.const (.int .u32 1925078388))
 |4=>(.const (.int .u32 2162078206))
 |5=>(.const (.int .u32 2614888103))
 |6=>(.const (.int .u32 3248222580))
 | _=>(.const (.int .u32 3835390401))
def Ja:Nat->Operand
 |0=>(.const (.int .u32 4022224774))
 |1=>(.const (.int .u32 264347078))
 |2=>(.const (.int .u32 604807628))
 |3=>(.const (.int .u32 770255983))
 |4=>(.const (.int .u32 1249150122))
 |5=>(.const (.int .u32 1555081692))
 |6=>(.const (.int .u32 1996064986))
 | _=>(.const (.int .u32 2554220882))
def Jb:Nat->Operand
 |0=>(.const (.int .u32 2821834349))
 |1=>(.const (.int .u32 2952996808))
 |2=>(.const (.int .u32 3210313671))
 |3=>(.const (.int .u32 3336571891))
 |4=>(.const (.int .u32 3584528711))
 |5=>(.const (.int .u32 113926993))
 |6=>(.const (.int .u32 338241895))
 | _=>(.const (.int .u32 666307205))
def Jc:Nat->Operand
 |0=>(.const (.int .u32 773529912))
 |1=>(.const (.int .u32 1294757372))
 |2=>(.const (.int .u32 1396182291))
 |3=>(.const (.int .u32 1695183700))
 |4=>(.const (.int .u32 1986661051))
 |5=>(.const (.int .u32 2177026350))
 |6=>(.const (.int .u32 2456956037))
 | _=>(.const (.int .u32 2730485921))
def Jd:Nat->Operand
 |0=>(.const (.int .u32 2820302411))
 |1=>(.const (.int .u32 3259730800))
 |2=>(.const (.int .u32 3345764771))
 |3=>(.const (.int .u32 3516065817))
 |4=>(.const (.int .u32 3600352804))
 |5=>(.const (.int .u32 4094571909))
 |6=>(.const (.int .u32 275423344))
 | _=>(.const (.int .u32 430227734))
def Je:Nat->Operand
 |0=>(.const (.int .u32 506948616))
 |1=>(.const (.int .u32 659060556))
 |2=>(.const (.int .u32 883997877))
 |3=>(.const (.int .u32 958139571))
 |4=>(.const (.int .u32 1322822218))
 |5=>(.const (.int .u32 1537002063))
 |6=>(.const (.int .u32 1747873779))
 | _=>(.const (.int .u32 1955562222))
def Jf:Nat->Operand
 |0=>(.const (.int .u32 2024104815))
 |1=>(.const (.int .u32 2227730452))
 |2=>(.const (.int .u32 2361852424))
 |3=>(.const (.int .u32 2428436474))
 |4=>(.const (.int .u32 2756734187))
 |5=>(.const (.int .u32 3204031479))
 |6=>(.const (.int .u32 3329325298))
 | _=>(.const (.int .u64 1))
def Jg:Nat->Operand
 |0=>(.const (.int .i64 15))
 |1=>(.const (.int .u64 2))
 |2=>(.const (.int .u32 0))
 |3=>(.const (.string ⟨#[108,101,110,32,111,117,116,32,111,102,32,114,97,110,103,101]⟩))
 |4=>(.const (.string ⟨#[97]⟩))
 |5=>(.const (.int .i64 300))
 |6=>(.const (.int .i64 50))
 | _=>(.func 47)
def Jh:Nat->Operand
 |0=>(.func 48)
 |1=>(.func 49)
 |2=>(.func 50)
 |3=>(.func 71)
 |4=>(.const (.int .i64 (-9223372036854775808)))
 |5=>(.const (.int .i64 9223372036854775807))
 |6=>(.func 84)
 | _=>(.func 85)
def Ji:Nat->Operand
 |0=>(.func 86)
 |1=>(.func 87)
 |2=>(.func 119)
 |3=>(.const (.int .i64 1000))
 |4=>(.const (.int .u64 9223372036854775807))
 |5=>(.const (.string ⟨#[116,104,101,32,114,101,115,117,108,116,32,111,102,32,40,108,101,110,40,120,41,32,42,32,99,111,117,110,116,41,32,111,118,101,114,102,108,111,119,115]⟩))
 |6=>(.const (.int .i32 97))
 | _=>(.const (.int .i32 122))
def Jj:Nat->Operand
 |0=>(.const (.int .i32 48))
 |1=>(.const (.int .i32 57))
 |2=>(.const (.int .i32 95))
 |3=>(.const (.int .u8 97))
 |4=>(.const (.int .u8 122))
 |5=>(.const (.int .u8 48))
 |6=>(.const (.int .u8 57))
 | _=>(.const (.int .u8 95))
def Jk:Nat->Operand
 |0=>(.const (.int .i64 17))
 |1=>(.const (.int .i64 22))
 |2=>(.const (.int .i64 65536))
 |3=>(.const (.int .u64 18446744073709551615))
 |4=>(.func 227)
 |5=>(.const (.int .i64 255))
 |6=>(.const (.int .i64 24))
 | _=>(.func 287)
def Jl:Nat->Operand
 |0=>(.func 288)
 |1=>(.const (.string ⟨#[]⟩))
 |2=>(.const (.int .u64 4294967296))
 |3=>(.const (.int .u64 65536))
 |4=>(.const (.int .i64 (-6)))
 |5=>(.const (.int .i64 (-11)))
 |6=>(.const (.int .i64 (-25)))
 | _=>(.const (.int .i64 (-2)))
def Jm:Nat->Operand
 |0=>(.const (.int .i64 (-13)))
 |1=>(.const (.int .i64 (-22)))
 |2=>(.const (.int .u64 7))
 |3=>(.const (.int .u64 18))
 |4=>(.const (.int .u32 8))
 |5=>(.const (.int .u64 17))
 |6=>(.const (.int .u64 19))
 | _=>(.const (.int .u32 1024))
def Jn:Nat->Operand
 |0=>(.const (.int .u32 4294967295))
 |1=>(.const (.int .u64 6))
 |2=>(.const (.int .u64 11))
 |3=>(.const (.int .u64 25))
 |4=>(.const (.int .u64 13))
 |5=>(.const (.int .u64 22))
 |6=>(.const .nilFunc)
 | _=>(.const (.int .i64 (-7)))
def Jo:Nat->Operand
 |0=>(.const (.int .i64 (-18)))
 |1=>(.const (.int .u64 3))
 |2=>(.const (.int .i64 (-17)))
 |3=>(.const (.int .i64 (-19)))
 |4=>(.const (.int .u64 10))
 |5=>(.const (.int .u64 31))
 | _=>(.const (.int .i64 63))
def Jp (a:Nat):Operand:=
 match a/8%8 with
 |0=>J1 (a%8)
 |1=>J2 (a%8)
 |2=>J3 (a%8)
 |3=>J4 (a%8)
 |4=>J5 (a%8)
 |5=>J6 (a%8)
 |6=>J7 (a%8)
 | _=>J8 (a%8)
def Jq (a:Nat):Operand:=
 match a/8%8 with
 |0=>J9 (a%8)
 |1=>Ja (a%8)
 |2=>Jb (a%8)
 |3=>Jc (a%8)
 |4=>Jd (a%8)
 |5=>Je (a%8)
 |6=>Jf (a%8)
 | _=>Jg (a%8)
def Jr (a:Nat):Operand:=
 match a/8%8 with
 |0=>Jh (a%8)
 |1=>Ji (a%8)
 |2=>Jj (a%8)
 |3=>Jk (a%8)
 |4=>Jl (a%8)
 |5=>Jm (a%8)
 |6=>Jn (a%8)
 | _=>Jo (a%8)
def Ba (a:Nat):Operand:=
 match a/64 with
 |0=>Jp a
 |1=>Jq a
 | _=>Jr a
def Js:Nat->ca
 |0=> .kn
 |1=>(.kh 87 (.tmp 0))
 |2=>(.jE 1 32 (.tmp 5) none none)
 |3=>(.eqv true [(2,(.int .u64))] (.tmp 36) (.tmp 37))
 |4=>(.km (.tmp 6))
 |5=>(.mC (.tmp 7))
 |6=>(.lI (.tmp 13) (.tmp 14))
 | _=>(.eqv false [(32,(.int .u8))] (.tmp 6) (.tmp 8))
def Jt:Nat->ca
 |0=>(.eqv false [(2,(.int .u64))] (.tmp 6) (.tmp 7))
 |1=>(.lM true [(32,(.int .u8))] (.J [] .nil) (.tmp 12) (.tmp 13))
 |2=>(.kh 77 (.tmp 1))
 |3=>(.jE 1 32 (.tmp 3) none none)
 |4=>(.kj 1 32 (.tmp 59) none none true)
 |5=>(.q2 false 1 8 (.tmp 50) (.tmp 51))
 |6=>(.kj 1 32 (.tmp 3) none none false)
 | _=>(.mz 1 (.tmp 11) (.tmp 12))
def Ju:Nat->ca
 |0=>(.lI (.const (.string ⟨#[0,1,2,2,3,3,3,3,4,4,4,4,4,4,4,4,5,5,5,5,5,5,5,5,5,5,5,5,5,5,5,5,6,6,6,6,6,6,6,6,6,6,6,6,6,6,6,6,6,6,6,6,6,6,6,6,6,6,6,6,6,6,6,6,7,7,7,7,7,7,7,7,7,7,7,7,7,7,7,7,7,7,7,7,7,7,7,7,7,7,7,7,7,7,7,7,7,7,7,7,7,7,7,7,7,7,7,7,7,7,7,7,7,7,7,7,7,7,7,7,7,7,7,7,7,7,7,7,8,8,8,8,8,8,8,8,8,8,8,8,8,8,8,8,8,8,8,8,8,8,8,8,8,8,8,8,8,8,8,8,8,8,8,8,8,8,8,8,8,8,8,8,8,8,8,8,8,8,8,8,8,8,8,8,8,8,8,8,8,8,8,8,8,8,8,8,8,8,8,8,8,8,8,8,8,8,8,8,8,8,8,8,8,8,8,8,8,8,8,8,8,8,8,8,8,8,8,8,8,8,8,8,8,8,8,8,8,8,8,8,8,8,8,8,8,8,8,8,8,8,8,8,8,8,8,8]⟩)) (.tmp 21))
 |1=>(.lM true [(32,(.int .u8))] (.J [] .nil) (.tmp 14) (.tmp 15))
 | _=>(.lN [(32,(.int .u8))] (.tmp 25) (.tmp 26) (.tmp 28))
def Jv (a:Nat):ca:=
 match a/8 with
 |0=>Js (a%8)
 |1=>Jt (a%8)
 | _=>Ju (a%8)
def Jw (a:Nat):Nat:=if 96<a then a - 97 else if 64<a then a - 39 else if 47<a then a+4 else a+26
def Jx (a:List iv) (b:Nat):iv:=a.getD b []
variable{b0:Type}
section
def cZ (k:List Nat) (b:Nat->List Nat->b0):b0:=
 match k with
 |c::a=>if c<69 then b c a else if c=69 then(match a with|d::h::a=>b (d*71+h) a| _=>b 0 [])else(match a with|d::h::o::a=>b ((d*71+h)*71+o) a| _=>b 0 [])
 | []=>b 0 []
def Jy (a b:Nat) (c:Operand->List Nat->b0) (d:List Nat):b0:=
 match a - b with
 |h=>c (.tmp h) d
def bJ (h:Nat) (k:List Nat) (b:Operand->List Nat->b0):b0:=
 match k with
 |c::a=>if c<20 then b (.tmp c) a else if c<36 then Jy h (c - 20) b a else if c<70 then b (Ba (c - 36)) a else cZ a λd a=>if d<1000 then b (.tmp d) a else b (Ba (d - 1000)) a
 | []=>b J0 []
def iX (b:List Nat) (a:Nat->List Nat->b0):b0:=
 match b with
 |c::d=>a c d
 | []=>a 0 []
def wz (a:List Nat) (b:Bool->List Nat->b0):b0:=iX a λc a=>if c=0 then b false a else b true a
def rP (b:List iv) (a:List Nat) (c:iv->List Nat->b0):b0:=iX a λd a=>c (Jx b d) a
def p0 {c:Type} (d:List Nat->(c->List Nat->b0)->b0):Nat->List Nat->(List c->List Nat->b0)->b0
 |0,a,b=>b [] a
 |h+1,a,b=>d a λk a=>p0 d h a λo a=>b (k::o) a
def qk (b:Nat) (a:List Nat) (c:List Operand->List Nat->b0):b0:=iX a λd a=>p0 (bJ b) d a c
def rQ (c:Nat) (a:List Nat) (b:Option Operand->List Nat->b0):b0:=iX a λd a=>if d=0 then b none a else bJ c a λh a=>b (some h) a
def Jz (b:Nat) (a:List Nat) (c:Nat×Nat×Operand->List Nat->b0):b0:=cZ a λd a=>cZ a λh a=>bJ b a λk a=>c (d,h,k) a
def JA (b:Nat) (a:List Nat) (c:List (Nat×Nat×Operand)->List Nat->b0):b0:=iX a λd a=>p0 (Jz b) d a c
def JB (a:List Nat) (b:UnOp->List Nat->b0):b0:=iX a λc a=>b (match c with|0=> .neg|1=> .xor|2=> .not| _=> .plus) a
def Bb (a:List Nat) (b:IntKind->List Nat->b0):b0:=iX a λc a=>b (match c with|0=> .i8|1=> .i16|2=> .i32|3=> .i64|4=> .u8|5=> .u16|6=> .u32| _=> .u64) a
def JC (a:List Nat) (b:dj->List Nat->b0):b0:=cZ a λc a=>iX a λd a=>p0 cZ d a λh a=>iX a λk a=>p0 cZ k a λo a=>b ⟨c,h,o⟩ a
def JD (a:List Nat) (b:Nat×Option (Bool×Nat)->List Nat->b0):b0:=cZ a λc a=>iX a λd a=>if d=0 then b (c,none) a else cZ a λh a=>b (c,some (if d=1 then false else true,h)) a
end
def JE (k:List iv) (c:Nat):Nat->List Nat->ca×List Nat
 |0=>λa=>bJ c a λb a=>(.fb b,a)
 |1=>λa=>bJ c a λb a=>(.load false 1 b,a)
 |2=>λa=>cZ a λb a=>bJ c a λd a=>(.kY b d,a)
 |3=>λa=>cZ a λb a=>qk c a λd a=>(.fY b d,a)
 |4=>λa=>cZ a λb a=>bJ c a λd a=>(.load true b d,a)
 |5=>λa=>cZ a λb a=>bJ c a λd a=>bJ c a λh a=>(.store b d h,a)
 |6=>λa=>bJ c a λb a=>(.len b,a)
 | _=>λa=>cZ a λb a=>bJ c a λd a=>bJ c a λh a=>(.dL b d h,a)
def JF (h:List iv) (d:Nat):Nat->List Nat->ca×List Nat
 |0=>λa=>bJ d a λb a=>cZ a λc a=>(.ext b c,a)
 |1=>λa=>bJ d a λb a=>bJ d a λc a=>(.bin .add b c,a)
 |2=>λa=>bJ d a λb a=>(.q0 b,a)
 |3=>λa=>bJ d a λb a=>bJ d a λc a=>bJ d a λk a=>(.pick b c k,a)
 |4=>λa=>cZ a λb a=>bJ d a λc a=>(.box b c,a)
 |5=>λa=>bJ d a λb a=>bJ d a λc a=>(.bin .lss b c,a)
 |6=>λa=>bJ d a λb a=>bJ d a λc a=>(.bin .eql b c,a)
 | _=>λa=>cZ a λb a=>rP h a λc a=>(.alloc b c,a)
def JG (o:List iv) (d:Nat):Nat->List Nat->ca×List Nat
 |0=>λa=>rP o a λb a=>JA d a λc a=>(.lJ b c,a)
 |1=>λa=>JB a λb a=>bJ d a λc a=>(.un b c,a)
 |2=>λa=>bJ d a λb a=>bJ d a λc a=>(.bin .neq b c,a)
 |3=>λa=>cZ a λb a=>bJ d a λc a=>rQ d a λh a=>rQ d a λk a=>rQ d a λp a=>(.lO b c h k p,a)
 |4=>λa=>cZ a λb a=>qk d a λc a=>(.ki b c,a)
 |5=>λa=>Bb a λb a=>bJ d a λc a=>(.iQ b c,a)
 |6=>λa=>cZ a λb a=>cZ a λc a=>bJ d a λh a=>bJ d a λk a=>(.lL b c h k,a)
 | _=>λa=>cZ a λb a=>cZ a λc a=>bJ d a λh a=>bJ d a λk a=>(.app b c h k,a)
def JH (o:List iv) (b:Nat):Nat->List Nat->ca×List Nat
 |0=>λa=>bJ b a λc a=>bJ b a λd a=>(.bin .gtr c d,a)
 |1=>λa=>cZ a λc a=>cZ a λd a=>bJ b a λh a=>bJ b a λk a=>(.q1 c d h k,a)
 |2=>λa=>bJ b a λc a=>bJ b a λd a=>(.bin .sub c d,a)
 |3=>λa=>cZ a λc a=>qk b a λd a=>(.kl c d,a)
 |4=>λa=>bJ b a λc a=>bJ b a λd a=>(.bin .geq c d,a)
 |5=>λa=>bJ b a λc a=>bJ b a λd a=>(.bin .xor c d,a)
 |6=>λa=>bJ b a λc a=>bJ b a λd a=>(.bin .mul c d,a)
 | _=>λa=>cZ a λc a=>bJ b a λd a=>rQ b a λh a=>rQ b a λk a=>(.oS c d h k,a)
def JI (k:List iv) (b:Nat):Nat->List Nat->ca×List Nat
 |0=>λa=>bJ b a λc a=>bJ b a λd a=>(.bin .shr c d,a)
 |1=>λa=>cZ a λc a=>bJ b a λd a=>bJ b a λh a=>(.mF c d h,a)
 |2=>λa=>bJ b a λc a=>bJ b a λd a=>(.bin .leq c d,a)
 |3=>λa=>cZ a λc a=>qk b a λd a=>qk b a λh a=>(.bG c d h,a)
 |4=>λa=>bJ b a λc a=>bJ b a λd a=>(.bin .rem c d,a)
 |5=>λa=>bJ b a λc a=>qk b a λd a=>(.iR c d,a)
 |6=>λa=>bJ b a λc a=>bJ b a λd a=>(.bin .quo c d,a)
 | _=>λa=>bJ b a λc a=>bJ b a λd a=>(.bin .and c d,a)
def JJ (o:List iv) (c:Nat):Nat->List Nat->ca×List Nat
 |0=>λa=>wz a λb a=>Bb a λd a=>bJ c a λh a=>bJ c a λk a=>(.lK b d h k,a)
 |1=>λa=>wz a λb a=>bJ c a λd a=>bJ c a λh a=>(.q4 b d h,a)
 |2=>λa=>wz a λb a=>bJ c a λd a=>(.mA b d,a)
 |3=>λa=>bJ c a λb a=>bJ c a λd a=>(.bin .shl b d,a)
 |4=>λa=>bJ c a λb a=>bJ c a λd a=>(.bin .or b d,a)
 |5=>λa=>bJ c a λb a=>(.q3 b,a)
 |6=>λa=>bJ c a λb a=>(.mD b,a)
 | _=>λa=>cZ a λb a=>bJ c a λd a=>(.q7 b d,a)
def JK (k:List iv) (c:Nat):Nat->List Nat->ca×List Nat
 |0=>λa=>bJ c a λb a=>(.mB b,a)
 |1=>λa=>bJ c a λb a=>(.q5 b,a)
 |2=>λa=>cZ a λb a=>cZ a λd a=>rP k a λh a=>bJ c a λo a=>bJ c a λp a=>(.mG b d h o p,a)
 |3=>λa=>bJ c a λb a=>bJ c a λd a=>(.mH b d,a)
 |4=>λa=>bJ c a λb a=>(.q6 b,a)
 |5=>λa=>cZ a λb a=>rP k a λd a=>bJ c a λh a=>(.mE b d h,a)
 |6=>λa=>cZ a λb a=>cZ a λd a=>rP k a λh a=>bJ c a λo a=>bJ c a λp a=>(.kk b d h o p,a)
 | _=>λa=>cZ a λr a=>(Jv r,a)
def Bc (b:List iv) (c:Nat) (a:Nat):List Nat->ca×List Nat:=
 match a/8 with
 |0=>JE b c (a%8)
 |1=>JF b c (a%8)
 |2=>JG b c (a%8)
 |3=>JH b c (a%8)
 |4=>JI b c (a%8)
 |5=>JJ b c (a%8)
 | _=>JK b c (a%8)
def nQ (c:List iv):Nat->Nat->Option (Nat×Bool)->List Nat->List c6×Nat×List Nat
 |0,b,_,a=>([],b,a)
 |p+1,b,d,a=>iX a λh a=>
  if h<56 then match Bc c b h a with|(r,a)=>match nQ c p (b+1) d a with|(k,o,a)=>(⟨some (b+1),r,d⟩::k,o,a)
  else if h=56 then cZ a λx a=>iX a λh a=>match Bc c b h a with|(r,a)=>match x with
   |0=>match nQ c p b d a with|(k,o,a)=>(⟨none,r,d⟩::k,o,a)
   |x+1=>match nQ c p x d a with|(k,o,a)=>(⟨some x,r,d⟩::k,o,a)
  else if h=57 then([],b,a)
  else cZ a λy a=>nQ c p b (if y=0 then none else some (y/2 - 1,if y%2=1 then true else false)) a
def nR (c:List iv):Nat->Nat->List Nat->dM×Nat×List Nat
 |0,b,a=>(.skip,b,a)
 |d+1,b,a=>iX a λr a=>match r with
  |0=>(.skip,b,a)
  |1=>match nQ c d b none a with|(h,b,a)=>(.plain h,b,a)
  |2=>match nQ c d b none a with|(h,b,a)=>(.draw h ((List.range h.length).map bg),b,a)
  |3=>match nR c d b a with|(k,b,a)=>match nR c d b a with|(o,b,a)=>(.seq k o,b,a)
  |4=>bJ b a λx a=>match nR c d b a with|(k,b,a)=>match nR c d b a with|(o,b,a)=>(.cond x k o,b,a)
  |5=>cZ a λp a=>match nR c d b a with|(k,b,a)=>(.block p k,b,a)
  |6=>match nR c d b a with|(k,b,a)=>(.loop k,b,a)
  |7=>cZ a λp a=>(.exit p,b,a)
  |8=>(.ret,b,a)
  |9=>(.refuse,b,a)
  |10=>match nQ c d b none a with|(h,b,a)=>cZ a λy a=>p0 JC y a λz a=>(.draw h z,b,a)
  | _=>match nQ c d b none a with|(h,b,a)=>match nR c d b a with|(o,b,a)=>(.seq (.plain h) o,b,a)
def JL (h:List iv) (b:List Char):ao:=
 cZ (b.map λc=>Jw c.toNat) λk a=>cZ a λd a=>iX a λb a=>p0 JD b a λo a=>match nR h 999 d a with|(c,_,_)=>⟨k,d,c,o⟩
abbrev au (a b:Nat) (c:ao):Prop:=dv Tryz.prog a b=some c
variable{e i v M c0 j0:Nat}
def av {a:ao} (b:dv Tryz.prog e i=some a:=by kernel_rfl):au e i a:=b
abbrev aw (m:String) {a:List Char}{b:List R->List R->List R->List R->List R->List R->List R->List R->List R->List R->List R->List R->List R->List R->List R->List R->List R->List R->List R->List R->List R->List R->List R->List R->List R->List R->List R->ao} (_:String.ofList a=m:=by rfl) (_: ∀c d h k o p r x y z C D E F G L P S T V W e f g i j l:List R,JL [c,d,h,k,o,p,r,x,y,z,C,D,E,F,G,L,P,S,T,V,W,e,f,g,i,j,l] a=b c d h k o p r x y z C D E F G L P S T V W e f g i j l:=by intros;conv=>lhs;cbv):ao:=
 b (((List.replicate 32 (.v (.int .u8 0))):List R)++([(.J [] .nil),(.J [] .nil)]:List R)++([(.v (.int .i64 0)),(.v (.int .i64 0))]:List R)++([(.J [] .nil)]:List R)) [(.J [] .nil),(.J [] .nil)] [(.v (.int .u8 0)),(.J [] .nil),(.J [] .nil)] (([(.v (.string ⟨#[]⟩))]:List R)++([(.J [] .nil)]:List R)++((List.replicate 32 (.v (.int .u8 0))):List R)++([(.J [] .nil),(.J [] .nil)]:List R)++([(.v (.int .i64 0)),(.v (.int .i64 0))]:List R)++([(.J [] .nil)]:List R)++((List.replicate 32 (.v (.int .u8 0))):List R)++([(.J [] .nil),(.J [] .nil)]:List R)++([(.v (.int .i64 0)),(.v (.int .i64 0))]:List R)++([(.J [] .nil)]:List R)) (List.replicate 32 (.v (.int .u8 0))) [(.v (.int .u64 0)),(.v (.int .u64 0))] [(.J [] .nil),(.v (.bool false))] [(.v (.bool false)),(.J [] .nil),(.J [] .nil)] [(.v (.int .u8 0)),(.v (.string ⟨#[]⟩)),(.J [] .nil),(.J [] .nil)] [(.J [] .nil),(.v (.int .i64 0))] [(.v (.pointer none)),(.v (.int .i64 0))] (List.replicate 8 (.v (.int .u32 0))) (List.replicate 64 (.v (.int .u32 0))) [(.J [] .nil)] [(.J [] .nil),(.v (.bool false)),(.v (.pointer none)),(.v (.pointer none))] [(.v (.pointer none)),(.J [] .nil)] [(.v (.string ⟨#[]⟩)),(.J [] .nil),(.J [] .nil),(.v (.pointer none)),(.v (.pointer none))] (List.replicate 5 (.v .nilFunc)) (((List.replicate 32 (.v (.int .u8 0))):List R)++([(.J [] .nil),(.J [] .nil)]:List R)++([(.v (.int .i64 0)),(.v (.int .i64 0))]:List R)++([(.J [] .nil)]:List R)++([(.v (.int .u64 0)),(.v (.int .u64 0))]:List R)++([(.v (.int .i64 0)),(.v (.int .i64 0))]:List R)) [(.v (.int .i64 0))] [(.J [] .nil),(.J [] .nil),(.v (.int .u8 0)),(.v (.int .i64 0)),(.J [] .nil),(.v (.int .i64 0)),(.v (.bool false))] [(.v (.int .u8 0)),(.v (.int .i64 0)),(.J [] .nil)] [(.v (.pointer none)),(.J [] .nil),(.J [] .nil),(.v (.int .u8 0)),(.v (.int .i64 0)),(.J [] .nil),(.v (.int .i64 0)),(.v (.bool false)),(.v (.int .i64 0)),(.J [] .nil),(.v (.int .i64 0)),(.v (.int .i64 0)),(.v (.int .i64 0)),(.J [] .nil)] [(.v (.map none)),(.J [] .nil),(.J [] .nil),(.v (.bool false))] (((List.replicate 8 (.v (.int .u32 0))):List R)++([(.J [] .nil)]:List R)++([(.v (.int .u64 0))]:List R)) [(.v (.int .u8 0))] [(.v (.int .u32 0))]
def JM:ao:=aw "Xcbeal4faL5dl4kdiarcj5ekl4faL5iadl4maadjblam6Cabdjbo6alnOpaq6Kabgsyt,+oR6alrOu5eul4faO5ial4yaadkbu4xau4Aiuaixb4gava,A5dl4CafPauP5eul4faO5ial4EafabdIcvuagabdJcvu4iaxa,I5l4Kafdwbuau6+bfahaiovuau6+boafdybuagdzbudxcwu6+bflzuL6alEOu4fau5i"
def JN:au 0 6 JM:=av
def wA:ao:=aw "+bnabaal4baL5l4ndDa4cam5dl4oabPanP5eol4baL5ial4qabubb,+p7qidabVbb6cbqducpr4das5l4uabubcM<qidabUbb6dbuductu4eau5l4yabubcM4qidabUbb6dbuducwu4fau5l4CabubdSWRqidabUbb6dbuducwu4gau5l4GabubcM4qidab*bb6dbuducwu4hau5l4LabdBcu64Kau4Niuaixb4iava,N5l4PabqicabTbb6ducvu4kau5l4TabdBcu64Sau4Viuaixb4lava,V5l4XacouKau6+bGadouK6alwuLau6+bOaeouQ6alwuLau6+bWafou46alwuLau6+b4agou56alwuLau6+b<aiouK6alwuLau6+cbahubcM<ubbudCcwu6alyuLau6+cnajouK6alwuLau6+cvalouW6alwuL4bau5i"
def JO:au 0 8 wA:=av
def JP:ao:=aw "7bbcalaL5dl4gaagfyg,+p85ehl4daO5iadlaK5fagdl4jadaagjnik5elahadfbdl4paaadheopcbqbrTsyt,+oSau6Saaadhevuccubuguyu,+oT6alBOuau6:aaadhevucdubuguyu,+p96alBOu5eul4daO5ial4faK5fcgdl4OaeaaadhevuccubugunAu5euahcdfdl4YaaadhevuccubuaehbvubuTuyu,+oS5eul4daO5iab4WaejuM4fau5b4nadjmM4ean5l4daL5i"
def JQ:au 0 9 JP:=av
def JR:ao:=aw "KbccadalaPaP5l4idDaqnam2i4fahaj5dlaK5fagdl4lagaaglnkman6Fagnp,+oR6aloqL5erahadfbl4vaeaaaghevueeuducyu5bafaaaghevueeudvcyu5b4tagjsM4hat5dl4Haedwbu5eul4daPaP5ial4Jaeaf4dava,J5i"
def JS:au 0 10 JR:=av
def JT:ao:=aw "=ddgahaial4haNaLaK5l4raakqcbrbsabdLctu4qau4xipaipb4kp+bsd4af+bfj,wa,x5dl4zakrcu5eul4haNaLaW5ial4Be+bfjdNbudObu4mpAb4afcl,C5dk4EcalbucblbuacachbyK4afbuwhbxK4afbuw5kaaabaacaadaaeaafaagaahabdiaajaadk4NaakucaubuccjeLueclqucacufbMe+bfjdNbudMeAywu4Mau4YiuaiGbiHc4npNj4afcm,Xa,Ya,Z5taaabaacaadaaeaafaagaahaaiaajbpddfgkbpalaamaanaaoaapaaqaaraasaadl41aosuKau6+bNcambuguouK6alyOu5eulao4haNaLa,85ial4:cambuhbuKbu4hauaOaK5i"
def JU:au 0 12 JT:=av
def JV:ao:=aw "Ccbeal4faK5dlaK5fagdlafaakhcaibjgkngl5emahadfbl4qaakpcaqbrafhbstbukucaubuabovu5eulaf4fau5iab4oafjnM4gao5l4faX5i"
def JW:au 0 13 JV:=av
def JX:ao:=aw "Acbeal4faL5dl4haaggabgishj5ekl4faL5iadlaK5fagdl4mafaagmnln5eoahadfbdc4saaafhbrsbtabafhbvubusyu5eul4faL5iab4qafjpM4gaq5l4faO5i"
def JY:au 0 14 JX:=av
def JZ:ao:=aw "obbcalaP5dkaakdcaebfaakhcbibjdTbkqpcabgbblm+bxm4dan5maaabaacaadaaeaafaagaahaaiabdjaakaalaai"
def K0:au 0 18 JZ:=av
def K1:ao:=aw "4bbcalaP5l4hqnam2g4eah5dlaK5fagdl4jaeaakjcakblgmnin5eoahadfbl4saakrcasbtaehbvubu4gau5c4zadadkucaubuafkucaubuafkucbubuafkuccubuafkucdubuafkuceubuqqfab,GbbGcbCdbyebumYuubbuxbi,Cuk,ycau4afbuw5b4qaejpM4faq5l44ad4dau5i"
def K2:au 0 19 K1:=av
def K3:ao:=aw "rcbealm<baK5dl4heeddUbgrch5eil4faM5ial4kqrebb,+p:cb,+p;db,+p<eb,+p=4gp+bJr4afffj5dc4lcadbkzbfflbmaaeedLncop4faq5i"
def K4:au 0 20 K3:=av
def K5:ao:=aw "+edcbealm<baK5dl4teeddZbsrct5eul4faM5ial4waacbdbudncwu4gau5dl4AcadbuouV5eudlafCuK5eul4faR5iadl4Faakucaubuguyu75eul4fa:5ial4haN5laL5dk4LcbdbuubaccdbuxbqwuqqcabybbumYu4jau5jaaabaadaaeaacaafabbgaahaaiaadlaK5fagdl4Tajaakucaubugunzu5euahadfbddc42ahrcuau6+bQaikucaubuaakucaubuajhbvubukucaubunEu6alJuL5eulagaiubbuxbiwu4hau5baO5ab4+bgagaakucaubuajhbvubuubbuxbiCu4hau5b40ajjuM4kau5dl4+bqahrcu5eubagaiubbuxbiwu4hau5al4+bwaaagkvcau4afbuw5l4faK5iadl4+bAafnuK5eul4faW5iadl4+bCcadbuouT5eul4laN5dlaK5fcgdl4+bFalaakucaubugunzu5euahcdfdl4+bOalafsvu5eubakaakucaubualhbvubuubbuxbiCu4lau5ab4+bMaljuM4mau5l4+b1aaakkvcau4afbuw5l4faK5ial4+b5aakucaubuafhbvubu4nau5ddc4+b<cddbuguamkucbubugujuMsAu5eul4fa45ial4oaN5laL5dlaK5fegdl4+cdapamkuccubugunzu5euahedffddc4+cmamkuccubuaphbvubuhbuKbucddbuhbuKbuoyu5eudlcadbuouU5eul4faQ5iadc4+cDamkuccubuaphbvubucddbudocwu5eul4paO5hfaab4+cNanamkuccubuaphbvubuubbuxbyCu4oau5b4+ckapjuM4qau5dc4+cXamkucaubuamkucbubuqqcabybbumYu4rau5dl4+c7cadbuou*5eudlaorcu5eul4fa55ial4+c<aqankvccu4afbuw5dc4+c+aqamkucdubucddbud0cwu4+c*au4+dgiuaiDbkDcdu4afbux5c4+dlaqamkuceubucddbud1cwu4+dkau4+dtiuaiDbkDceu4afbux5laqqvaanubacddbuxbiwuubbuxbyzudScBukDccu4afbuw5dc4+dKaqamkucdubucddbud2dwuK4+dJau4+dSiuaiDbkDcdu4afbux5c4+dXaqamkuceubucddbud3cwu4+dWau4+d5iuaiDbkDceu4afbux5lBbaaakucaubuwbiyu4sau5l4+d?arafaqhbwv4afbuv5laaarkvcau4afbuw5l4faK5i"
def K6:au 0 21 K5:=av
def K7:ao:=aw "obbcalaL5l4iaadAbhd4bi4haj4ligaigbigc4eakalam5l4oaf4dan5i"
def K8:au 0 22 K7:=av
def K9:ao:=aw "Bcbeal4faL5dl4haaggabgishj5ekl4faL5iadlaK5fagdl4mafaagmnln5eoahadfbdc4saaafh+bfrse+bftabafh+bfvue+bfud5cyurcu5eul4faL5iab4qafjpM4gaq5l4faO5i"
def Ka:au 1 23 K9:=av
def Kb:ao:=aw "vbbcalaN5l4jaakicbjbkd6bl4iam4oihaihb4eanao5l4radd7bq4qar4tipaipb4gasat5l4vaf4dau5i"
def Kc:au 0 24 Kb:=av
def Kd:ao:=aw "TbbcalaN5laN5dlaK5fagdl4haeaakhcaibjgkngl5emahadfbl4qaakpcaqbraehbstbu4gau5k4xadafkucaubuafkucbubuafkucdubud8buafkuceubud9buqdeabIbbEcLzNLuu+bfbux+bf+d?,wu4eau5xaaabaacaadaaeaafaagaahaaiaajaakaalaamaaoaapaaqaaraanadeirsaceitaauaavaawaab4oaejnM4fao5l4Tad4dau5i"
def Ke:au 0 25 Kd:=av
def Kf:ao:=aw "hbbcalaP5laakdcaebf4dag5i"
def Kg:au 0 26 Kf:=av
def Kh:ao:=aw "Ecceafal4faNaK5l4kaakjcbkblabdLcmn4jao4qiiaiib4hp+bsd4af+bfgpaq5dl4sahrcr5esl4faNaW5iadk4uaaktcaubuccgeLue+bfgdNbud:dywuiuaivb4fava,D5naaabaacaadaaeaafaagaahacdfiaajaakaalaamaai"
def Ki:au 0 27 Kh:=av
def Kj:ao:=aw "Bcbeal4faL5dl4haaggabgishj5ekl4faL5iadlaK5fagdl4mafaagmnln5eoahadfbdc4saaafhbrsbtabafhbvubudocyurcu5eul4faL5iab4qafjpM4gaq5l4faO5i"
def Kk:au 0 28 Kj:=av
def Kl:ao:=aw "eabaal4baP5ld;aqpbabbm+bxc4bad5i"
def Km:au 0 29 Kl:=av
def Kn:ao:=aw "Fcbeal4faK5l4kaadsbj4gak5dl4mabglaK5faglnnm5deoahadfblhelneep4ip<i4afehq5l4safeehducrs4jat5l4vaisuK5eulai4fau5iab4yjnM4oau5l4zaaafkucbubukycbu4afbuw5l4faK5i"
def Ko:au 0 34 Kn:=av
def Kp:ao:=aw "Gcbeal4faK5l4jaadtbi4gaj5dlaK5fagdl4lagabglnkm5enahadfbl4rafabagherseetdvcqu4iau5l4xahsuK5eulah4fau5iab4pagjoM4hap5l4Aaaafkucaubukycau4afbuw5l4faK5i"
def Kq:au 0 35 Kp:=av
def Kr:ao:=aw "vccec+bffal4fp+bsdaL5dl4jaagiaK5faglnkj5delahadfblh+bfike+bfm4ip+bsd4af+bfhn5l4pcahboabopq5erle+bfh4af+bfes4gaO5iab4ujkM4lat5l4vqda4af+bfeu4gaL5i"
def Ks:au 0 37 Kr:=av
def Kt:ao:=aw "+bQediccjakalm+bqbmEc4jpNjaKaK5dl4uehgadd*cturcu5eulqja4afciu4kaKaM5ial4zaaehgadqwdabwbhvibum+b4u4mau5dl4EaleLfd+a+cvu5fagdlalkucnubuguyuK5euahafblalkucnubud+a,cu,+p>5lalkucnubuhPuKcaueLu4np+bqa4afLm,X5l4ZalalkucnubutPubMaakzcnu4afbuw5dlaleLmd+bbcvu5euhbal4;aaeLmadd+bcdwvu4:au4?iuaizb4op+b+c4afdn,>a,?5dl4+a+aosuK5eulqja4afciu4kaKaZ5ial4+bbalkuclubujuMkyclu4afbuw5dlcbnbuguaK5fcglnuv5deuahcdfdlhcxvecu4rp+ccg4afcq,+bn5b4+bpalecqd+bdcvu5bjAM4+blau5l4+btccnbuguaK5feglnuv5deuahedfflhLxveLu4tp+bqa4afLs,+by5b4+bAaleLsd+a+cvu5bjAM4+bwau5dk4+bEalkucjubualkuckubuqjcabybbualkuclubu4afciy4kauaK5qaaabaacaadaaeaafaagaahaaiaajaakaalaamaanabmoaapaai"
def Ku:au 6 38 Kt:=av
def Kv:ao:=aw "hbbcal4cm+bsaaK5lcbbbdgejfM4dag5i"
def Kw:au 0 39 Kv:=av
def Kx:ao:=aw "rbbccclpAb5dlaandMae6maaygQ6alfOh5eilqba4afccj5ialubb,+p?aad+becklubb,+p*aad+becnoqbcabmbbp4afccq5i"
def Ky:au 0 40 Kx:=av
def Kz:ao:=aw "Qcbeal4dmAa4faL5dl4habngMah6sabyjQ6aliOkal6Acacbngoabspq6almOras6Ocbcbuguabsvu6altOu5eul4faL5iadlaK5fagdl4Bafabnvu5euahadfbdc4Gcacbuafhbvubucbcbuafhbvubuyzu5eul4faL5iab4EafjuM4gau5l4faO5i"
def KA:au 0 41 Kz:=av
def KB:ao:=aw "+bgcbeal4dmCa4faL5dlabnfMag6qabyiQ6alhOj5ekl4faL5iadl4mcacblom05enlcbcboopKaq6LcccbsgtouK6alruL4fau5iadl4ycacbuouVau62cacbuouT6alxOu5eulcbcbuyuKau6+a,cbcbuouKau6+bicacbuouT6+a,lxuL6alCOuau6+bucbcbuabAuMIwu6alzuLau6+bIcccbuguouK6alyuL4fau5ial46cacbuouUau6+b0cbcbuouK6alxuLau6+b:abyuM6alwuLau6+b,cccbuguabAuMowu6alAuL4fau5i"
def KC:au 0 42 KB:=av
def KD:ao:=aw "+blcbeal4dmCa4faN5laN5dlaK5fagdl4lagabglnkm5enahadfbdc4redcabaghbrsbtgudQcqurcuau6YabaghbvubuguabhbuKbugusyu6alEOu5eul4faN5iab4pagjoM4hap5dlaK5fcgdl4Lahabgunwu5euahcdfdl4jaN5laK5dfegddc4Rajafgunwuau6+byedcabahhbvubuafajhbvubud+bfdCyurcu6alFuL5euahefflaiafajhbvubuubbuxbyzu4jau5b4?ajjuM4kau5l4+a+aiabahhbvubuubbuxbyzu4jau5l4+bfaiafajFbvbuaxbyxu4jau5b4+bkai4gau5b4PahjuM4iau5l4+blaf4fau5i"
def KE:au 0 44 KD:=av
def KF:ao:=aw "ibbcalaN5dlaaQad5eel4daN5ial4gB+bfaaaw+bf+d?fg4dah5i"
def KG:au 6 45 KF:=av
def KH:ao:=aw "Zbbcal4cm<aaL5dlcbbbdd+bgbercf5egl4daL5iadl4icabbh5fal4loiV4kak5ejl4mccbbld+bhbman6FcdbbpgqorK6alosL4dat5il4woiT4vau5eul4xccbbuguouKau63cdbbuguouK6alyuL4dau5idl4IoiU4Hau5euab4Joi*4Hau5eul4KccbbuguouKau6+bkcdbbuguCuS6alyuLau6+bwcdbbuguIuQ6alyuL4dau5ial4daL5i"
def KI:au 0 46 KH:=av
def KJ:ao:=aw "Ccbealm<baK5dk4jaakicbjbkcbdbmccdbod+bjbpqdcabnbbqd+biclr4ias4uihaihb4gata,u5qaaabaacaadaaeaafaagaahaaiacdfjaakaalaamaanaaoaapaadl4wagouK5eubaaafkvcbu4afbuw5alag4fau5i"
def KK:au 0 47 KJ:=av
def KL:ao:=aw "ycbealm<baK5dc4jaakicbjbkcbdbmd+bkcln4iao4qihaihb4gapaq5dl4sagorK5esbaaafktcbu4afbuw5alag4fau5i"
def KM:au 0 48 KL:=av
def KN:ao:=aw "Pcbealm<baK5l4laaeedd+blckl4kam4oijaijb4gp+bsd4af+bffnao5dl4qagspK5eqlag4far5iadc4uaacbdbucddbuhbuKbudmdtyu4tau4Cisaisbisc4iawa,C4ha,D5dfal4GagsuK4Fau5eul4Iag4fau5il4Kai4Jau5eul4faQ5ial4Laae+bffcddbud+bmfxwu,+p+,+p,4fau5i"
def KO:au 0 49 KN:=av
def KP:ao:=aw "vcbealm<baK5l4jaaeedd+blcij4iak4mihaihb4gp+bsd4af+bfflam5dl4oagsnK5eolag4fap5ial4raae+bffcddbsd+bmfqrt,+qa,+qb4fau5i"
def KQ:au 0 50 KP:=av
def KR:ao:=aw "+bGbbcal4cm<aaL5dl4gcbbbfd+brbgrch5eil4daL5iadl4kcabbjokV5eldl4eaK5fagdl4nadccbbngonmp5eqahadfbdl4uccbbtadhbvubud+brburcuau62ccbbuadhbvubuou,+oU6alAOu5eul4daL5ial4faK5fcgdl4Jaeadnvu5euahcdfddc4Occbbuaehbvubuccbbuadhbvubuozu5eul4daL5iab4MaejuM4fau5b4sadjrM4eas5l4ZccbbuguyuKau6+bOccbbugunuQ6alyuLau6+b0cdbbuguouK6alyuL4dau5iadl4?cabbuouT5eulccbbugucdbbugujxuouK4dau5ial4+bhcabbuouUau6+cucabbuou*6alxOuau6+cFccbbuguouK6alyuLau6+cRcdbbuguyuM6alyuLau6+c3cdbbugunu56alyuL4dau5i"
def KS:au 1 51 KR:=av
def KT:ao:=aw "Dcceafal4faPaL5l4kaaabd+bsdjkK4jal4niiaiib4haman5dl4pahao6Hagd+btbqgrESsagd+bubuntu6alpuL5eubagd+btbud+bvcuK4hau5al4Cagah4fava,C5i"
def KU:au 0 52 KT:=av
def KV:ao:=aw "Pcceafal4faPaL5dl4iaad+bxbhabd+bwcijrck5ellaa4famaL5ial4oaaabd+bycno4hap5dl4ragkqcbrbsgtouM5eulagkucbubuhbuKbu4fauaO5iaddc4DagkucbubuguagkucaubugujzuouK5eul4faPaO5ial4Pag4fauaO5i"
def KW:au 0 53 KV:=av
def KX:ao:=aw "+bvdcgahal4haPaL5dl4laaPakP5ellabqocabmbbOm+cyn4haoaO5iadc4qaakpcaqbraaktcbubuaakuccubuaakucdubuqoeabsbbCcbydbum+cyu4jau5dl4Iaakucaubuabdocvu5eulaikucbu4afbuO5dkaiacd+bzcvuaakucbuburcu4haza,X5kaaabaadaaeaafaagaahaacabgiaajaaial4kaL5ddc4ZabaakucaubuacabguKwud+bAdCyu5eub4:aiaakuccubuabacjuMd2dxwu49au4+baiuaiEbkEccu4afbux4kaw5b4+bfaiaakucdubuabacjuMd2dxwu4+beau4+boiuaiEbkEcdu4afbux4kaw5l4+bsaiacd+bzcvuaj4hava,+bu5i"
def Be:au 0 54 KX:=av
def KY:ao:=aw "vcceafal4faPaL5dlaaPagP5ehlabubbiqbbabjm+cwk4falaO5iadl4naad+bxbmabd+bwcno5eplaa4faqaL5ial4saaabd+bCcrsd+bBbt4fauaO5i"
def Bf:au 0 55 KY:=av
def KZ:ao:=aw "tbdcadaealaNaNaL5dkaakfcbgbhd+bDbiaakkcclbmd+bDbnaakpcdqbr4dajaoas5raaabaacaadaafaagaahaaiaakaalaamaanaaeacinjabnoaapaaqaai"
def L0:au 0 56 KZ:=av
def L1:ao:=aw "2cbeal4dm+bsam+bsbaL5dl4hcacbgcadbishjak6ycbcbmgncbdbpgqsor6allOsat6QccceLuccdeLud+bEcwurcu6alAOuau66cNceLucNdeLud+bEcwurcu6alAOu5eul4faL5iadlaK5fagdl4Lafcbcbugunxu5euahadfbdc4Scbcbuafhbvubucbdbuafhbvubuszu5eul4faL5iab4QafjuM4gau5l4faO5i"
def L2:au 1 57 L1:=av
def L3:ao:=aw "9bccadalaNaK5dl4kaad+bFbjrck5ell4daNaM5ial4nqjam+cKm4fan5l4paeaagpveqd+bGcor5dlaagtaK5faglnuv5deuahadfblh+bftve+bfu4hp+bsd4af+bfg,y5l4Aaecagbu0ud+bHcxu5laecbgbuguveud+bGcyu5dlcbgbuguaK5fcglnuv5deuahcdfdlhbxvbu4jau5b4Saeai0ud+bHcwu5bjBM4Oau5l4XaeccgeLud+bIcwu5baecNgeLud+bIcwu5bj,vM4wau5l46aed+bJbuaed+bKbu4dawa,85i"
def L4:au 0 58 L3:=av
def L5:ao:=aw "NbccadalaNaK5l4jaad+bLbi4faj5laN5dl4laed+bMbkvdlOadm5aK5faglnon5depahadfbbafaed+bNbru+bfbsx+bf+d?qt4gau5b4wjoM4pau5dl4xaed+bObusuK5eul4daNaZ5iadl4Bafd6bu4Aau4Diuaixb4hava,D5l4FahsuKau6>agaad+bPcvurcu6alyOu5eul4daNaZ5ial4Naf4dauaK5i"
def L6:au 0 59 L5:=av
def L7:ao:=aw "pbbccLlp+bqa5dl4gaaPafP5eglqaa4afLch5ial4kaad+bRbjd+bQbk4jal4niiaiib4ep+bqa4afLdman5l4peLd4afLco5i"
def Bg:au 0 60 L7:=av
def L8:ao:=aw "pbbccLlp+bqa5dl4gaaPafP5eglqaa4afLch5ial4kaad+bSbjd+bQbk4jal4niiaiib4ep+bqa4afLdman5l4peLd4afLco5i"
def Bh:au 0 61 L8:=av
def L9:ao:=aw "Bdcgahalm+bqb4haNaK5dl4lacd+bTckNrcl5eml4haNaM5ial4paaacqkcabobbpeLed+bUcqr4oas4uinainb4jata,u5dl4wajsuK5eulaj4haNa,x5ial4zaid+bVcu,+qc5lai4hauaK5i"
def La:au 6 62 L9:=av
def Lb:ao:=aw "eabaal4baP5l3aqxbabbm+cFc4bad5i"
def Lc:au 0 63 Lb:=av
def Ld:ao:=aw "6cbeal4dmEa4faL5dfal4habngMah6sabyjQ6aliOkal6Acacecnabd+b4coprcq6almOr4gas5efl4faL5il4vcgcbu4uau5etl4xcfcbuouKau61ccccaubuou06alyuLau6=ccccbubuouK6alyuLau6+bgcccccubuguouK6alzuL4fau5ial4Tccceduabd+b5cvuau6+bCcfcbuCuX6alxuLau6+bMcfcbuIu,+qd6alxuL4fau5i"
def Le:au 6 68 Ld:=av
def Lf:ao:=aw "+bCcalm+bqb5ddc4iaakhcbicgjbkal6BcIdbnyoK6almpLaq6LaakscbtcauecucGdecud+b6cwu6alruL5eucaakuckubucIdbujwukAcku4afbuw5addcaakucbuehueLdd+b7cvurcu5euialaakucmubujuMkycmu4afbuw5dceLdaakucmubuqscaLyObu4fp+b;s4afPe,35ddk46aakucbucauecucGdecud+b8cwu45au4>iuaiDb4gpAb4afcf,=a,>5oaaabaacaadaaeaafaagaahblaiaajaakaalaamaanaal4*agau6+b*aakucbucguburcu6alAuL5euc4+bhaakucbuccueduecfd+b9cvu4+bgau4+boiuaiCbiDccLe4afcuxcNe4afbux5acaaaakucnubuePeBPbuwP+ckwukBcnu4afbuw5"
def Lg:au 6 69 Lf:=av
def Lh:ao:=aw "Fcbeal4dm+b;am+b;baK5dl4hcLcecgcLdecid+b;chj4gak5fal4nafsmK4man5ell4paf4fao5il4rcNcbqcNdbssrt4qau5epdl4wcNcbucNdbunwu5eul4faX5ial4faM5ial4BcOcbucOdbuAwu4fau5i"
def Li:au 6 71 Lh:=av
def Lj:ao:=aw ":cbealm+bqbaL5dc4haakgcbhcgibjrckal6BaakncbocfpbqCrK6almsLat6Raakucjubuguaakucbucfubuozu6alFuL4gau5dc4Iafau6+baaakucbucfubuouKau6+bnaakucbuehueLdaakucjubuaakucjubuguAuMhbAubud+b<dHGu6+bal,POu6al,IuL4fau5i"
def Lk:au 6 72 Lj:=av
def Ll:ao:=aw "Wdcgcdhalm+bqb4hp+b+caK5l4paacaeeGpd+b=coq4oar4tinainb4jasat5dl4vajsuK5eulqca4afdgu4iaZ5ial4zaiacd+b>cvu4yau4Ciuaiyb4lp+b+c4afdk,B4ka,C5dl4EajsuK5eulqca4afdgu4iaZ5iadl4Iedkacd+b?cvu4Hau4Liuaiyb4mp+bqa4afLl,Ka,L5l4NamsuKau6+bleLleLed+b*cvurcu6alyOu5eulqca4afdgu4iaZ5ial4Wedk4afdgu4iaK5i"
def Lm:au 0 73 Ll:=av
def Ln:ao:=aw "0calm+ccb5ddccbdbercfag6qaakicbjcakeclcadbnd+b+cmorcp6alhOq5eriadlaakscbtcgubu5eulaakuckubujuMkycku4afbuw5iakaaaakucbuccueduaakucjubucadbuBbbuwbyxud+cacCuaakucbuehud+b,cyuk,Ecju4afbuw5xaaabaacaadaaeaafaagaahaaiaajaakaalaapaaqaaraasaamaanacfsoabstaauaavaawaa"
def Lo:au 6 74 Ln:=av
def Lp:ao:=aw "Wcbeal4faN5dl4kabnjK5ekbVj,+oO4aWl5al4oaagnvhoabvhqd+cbcpr4nas4uimaimb4gata,u5dl4wafyu1au6Wagyu,+qe6alwOu5eubVj,+qf4aWu5alagvdu2bituu4iau5l4GahaaHbvu4jau5dfagdl4Jaiahgunwu5euahafbcaiahaitbvbuaaahaitbvabuaHbxujBu4jau5l4Wah4fau5i"
def Lq:au 6 75 Lp:=av
def Lr:ao:=aw "Xdbgal4emCa4haL5l4neddabd+cccmn4mao4qilailb4ip+b9f4afchpaq5l4teddacd+cccst4sau4wirairb4kp+b9f4afcj,va,w5dl4yaircuau60akrcu6alwOuau68abguacguswu6alzOu5eul4haL5iadl4Lechecj3d5eulechecjd+cdcvu4hau5iadc4RabhbuKbuachbuKbunxu4hau5i"
def Ls:au 0 76 Lr:=av
def Lt:ao:=aw "SbbcalaL5dl4haa3e5fagl3fiia5dejahafbliibiic4eakal5l4naeCm,+qgan6FaeIp,+qh6aloqL4gar5l4tafrcsat6RadouKau6Waenu,+qiau62aeyu,+qj6WlwOuau6;aesu,+qk6WlwuL6RlEOu6alIuL5eul4daL5ial4LaaTuCuMau6+bkaaTuIu26alxuL4dau5i"
def Lu:au 0 77 Lt:=av
def Lv:ao:=aw "JbbcalaL5dl4gaagfaK5faglnhg5deiahadfblahhbfhbk4eajal5l4naed+bgbmrcnao6Gaeoq,+oU6alpOras6OaaadFbvabuaed+cecvu6altOu5eul4daL5iab4BjhM4iau5l4CaaguCuMau6;aaguIu76alxuL4dau5i"
def Lw:au 0 78 Lv:=av
def Lx:ao:=aw "Jcceafalm+bsbaNaK5dl4jaad+bFbircjak6ye+bfdd+cfbmrcn6allOo5epl4faNaM5ial4saacadbsd+cgcrt4rau4wiqaiqb4hava,w5dfal4zah4yau5eul4faNaR5il4BaaguCuQ4Aau5eul4faNa:5iadk4EaadTbuage+bfdB+bfbud+chdxwu4fauaK5iaaacaadaabbebdeaafaagaahaai"
def Ly:au 6 79 Lx:=av
def Lz:ao:=aw "ibbcalaN5dlaaQad5eel4daN5ial4gubaaaxbqfg4dah5i"
def LA:au 0 80 Lz:=av
def LB:ao:=aw "zcceafal4faNaK5dl4jaad+bFbircj5ekl4faNaM5ial4naaabd+cgcmn4mao4qilailb4hapaq5dl4sahrcr5esl4faNaW5ial4uaadTbtagagjuMd+cidxwu4fauaK5i"
def LC:au 0 81 LB:=av
def LD:ao:=aw "Fccec+bffalm<bp+bsdaK5dk4kaakjcbkblcbdbndLcmo4jap4riiaiib4hp+bsd4af+bfgqar5naaabaacaadaaeaafaagbkahaaiaajaakaalaamaadfal4uahrct4tau5esl4we+bfg4af+bfeu4gaW5idk4ycddbugue+bfgdNbuswu4xau5haaabaacaadaaeabbfaagaaeul4Ee+bfg4af+bfeu4ga45ial4Fe+bfg4af+bfeu4gaK5i"
def LF:au 0 82 LD:=av
def LG:ao:=aw "+a,fbkalm+bsb4laK5l4re+bfgdNbq4mar5dk4uadaakucaubuccgeLuacalLteywvu4tau4Eisaisb4np+bqa4afLm,Da,E5qaaabaacaadaaeaafaagaahaaiaajbnakaalaamaanaaoaapaadl4GansuK5eulan4lau5iadk4KaeaakucaubucNgeLuacalLCeywvu4Jau4UiuaiFb4pp+bqa4afLo,T4oa,U5qaaabaacaadaaeaafaagaahaaiaajbnakaalaamaanaaoaapaadl4WansuK5eulan4lau5iadk4ZeLmeLoccg4afLuwcNg4afLuw5gaaabaacaadabbeaafaadc44aakucbubue+bfgd+cjcvu43au4:iuaiBb4qav4oa,:5dl4<anouK5eubaaapkvcbu4afbuw5alan4lau5i"
def LH:au 0 83 LG:=av
def LI:ao:=aw "yecicLjalm+bqb4jp+bqaaK5dladacubbld+bTckmrcn5eolqaa4afLip4kaM5ial4raaadqkcabqbbreLfacd+ckestuKiuaivb4afLiv4kau5i"
def LJ:au 0 84 LI:=av
def LK:ao:=aw "UecicLjalm+bqb4jp+bqaaK5dl4oadacubbod+clcnprcq5erlqaa4afLis4kaM5ial4uaaadqkcabtbbu4lp+dok4afck,v5dl4xeLfd+cmbu5euleckacubbud+cncwuiuaivb4afLiv4kau5ial4GeckeLfacd+codwvu4Fau4Kiuaizb4mava,K5dl4MamsuK5eulqaaam4afLiv4kau5ial4Qeckald+cpcvuiuaivb4afLiv4kau5i"
def LL:au 0 85 LK:=av
def LM:ao:=aw "TecicLjalm+bqb4jp+bqaaK5dl4nadacubbnd+bTcmorcp5eqlqaa4afLir4kaM5ial4taaadqkcabsbbt4lp+cZk4afck,u5l4xeckeLfacd+cqewvuK4wau4Biuaizb4afLfv4mau5dl4DalouKau6;cIfbuESucJfbunwu6alAuL5euleckeLfd+crdvuKiuaivb4afLiv4kau5ial4SeLfal4afLiv4kau5i"
def LN:au 0 86 LM:=av
def LO:ao:=aw ">ecicLjalm+bqb4jp+bqaaK5dl4oadacubbod+clcnprcq5erlqaa4afLis4kaM5iadl4ueLfd+cmbt5eulqaa4afLiu4ka55ial4xaaadqkcabvbbu4lp+dok4afck,y5l4BeckeLfacd+csdwvu4Aau4Fiuaizb4mp+dvh4afdl,Ea,F5dfal4IamsuK4Hau5eul4Kqaaam4afLiv4kau5il4Ncalbuau6+bmcblbuguouK6alyuL4Mau5eul4Vqaa4afLiu4kaK5il4Xcalburcuau6+bIcclbuguouM6alyuL4Wau5eul46cclbuhLuKeLu4afLiu4kaK5ial4:eckedld+ctcvuiuaivb4afLiv4kau5i"
def LP:au 0 87 LO:=av
def LQ:ao:=aw "YbbcalaL5dlaK5fagdl4iadaaTinhj5ekahadfbl4oaaad3g4fap5l4raeCq,+qlar6NaeIt,+qm6alsuL4gau5l4xaeCu,+qnau6ZaeIu,+qo6alwuL4hau5l4Dafrcuau6;adouKau6*agrcuau6+beaesu,+qp6*lwuL6;lAOu6alEuL5eul4daL5iab4madjlM4eam5l4RaaTuyuKau6+bwaaTunu,+qq6alxuL4dau5i"
def LR:au 1 88 LQ:=av
def LS:ao:=aw "+bndcgahal4haPaL5dl4laaPakP5ell4haPaL5iadc4naakmcanboaakqcbrbsaakuccubuaakucdubuqoeabpbbtcbydbum+cyu4jau5dl4Faakucaubuabdocvu5eulaikucbu4afbuL5dcaiaakucbubu4haya,R5ial4kaL5ddc4TabaakucaubuacabguKwud+bAdCyu5eub44aiaakuccubuabacjuMd+bsdxwu43au4=iuaiEbkEccu4afbux4kaw5b4+a,aiaakucdubuabacjuMd+bsdxwu4+a+au4+biiuaiEbkEcdu4afbux4kaw5l4+bmaiaj4hava,+bm5i"
def Bi:au 0 89 LS:=av
def LU:ao:=aw "DbbcalaN5dl4faaPaeP5efl4daN5iadk4haakgcchbid+btbjaaklcdmbnd+btboxbykp4eaq5maaabaacaadaafaagaahaaiaaeabijaakaalaadl4saakrcbsbt5eubadaakucaubuubbuxbyzu4eau5al4Dad4dau5i"
def Bj:au 0 90 LU:=av
def LV:ao:=aw "rbbcalaK5dlaaPadP5eel4daK5iadk4gaakfccgbhd+bubijMjaaklcdmbnd+bubojkp4daq5naaabaacaadaagaahaaiaajaaeabjfaakaalaamaai"
def Bk:au 0 91 LV:=av
def LW:ao:=aw "Ocbeal4faP5dl4iaaghoiK5ejl4faP5ial4laaabaahbmKbngoKlpd+cuckq4gar5l4tafgsMtS4hau5dk4wafaghbvubuafagFbvabuabjuMd+bvcwuafagjuMFbwbuaabjuMd+bvcwuqoeabHbbOcbBdbum+cyu4fau5uaaabaacaadaaeaafaagaahaaiaakaalaamaanaaoaapaajabdqabdraasaataai"
def wB:au 0 92 LW:=av
def LX:ao:=aw "scbeal4faL5dlaK5fagdlafaaghngi5ejahadfbl4naaafhbmnboabdocpq5erl4faO5iab4lafjkM4gal5l4faL5i"
def LY:au 0 93 LX:=av
def LZ:ao:=aw "HbbcalaN5dl4gaaPafP5egl4daN5ial4iubaaakicajbkxbyhl4eam5dlaK5fagdl4oaeaakocbpbqgrnns5etahadfbb4xadaakucbubuaehbvubud+bxbuxbyCu4eau5b4vaejuM4fau5l4Had4dau5i"
def wC:au 0 94 LZ:=av
def M0:ao:=aw "+cxcbeal4faP5dl4paakocbpbqgrosK5etlqbam+cwu4gau5dlaK5fagdl4xagaakucaubugunzu5euahadfbl4Gaakucaubuaghbvubuabdocvurcu5eucafafkucaubuaakucaubuaghbvubuBbbuwbyCukHcau4afbuw5ab4EagjuM4hau5l46af4fau5ial47aaabd+cvcvu4iau5l4:Bbaaakucbubuwbiyu4jau5l4*aiahaakucbubuahhbvubuabd+bycvuhbED4afbuv5ddcaiahhbvubukucaubuguaiahhbvubukucbubugujCuyuM5eulaiqbbbbum+cwu4fau5ial4+bEahAuM4kau5dl4+bGahouK5eub4kaK5adc4+bIaiajhbvubuaiajjuMhbwubu4laza,+bP5laN5dl4+bRaakucbubuahhbvubukucbubuguouK5eukBbaakkucaubuwbyyualkucaubuwbyyud+cwbu4nau5nbaacaadaaeaagaahaaiaajaaaaafabjkaalaamaak4+b?Bbaakkucbubuwbiyualkucbubuwbiyud+cxbu4nau5nbaacaadaaeaagaahaaiaajaaaaafabjkaalaamaalaN5l4+cianaiajtbvabuawbixu4oau5l4+cnanamwbivu4oau5l4+cqanaiajjuStbwbuaawbiyuqbbbbum+cwu4fau5i"
def Bl:au 6 95 M0:=av
def M1:ao:=aw "Dcbeal4faP5dk4haakgcchbid+bubjaaklcdmbnd+buboObdkp4gaq5maaabaacaadaafaagaahaaiaaeabijaakaalaadl4safaad+bubsEStMuWjuMyru5eulaad+btbuabd+bvcvu4fau5ial4Daa4fau5i"
def M3:au 0 96 M1:=av
def M4:ao:=aw "Ydbgal4haL5ddc4jaaachbijbkabachbmnboslp5eqdcaaachbrsbtabachbvubunyu4hau5iadlaK5fagdl4Bahaagunwu5euahadfbdc4Haaahhbvubuabahhbvubusyu5eudcaaahhbvubuabahhbvubunyu4hau5iab4FahjuM4iau5l4haL5i"
def M5:au 0 97 M4:=av
def M6:ao:=aw "obbcalaP5dfagdlaagdyeM5efahafbbaad+cxbg4bah5dl4jaagiojK5ekl4daP5ial4maahblKbm4dan5i"
def M7:au 0 98 M6:=av
def M8:ao:=aw "0cbeal4faN5dl4iaakhcbibjgkolK5emlaakncaobpabd+cycqrd+cwbs4fat5ial4vaaabd+cvcvu4gau5laN5l4yagaakucbubuafFbvabuxbiAu4hau5l4Gagaakucbubuafhbvubuabd+bCcvuxbiDu4hau5l4RagaakucbubuafjuMFbwbuaxbiBud+cxbu4fau5i"
def Bm:au 0 99 M8:=av
def M9:ao:=aw "ibbcalaN5dlaaQad5eel4daN5ial4gubaaaxbbfg4dah5i"
def Ma:au 0 100 M9:=av
def Mb:ao:=aw "Mcbeal4dm+bqam+bqbaL5lcaceGfcadeGh3haj6xcIcblcIdbnomo6alkpLaq6LcJcbscJdbuotu6alruLau6ZcGcecucGdecud+czcwu6alzuLau6=cKcbucKdbudocwu6alzuL4fau5i"
def Mc:au 1 101 Mb:=av
def Md:ao:=aw "IbbcalaL5dl4gaagfaK5faglnhg5deiahadfblahh+bffhe+bfk4fp+bsd4eaj4af+bfel5dc4ne+bfed+cfbmrcnao6GadyqKar6NaaadAuMh+bftucaubucaebuCwu6GlsuL6alpOu5eul4daL5iab4FjhM4iau5l4GaaguIuQ4dau5i"
def Me:au 0 102 Md:=av
def Mf:ao:=aw "icab4faaabubbfd+cAdeOg5"
def Mg:au 0 103 Mf:=av
def Mh:ao:=aw "rcadl4fabgeyf35eglaakhcbi4afbj:5ialaaabgld+cBckm5baaabd+cAdoOp5"
def Mi:au 0 104 Mh:=av
def Mj:ao:=aw "Kcalm+bqb5l4haacadeGhd+cCcgi5laacIdbld+cBckm5laacJdbpd+cBcoq5lcGdcasbtcGdcbubucKdbuubdzwuguaK5faglnuv5deuahadfblhbxvbu4gau5b4Haaafd+cDcvu5bjAM4Dau5"
def Mk:au 0 105 Mj:=av
def Ml:ao:=aw "nbbcalaN5dlaakdcbebfsgK5ehl4daN5ial4jaakicajbkd+cEbl4dam5i"
def Mm:au 0 106 Ml:=av
def Mn:ao:=aw "hbbcalaK5laakdcbebf4dag5i"
def Mo:au 0 107 Mn:=av
def Mp:ao:=aw "hbbcalaP5laad+cEbdqjbabem+dIf4dag5i"
def Mq:au 0 108 Mp:=av
def Mr:ao:=aw "pbbcala05l4haad+cFcgM4gah4jifaifb4eaiaj5dl4laerck5ell4da05ial4nadhbmKbn4dao5i"
def Ms:au 0 109 Mr:=av
def Mt:ao:=aw "Ebbcc+bflp+bsd5l4faad+cGce2Xfqdbabg4ep+bsd4af+bfdh5dl4jaad+bMbivdjOadkQaK5faglnml5denahadfbkcbdboaad+cGcq2Xrubbsxbqptcbd4afbuv5jaaabaacaadabbeaafaagaahaaiaabjmM4nau5l4yaad+cHbuccd4afLuv5laad+cHbucNd4afLuv5le+bfd4af+bfcu5i"
def Mu:au 0 110 Mt:=av
def Mv:ao:=aw "pbbcalaK5dlaakdcaebfggyhK5eibaad+cIcj,+qr5alaaklcbmbn4dao5i"
def Mw:au 0 111 Mv:=av
def Mx:ao:=aw "Acbeal4faL5dl4haaggabgishj5ekl4faL5iadl4maaglaK5faglnnm5deoahadfblan4gap5dc4raaafhbqrbsabafhbvubustu5eul4faL5iab4AjnM4oau5l4faO5i"
def My:au 0 112 Mx:=av
def Mz:ao:=aw "+bMbcccLdal4cm+b+ap+bqaaL5l4iedbd+cKbhd+cJbiqabaGj4fp+bqa4afLek5dlaK5fagdl4mafcbbbmgnnlo5epahadfbl4tcJebsjtMcJe4afbuv5lcbbbuafhcvucbubu5eulcIebujuMcIe4afbuv5ccGeecucbbbuafhcvucaubucbbbuafhcvucaubuqbcabAbbud+cLcHucGe4afcuv5ab4rafjqM4gar5dlaK5fcgdl4Yagccbbugunxu5euahcdfddc45cJebuccbbuaghLvucJubujAucJe4afbuv5dccIebuccbbuaghLvucIubujAucIe4afbuv5ccGeecuccbbuaghLvucGuecud+cLcAucGe4afcuv5b43agjuM4hau5dl4+bqcabbuouT5eubcbbbuhcuKcaubucKe4afbuv5adlcabbuouU5eubccbbuhLuKcKubucKe4afbuv5adlcJebuyu35eulqaa4afLcu4eaL5ial4+bMeLe4afLcu4eaO5i"
def MA:au 1 113 Mz:=av
def MB:ao:=aw "zbbccdlp+b+c5dkaakdcaebfaakhcbibjqgcabgbbkucblaaknccobpd8bqaakscdtbud8buuLcruqcdabVbbmcbu4afdcu5xaaabaacaadaaeaafaagaahaaiaakaalaamaanaapaaqaaraasaaobjddhstbjcdhjbuauaavaawaai"
def MC:au 0 114 MB:=av
def MD:ao:=aw "1bbccdlp+b+c5l4hqcbabT4ep+b+c4afddg5dlaK5fagdl4iaeaakicajbkglnhm5enahadfbc4rcbdbqaakscatbuaehbvubuqgcabubbOucbuxcGrucbd4afbuv5b4paejoM4fap5dlaK5fcgdl4Eafaakucbubugunzu5euahcdfdl4Ncad4afbuU5kccdbuaakucbubuafhbvubud9buuLbuxL+bXDuccd4afbuv5oaaabaacaadaaeaafaagaahaaiaajabbkaalaamaanaab4LafjuM4gau5l41edd4afdcu5i"
def Bn:au 0 115 MD:=av
def ME:ao:=aw "rcbeal4dmda4faL5lbcCfMag6rbcIiQ6alhjLak6zabJ+cNabcd+cMcmnrco6allpL4faq5i"
def MF:au 0 116 ME:=av
def MG:ao:=aw "2cceafal4dm+cZam+bqbaNaK5dl4pcIdboopK5eql4faNaK5ial4tecceLdd+cOcst4sau4wirairbirc4hp+ccg4afcg,va,wa,x5dl4zaisuK5eulai4faNa,A5ial4kaN5dl4Ccbgbu5eubajcagbuBbbuwbyxu4kau5adl4JahguaK5faglnuv5deuahadfblhLxveLu4mp+bqa4afLl,N5l4QecceLld+bUcvu4Pau4Tiuaiyb4nava,T5dl4VansuK5eulan4faNa,W5iab4Yajamwbyvu4kau5b41j,KM4Lau5l42aj4fauaK5i"
def MH:au 6 117 MG:=av
def MI:ao:=aw "icbeal4faK5laaabd+bXcfg4fah5i"
def MJ:au 0 119 MI:=av
def MK:ao:=aw "Kcbeal4faK5dl4kaagjaK5faglnlk5demahadfblalhbjlbo4ganap5dl4rafabgrCqs5etl4faM5ial4vabafhbvubu4iau5l4zagahd+cRcvu4jau5l4CaisuK5eulai4fau5iab4FjlM4mau5dl4Gaaguabgunwu5eul4faX5ial4faK5i"
def ML:au 0 120 MK:=av
def MM:ao:=aw "kbbccGlp+bge5l4fd+cSa4eae5l4gadaad+cTcfg5ladd+cUbi4afGcj5i"
def MN:au 0 121 MM:=av
def MO:ao:=aw "gbbccGlp+bge5laad+cXad+cWcde4afGcf5i"
def MP:au 1 123 MO:=av
def MQ:ao:=aw "pbbcalaN5laaMd,+qsKe+vefaaMh+Ki+vejaaKl+vemBbdgkn4dao5i"
def MR:au 1 125 MQ:=av
def MS:ao:=aw "xbbcalaN5l4gaagfvegBbbh4eai5dlaK5fagdl4kaeaagknjl5emahadfbb4qadaaaehbqrbsd+cZbtwbbpu4eau5b4oaejnM4fao5l4xad4dau5i"
def MT:au 1 126 MS:=av
def MU:ao:=aw "Ccbeal4dmAa4faL5dlabnfMag6qabyiQ6alhOjak6ycacbmgnabsop6allOqar6Mcbcbtguabsvu6alsOu5eul4faL5ial4AabJ+c1abcd+c0cvu4fau5i"
def MV:au 0 127 MU:=av
def MW:ao:=aw "+becbeal4dmCa4faL5dlabnfMag6qabyiQ6alhOj5ekl4faL5iadl4mcacbl5fal4pom04oao5enl4qcbcbpoqKar6NcccbtguouK6alsuL4fau5il4AomV4zau5eul4BcbcbuCuMau69cbcbuabnvu6alyuLau6+bccccbuguouK6alyuL4fau5il4RomT4Qau5eul4ScbcbuCuKau6+bycbcbuabnvu6alyuLau6+bKcccbuguouK6alyuL4fau5il48omU47au5eul49cbcbuouKau6+b6abCuS6alwuLau6+b>cccbuguabAuMowu6alAuL4fau5ial4faL5i"
def MX:au 0 128 MW:=av
def MY:ao:=aw "Bcbeal4dmEam+bqbaL5dlcIdbfogKah6scacecjcGdecld+c4ckmrcn6aliOo5epl4faL5iadl4rcgcbq5erlcacecscGdecud+b6cturcu4fau5ial4zcfcbusuK4fau5i"
def MZ:au 6 130 MY:=av
def N0:ao:=aw "1cceccfal4dmAamAbpAbaL5dl4jeccecdd+c4cijrck5ellqba4afcem4gaL5ial4oeccd+c5bn4hpAb4afcgo5dl4qcagbpgqaK5faglnsr5detahadfblas4iau5k4wcagbuahcbgbuahcacbuahhbvubucadbuahhbvubuObdzucbcbuahhbvubucbdbuahhbvubuOadzuhb,w,x4afbuGhb,z,A4afbuw5GaaabaacaadaaeaafaagaahaaiaajaakaalaamaanaaoaapaaqaaraasaataauaavaawaaxaayaazaaAaaBaaCaaDabeEaaFaabjsM4tau5l41ecg4afceu4gaO5i"
def N1:au 0 131 N0:=av
def N2:ao:=aw "9cdeccfagal4dmCamAbp+b9faKaK5dl4jecdcadbjgkd+b4cilrcman6Eedccadbqgrd+b5cpsrct6aloOu5eulqfa4afceu4gaKaM5ial4ycadbucbcbuhbwubud+c6bu4ip+b9f4afch,D5dl4Fcacbu5fal4IouT4Hau5eub4Jcbdbucbcbuhbwubud+c7bu4afchu5l4RoDU4Qau5euc4TcccbucadbuFbubMacbdbuFbubMaqbcabxbbud+c8cBu4Sau43iuaiFb4afchv5adkechcadbuhbuKbu4afcey4gauaK5iaaabaacaadaaeaafaccegaahaai"
def N3:au 0 132 N2:=av
def N4:ao:=aw "Dcbeal4dm+b9am+b9baK5dfal4heccecd3i4gai5efl4faK5il4lcacbkcadbmnlnao6Gcacbqcadbsortau6Tcbcbucbdbunwu6GlzuL6alpOu4kau5ejl4faX5ial4faM5i"
def N5:au 0 134 N4:=av
def N6:ao:=aw "zdbgal4emEam+bqb4haL5l4lcadeckcGeecmd+b8cln4kao4qijaijb4ipAb4afchpaq5l4saiar6Nccdedtechacd+c;dwvu6alsuL4hau5i"
def N7:au 6 135 N6:=av
def N8:ao:=aw "vcceafalm+bgbaNaK5dc4kaakjcakbleGd3j4jao4qiiaiib4hapaq5dl4sahrcr5esl4faNa55ial4uagd+bDbt4fauaK5i"
def N9:au 0 136 N8:=av
def Na:ao:=aw "+bdccecdfal4fp+b+caK5l4maad+bLbl4ham5l4oagd+bMbnqcbabo4ip+b+c4afdhp5dl4ragd+bMbqvdraK5faglnts5deuahadfblagd+c<bu4jau5k4ycbhbuagabd+c=cvuaiqgcabvbbuBcbuwcGAucbh4afbuv5laaabaacaadaafaaeabbgaahaaiaajaakaabjtM4uau5dl4Jagd+bMbuvduaK5fcglnuv5deuahcdfdkcchbuagabd+c>cvuBLbuwL+bXyucch4afbuv5jaaabaacaadaaeabbfaagaahaaiaabjDM4Mau5dl4Xagd+bObusuKau6+bHedhabd+c?cvurcu6alyOu5eulqca4afdeu4gaZ5iadl48edhabd+c*cvu47au4;iuaiyb4kava,;5l4=aksuKau6+b;ajaad+bPcvurcu6alyOu5eulqca4afdeu4gaZ5ial4+bdedh4afdeu4gaK5i"
def Nb:au 1 137 Na:=av
def Nc:ao:=aw "+bEccecLfal4dm+b+a4fp+bqaaK5l4pedcabd+c*cop4oaq4sinainb4haras5dl4uahstK5eulqaaah4afLev4gau5iadk4yagd+c+bucbcbuguqacaGxJbu4jp+bqa4afLi,C5iaaacaadaaeaabbgbdfaagaahaadl4EcbcbuguaK5faglnuv5deuahadfblhcxvecu4lp+ccg4afck,J5l4Lcbkbu5eulcIibujuMcIi4afbuv5kcGiecucakbud+dabud+c,cxucGi4afcuv5iaaabaacaadaaeabbfaagaahaaabj,GM4Hau5dl4ZcccbuguaK5fcglnuv5deuahcdfdlhLxveLu4np+bqa4afLm,45l46cIibucImbujwucIi4afbuv5lcJibucJmbujwucJi4afbuv5bcGiecucGmecud+c,cwucGi4afcuv5bj,1M42au5dl4+bgcJibuyu35eulqaa4afLeu4gaM5iadl4+bkcacbu5fel4+bnouT4+bmau5eub4+bocbcbuhcuKcaubud+dbbucKi4afbuv5l4+bwoDU4+bvau5eub4+bxcccbuhLuKcKubud+dbbucKi4afbuv5aleLi4afLeu4gaK5i"
def Nd:au 0 138 Nc:=av
def Nf:ao:=aw "Mcbeal4dm+bqam+bqbaL5lcaceGfcadeGh3haj6xcIcblcIdbnomo6alkpLaq6LcJcbscJdbuotu6alruLau6ZcGcecucGdecud+dccwu6alzuLau6=cKcbucKdbud+ddcwu6alzuL4fau5i"
def Ng:au 0 139 Nf:=av
def Nh:ao:=aw "pcbeal4dmAamybaL5leccbdggd+b4cfhai6vbdgkJ+deaccdd+c0clm6aljnL4fao5i"
def Ni:au 0 140 Nh:=av
def Nj:ao:=aw "ucbealmEbaN5dlcfdbfCgKah6taagjcfdblykm6alinL5eolaacfdbqtbpabra4fas5ial4uaa4fat5i"
def Nk:au 6 141 Nj:=av
def Nl:ao:=aw "Mcbeal4dmCa4faN5laN5dl4jabgiaK5faglnkj5delahadfblhbikbm4ian5dl4pedcahgpd+b5coqrcras6OahguabhbuKbugusyu6altOu5eul4faN5iab4Dafahd+dbbuBbbuwbyxu4gau5b4IjkM4lau5l4JafJ+dgabcd+dfcvu5laf4fau5i"
def Nn:au 6 142 Nl:=av
def No:ao:=aw "Ecceafal4fa1a15deLl4maavglabvgnd+dicmo4lap4rikaikb4haqar5l4tagvhsahvhu4fata,v5ial4yaaabd+djcvu4xau4Biuaiyb4java,B5l4Daiaj4fava,D5i"
def Np:au 0 143 No:=av
def Nq:ao:=aw "Lcceccfal4dmCa4fp+b9faL5dl4iedcabgidQchjrck5ellqfa4afcem4gaL5iadl4ocacbnooU5epdcabFbqbMacccbsd+dkcrtiuaivb4afcev4gau5ial4yabcbcbuhbwubuvhuju;4hau5dl4FcacbuouT5eubagA,+qtu4hau5al4Kagqfbbbu4afceu4gaO5i"
def Nr:au 0 144 Nq:=av
def Ns:ao:=aw "ucbeal4dm+b9am+b9baL5dlcacbfcadbhsgi5ejlcacbkcadbmnln4fao5ial4qcbcbpcbdbrnqs4fat5i"
def Nt:au 1 145 Ns:=av
def Nu:ao:=aw "jcbeal4faL5laaabd+dlcfgChK4fai5i"
def Nv:au 0 146 Nu:=av
def Nw:ao:=aw ";bbcal4cm+bsaaL5l4fe+bfbdNbe4eaf5dfal4icabbhcbbbjqidabVbbicbkdUblrcm4han5egl4daL5il4qccbeLpadd+dmcqrrcsat6QcNbeLuadd+dmcvurcu6alzOuau64ccbcIubucNbcIubusxu6alBOuau6+bdccbcKubuguyuK6alzOu4pau5eol4daL5ial4ScNbeLud+cmbuau6+bxcNbcKubuguadovuau6+bMcNbcJubucNbcIubuoxu6+bxlBuL6alJOu4dau5i"
def Nx:au 0 147 Nw:=av
def Ny:ao:=aw "lcceafal4faKaL5laaabd+dndgh,+quiiaiib4fajak5i"
def Nz:au 0 148 Ny:=av
def NA:ao:=aw "+bydbgal4haN5l4laaabt+bfkblaa5lacgn4iao5dl4qahopK5eqlaa4har5ial4taags4jat5dl4vabaiovu5eulaaacw+bf+d?vu4hau5iadl4BaiahjvuaaUuywu5eulaaabt+bfvabuaaiahjvuabAvuY+bf+d?dzu4kau5l4Qajabt+bfvbuaaacH+bfvu5dcajabahjvut+bfxbuaaaaabt+bfvbuaaH+bfxu5laj4hau5ial45aaaiahjvut+bfxabua4bau5dl4:acaaabahjvut+bfxbuaaZzurcu5eudcaaabahjvut+bfxbuaaaaabt+bfvbuaaH+bfxu5laaabt+bfvbuaaacH+bfvu5laa4hau5ial4+boaaait+bfvbuaaacH+bfvu5laaabt+bfvbuaaahd+dqcvu5laa4hau5i"
def Bo:au 6 149 NA:=av
def NB:ao:=aw "Hdbgal4haN5l4jaaabacaaglt+bfibjbkbm5dlabacoop5eqlaa4har5ial4taags4iat5dc4vaaabt+bfvabuaaaact+bfvbuaaw+bf+d?xu4bau5l4Caaaaguaht+bfxbvbua4a1+bfdu5laa4hau5i"
def NC:au 6 150 NB:=av
def ND:ao:=aw "Hcceafalm+bsbaNaK5dl4kaad+bFbjrckal6Ae+bfdd+cfbnrco6almOp5eql4faNaM5ial4taacadbtd+cgcsu4sau4xirairb4hava,x5dl4zahrcu5eul4faNaW5ial4BaadTbu4jau5l4Daiage+bfdh+bfwv4af+bfuv5lai4fauaK5i"
def NF:au 0 151 ND:=av
def NG:ao:=aw "+bTecicLjal4fm+cZam+bqb4jp+bqaaK5dl4peLfd+cmbo5epleceacqgcabrbbOeLfeLfd+dreqstuiuaivb4afLiv4kau5ial4AeceeLfd+cOcvu4zau4Diuaiybizc4lp+ccg4afck,Ca,Da,E5dfal46amsuK45au5eul48qaaam4afLiv4kau5il4;cakbuacd+ddcvuau6+b<cbkbu6alwuL4:au5eul4+baqaa4afLiu4kaQ5il4+bccakbuacd+ddcvu4+bbau5eub4+bgcbk4afbuO5l4Geceaccakbuadd+dseyxvu4oau5dc4NalanecealanhLvueLuacadjuMd+ckeBxwu4Mau4YiuaiGbhLGF4afLuw4nav5l41amsuK5eulqaaam4afLiv4kau5iadc4+bieceeckalhLuKeLualhLuMeLud+dreBAxu4+bhau4+briuaiEb4afLfv4nau5ddc4+btamouKau6+cRalhLuKcJubualhLuMcJubuObdyucJfbuESuMuWjuMyzu6alJuL5euleceeLfadd+crdwvuiuaivb4afLiv4kau5ial4+bSeLfam4afLiv4kau5i"
def NH:au 0 152 NG:=av
def NI:ao:=aw "rcbeal4dmda4faL5lbcCfMag6rbcIiQ6alhjLak6zabJ+dtabcd+cMcmnrco6allpL4faq5i"
def NJ:au 0 153 NI:=av
def NK:ao:=aw "gbbcal4cm+bqaaL5leLbqaad+b*cde4daf5i"
def NL:au 0 154 NK:=av
def NM:ao:=aw "GccecLfal4dm+doa4fp+bqaaK5l4kqcbabT4hp+b+c4afdgj5dl4labgkaK5faglnml5denahadfblhbkmbo4jap5b4rcbgbqaiqgcabsbbOucbtxcGrucbg4afbuv5bjmM4nau5l4zcacbuedgcbcbud+dudxwuiuaivb4afLev4gau5i"
def NN:au 0 155 NM:=av
def NO:ao:=aw "+bddcgahal4em+doam+bqb4haNaK5l4qecdeLed+dvcpq4par4tioaiob4jp+b+c4afdisat5dl4vajsuK5eulaj4haNa,w5iadl4ycaibuouT5eul4Cedid+dxbuacd+dwdvu,+oW4Bau4Giuaizb4lava,G5dl4Ial5eul4haNaQ5iadk4Jedid+dxbuakacBbbud+dAdxwuecdJ+cnbuad+dzcwuiuaivb4hava,S5naaacaadaagaahaabbebgeaafabgiaajaakaalaamaaial4Uediacd+dBcvu4nau5dc4YecdccibuamhLvueLuacd+codAvu4Xau46iuaiDb4oav4ka,65dl48ajsuK5eulaj4haNa,95iadk4;ccibuamamjuMand+dDeyxvuecdJ+dEbuad+dCcwuiuaivb4hava,+bc5oaaabaacaadaaeaafaahaaiaagabhjaakaalaamaanaai"
def NP:au 1 156 NO:=av
def NQ:ao:=aw "IccecLfal4dm+doa4fp+bqaaK5dfagdl4jabgiyjM5ekahafbdk4nababgnd+dHbod+dGcmpeccJ+dEbrad+dFcqs4mat4vilailb4hava,v5naaabaacaafaagaadabfeabfhaaiaajaakaalaamaadl4xahsuK5eulqaaah4afLev4gau5iab4Bag4cau5dl4CabguouK5eulqaa4afLeu4gaK5ial4GabhLuKeLu4afLeu4gaK5i"
def NR:au 0 157 NQ:=av
def NS:ao:=aw "+blecicLjal4fm+cZam+bqb4jp+bqaaK5dl4peLfd+cmbo5epleLf4afLiq4ka55ial4teceeLfd+cOcst4sau4wirairbirc4lp+ccg4afck,va,wa,x5dfal4ZamsuK4Yau5eul41qaaam4afLiv4kau5il44cakbuacd+ddcvuau6+bYcbkburcu6alxuL43au5eul4=qaa4afLiu4ka55il4?cakbuacd+ddcvu4>au5eub4+bacbk4afbuL5l4zeceaccakbuadd+dseyxvu4oau5dc4GalanecealanhLvueLuacadjuMd+cqeBxwu4Fau4RiuaiGbhLGF4afLuw4nav5l4UamsuK5eulqaaam4afLiv4kau5iadc4+bbeceeckalhLuKeLualhLuMeLud+dreBAxuiuaivb4afLiv4kau5i"
def NT:au 0 158 NS:=av
def NU:ao:=aw "AdcgcLhal4em+cZam+bqb4hp+bqaaK5l4mecdeLed+bUclm4lan4pikaikb4jaoap5dl4rajsqK5erlqaaaj4afLgs4iat5ial4vecdaiacd+dIdwvuiuaivb4afLgv4iau5i"
def NV:au 0 159 NU:=av
def NW:ao:=aw "+bgdcgcdhal4em+doam+bqb4hp+dvhaK5l4recdeLed+dvcqr4qas4uipaipb4jp+b+c4afdita,u5dl4wajsuK5eulqhaaj4afdgv4iau5ial4Aedid+dJbu4lp+dvh4afdk,A5dl4Ccakbu5eul4Fcbkbuacd+dwdvu,+oW4Eau4Jiuaizb4mava,J5dl4Lamrcu5eulqha4afdgu4ia55ial4OcbkbualaljuMd+dKdxwucbk4afbuv5ledk4afdgu4iaK5ial4Wediacd+dBcvu4oau5dk40ecdcckbuanhLvueLuacd+csdAvu4Zau48iuaiDb4pp+dvh4afdo,74ka,85oaaabaacaadaaeaafaagaahblaiaajaakaalaamaanaadl4:ajsuK5eulqhaaj4afdgv4iau5ial4?ecdcckbuanedod+dLeywvu4>au4+bciuaiBbcck4afbuw4kav5l4+bfedkaj4afdgv4iau5i"
def NX:au 1 160 NW:=av
def NY:ao:=aw "uccecLfal4dm+doam+dvbp+bqaaK5dlcadbg5ehlecccbdbjd+cncikilailb4afLem4gan5ial4peccccdbpd+dEcoqirairb4afLes4gat5i"
def NZ:au 0 161 NY:=av
def O0:ao:=aw "1cbeal4faN5laN5dlaK5fagdl4kagaagknjl5emahadfbl4iaN5laK5dfcgddc4qaiafgqnpras6Pafaihbvubuaaaghbvubuabd+bAdzvu6altuL5euahcfdlahafaihbvubuubbuxbyzu4iau5b4NaijuM4jau5l4Pahaaaghbvubuubbuxbyzu4iau5b4WahafaiFbvbuaxbyxu4gau5b4oagjnM4hao5l41af4fau5i"
def O1:au 0 162 O0:=av
def O2:ao:=aw "Dcbeal4faK5laK5dlaK5fagdlagaakicbjbkglnhm5enahadfbl4rabaakrcbsbtaghbvubud+dNbud+dMcqurcu5eubag4gau5ab4pagjoM4hap5l4Daf4fau5i"
def O3:au 0 163 O2:=av
def O4:ao:=aw "NbbcalaN5laN5laK5l4iaaghd+dObi4gaj5dlaK5fagdl4lagafglnkm5enahadfbl4radubaaaaeaeafaghbvubujyuFbsbtbuxbyruqbbabum+cwuubbuxbiqu4eau5b4Haeafaghbvubujyu4fau5b4pagjoM4hap5l4Nad4dau5i"
def O5:au 0 164 O4:=av
def O6:ao:=aw "NbbcalaN5laN5laK5l4iaaghd+dObi4gaj5dlaK5fagdl4lagafglnkm5enahadfbl4radubaaaaeaeafaghbvubujyuFbsbtbuxbiruqbbbbum+cwuubbuxbiqu4eau5b4Haeafaghbvubujyu4fau5b4pagjoM4hap5l4Nad4dau5i"
def O7:au 0 165 O6:=av
def O8:ao:=aw "Lcbeal4faN5laN5laK5dfagdlagaaginhjak6zaaaghbmnboabd+dMcpq6allrL5esahafblafaaaghbvubuubbuxbytu4gau5b4BagjuM4hau5l4Dafabubbuxbywu4gau5l4HafaaagFbvbuaxbyxu4fau5i"
def O9:au 0 166 O8:=av
def Oa:ao:=aw "rcbeal4dmAamAbaL5lcacbfcadbhdocgiaj6xcbcblcbdbndocmo6alkpL4faq5i"
def Ob:au 0 167 Oa:=av
def Oc:ao:=aw "udadl4habrcg5ehlaakicbj4afbk:5iabaaaakmcanboacxbbpqklcas4afbtr5"
def Od:au 0 168 Oc:=av
def Oe:ao:=aw "vcab4faaabCfKag6rabIi36alhjLabGl>vemabGo8vepabverubdnqsd+cAdekt5"
def Of:au 0 169 Oe:=av
def Og:ao:=aw "hcal3k5baa3ld+cAdeOf5"
def Oh:au 0 170 Og:=av
def Oi:ao:=aw "Bcadl4habggyh,+qv5eilaakjcbk4afbl:5ialaaabgnveod+bGcmp5labgraK5faglnts5deuahadfblhbrtbu4gau5b4yaaafd+dPcvu5bjtM4uau5"
def Oj:au 0 171 Oi:=av
def Ol:ao:=aw "ibbcalaN5dlaaQad5eel4daN5ial4gubaaaxbbfg4dah5i"
def Om:au 0 172 Ol:=av
def On:ao:=aw "Scceafal4faNaL5dl4iaakhcbibjokKal6Babaakocapbqgryns6almtL5eubaad+cIcu,+oT5adlaakucbubusuK5eul4faNaL5ial4DaakucaubuabFbvabu4hau5l4JaaaakucaubuabFbvbuakAcau4afbuw5lag4fauaO5i"
def Oo:au 0 173 On:=av
def Oq:ao:=aw "rcbeal4faN5l4jaaaaabd+dQcjkd+cFcil4iam4oihaihb4ganao5l4qafd+cEbp4faq5i"
def Ot:au 0 174 Oq:=av
def Ou:ao:=aw "GbbccLlp+bqa5l4haad+dRbgqabaGh4ep+bqa4afLdi5l4kaad+dQcj3cId4afblk5laad+dQcm3cJd4afbon5dlcGdcapcGdcbrcKdubdqstguaK5faglnuv5deuahadfblhbxvbu4gau5b4Bafaad+c=cuQkw4afbuv5bjBM4xau5l4GeLd4afLcu5i"
def Ov:au 0 175 Ou:=av
def Ow:ao:=aw "ncal4faakecbfbgohK5eibaaabkjcbl4afbmk5a"
def Ox:au 0 176 Ow:=av
def Oy:ao:=aw "hbbccGlp+bge5laaBbbdd+cYc,+oXed+b0bf4afGcg5i"
def Oz:au 1 177 Oy:=av
def OA:ao:=aw "+btbbcal4cm+b+aaN5l4icabbhcbbbjgkvelBbcim4ean5dlaK5fagdl4paecbbbpgqnor5esahadfbl4wadcbbbuaehcvucbubud+dSbuwbbBu4eau5b4Fadcbbbuaehcvucaubud+b3buwbbBu4eau5b4uaejtM4fau5l4OadccbbuguveuBbbuwbbzu4eau5dl4gaK5fcgdl4Vafccbbugunxu5euahcdfdl42ccbbuafhLvueLu4hp+bqa4afLg,55l47adcag3mwbbwu4eau5l4;adcIgbud+b2buwbbxu4eau5l4*adcJgbud+b2buwbbxu4eau5l4+bcadcGgcaubud+b3buwbbyu4eau5l4+biadcGgcbubud+b3buwbbyu4eau5b4+boadcKgbud+b3buwbbxu4eau5b40afjuM4gau5l4+btad4dau5i"
def OB:au 1 178 OA:=av
def OC:ao:=aw "+bmcbeccl4dmAamAbpAb5dk4kecccacbkgldPcjmecdcadbpgqdPcor4ganas5maaabaacaadaafaagaahaaiaaeacfhjaakaalaadl4uafat6Ragrcu6alwuL5eulecc4afceu5iadlagau63afrcu6alwuL5eulecd4afceu5iadlafrcuau6*cacbugucadbugusxu6alBOu5eulqba4afceu5ial4ipAb5dlaK5fagdl4Saicacbugunxu5euahadfbdc4ZcahbucacbuaihbvubucadbuaihbvubuOadzuubbuxbiGucah4afbuv5ccbhbucbcbuaihbvubucbdbuaihbvubuObdzuubbuxbiGucbh4afbuv5b4XaijuM4jau5l4+bmech4afceu5i"
def OD:au 0 179 OC:=av
def OE:ao:=aw "jcbeal4faL5laaabd+dTcfgChK4fai5i"
def OF:au 0 180 OE:=av
def OG:ao:=aw "ibbdal4eaL5laagebbsfg4eah5i"
def Bp:au 0 181 OG:=av
def OH:ao:=aw "Gcdeccfagal4dm+cZam+bqbp+ccgaNaK5l4lcacbkeLdcbcbnd+bcdlmo4kap4rijaijb4ip+b+c4afdhqar5dl4taissKat6QcahbusuV6alxOu5eulqga4afceu4gaNaZ5iadk4BcbhbuhcuKecucchbu4afcew4gauaK5jaaabaacaadaaeaafaagabfhaaiaai"
def OI:au 0 182 OH:=av
def OJ:ao:=aw "ucbeal4faK5l4iaad+d4bh4gai5l4kabd+d4bj4hak5dl4maf5eldlag5eml4faK5ial4faX5iadl4oag5enl4faM5iadl4paaabnop5eql4faX5iadl4saaabyrs5etl4faM5ial4faK5i"
def OK:au 0 185 OJ:=av
def OL:ao:=aw "eabaal4baP5ld+d5aqybaibm+eZc4bad5i"
def OM:au 0 186 OL:=av
def ON:ao:=aw "Zcadl4gaakfcjgbhoi15ejbaad+d5akkcam4afinl5alaakocjpbqabgsvhtjrukocju4afbuw5lubaaakuciubuxbbyuabxbbvu4fau5dfagdl4HaeguCuY5euahafbdcaaaakucaueiuaeFbuabYd+d6cwukBcau4afiuw5baeFbubYa4fau5b4Waaaekvciu4afbuw5"
def OO:au 0 187 ON:=av
def OP:ao:=aw "+bmbbccGlp+bge5l4jaakicajeik4ep+eWl4afidl5dl4naakmcjnboop15eqbd+d5a4afidr5alubaaaktciubuxbbsuubb,+oYxbbvu4fau5dfagdl4BaeguKuYsu=5euahafbbaeubb0xbbvu4fau5l4IaeaakucjubuE8ud+d7buxbbAu4fau5dfcgdl4QaeguyuK5euahcdfdc4VeidaeFbuabYd+d6cwu4afidu5b4TaeFbubYa4fau5lp+bge5dl4ZeidaK5feglnuQ5deuahedfflav3n4hava,25b44agERuagERujuMagERujuSagERujuWahGu,+oZveuahGu>veuahGu8veuahveuzbGf,44afbuDzbGf,74afbuBzbGf,:4afbuzzbGfI4afbuy5bj,ZM40au5l4+bmeGf4afGcu5i"
def OQ:au 0 188 OP:=av
def OR:ao:=aw "Acbeal4faN5l4jaaubbi4gaj5dl4labgkaK5faglnml5denahadfblhbkmbo4iap5b4rafahgrvhsd+d7btxbbquahxbbvu4gau5b4zjmM4nau5l4Aaf4fau5i"
def OS:au 0 189 OR:=av
def OT:ao:=aw "+bhcbecGl4fp+bge5l4nBbaaawbbmnBbb,+oYwbbop4gaq5dfagdl4safgrKsYst=5euahafbbafBbb0wbbvu4gau5l4zaaguvhuE8u4hau5dlaK5fcgdl4DahnuQ5euahcdfdb4HafagahEQuA=uvhuGyuKu?veuBbbuwbbDu4gau5b4FahjuM4iau5l4SBbi,+o0,+o1,+o2,+o3,+o4,+o5,+o6,+o74jau5dlaK5fegdl4Tajafgunwu5euahedffb4ZaiafajajjuYFbxbwbuabd+d8dAvu4jau5b4XajjuY4kau5lp+bge5dlaK5fggdl47alnu,+oP5euahgdfhb4;alaialMuRhbwubualKuREQuA,+qwuvhuGzuKu,+o8veuzbGkH4afbuv5b49aljuM4mau5l4+bheGk4afGeu5i"
def OU:au 1 190 OT:=av
def OV:ao:=aw "cabaal4baN5lBb<,+o9,+o:,+o;,+o<,+o=,+o>,+o?,+o*,+o+,+o,,+pa,+pb,+pc,+pd,+pe,+pf,+pg,+ph,+pi,+pj,+pk,+pl,+pm,+pn,+po,+pp,+pq,+pr,+ps,+pt,+pu,+pv,+pw,+px,+py,+pz,+pA,+pB,+pC,+pD,+pE,+pF,+pG,+pH,+pI,+pJ,+pK,+pL,+pM,+pN,+pO,+pP,+pQ,+pR,+pS,+pT,+pU,+pV,+pW,+pX,+pY,+pZ,+p0,+p14bab5i"
def OW:au 1 191 OV:=av
def OX:ao:=aw "Tcbeal4faN5l4kaaBbbj4gak5dlaK5fagdl4magabgmnln5eoahadfbl4sabaghbrsbtguvhu4iau5dlaK5fcgdl4yainuQ5euahcdfdb4CafahaiEQuA=uvhuGyuKu?veuBbbuwbbDu4gau5b4AaijuM4jau5b4Nafabaghbvubuwbbyu4gau5b4qagjpM4haq5l4Taf4fau5i"
def OY:au 1 192 OX:=av
def OZ:ao:=aw "xbbcalaN5l4haavhgjh;4eai5l4k2bbzQQ4faj5dla75fagdl4lafCkK5elahadfbl4paeafadKq?verhbop4afbts5badMu?4eau5b4nafAmM4gan5l4xae4dau5i"
def P0:au 1 193 OZ:=av
def P1:ao:=aw "pcbeal4faL5dl4haaaK5faglnhg5deiahadfblah4gaj5l4labafLkblrcm5enl4faL5iab4pjhM4iao5l4faO5i"
def P2:au 0 194 P1:=av
def P3:ao:=aw "pbbdal4eaL5dccabbeaahbfgbhcbbbjaahbklbmIin4eao5i"
def P4:au 0 195 P3:=av
def P5:ao:=aw "rcbeal4dmAamAbaL5lecccacbgghd+b4cfiaj6xecdcacbmgnd+b4clo6alkpL4faq5i"
def P6:au 0 196 P5:=av
def P7:ao:=aw "pcbeal4dmAamAbaL5leccecdd+c2cfgah6tcacbjgkJ+d9accdd+c0clm6alinL4fao5i"
def P8:au 0 198 P7:=av
def P9:ao:=aw "kbbcccl4cmAapAb5dkcabbdd+dbbecbbbgd+dbbhqbcabfbbi4afccj5iaaabaadaaeaacabefaagaahaai"
def Pa:au 1 199 P9:=av
def Pb:ao:=aw "hbbccclp+b9f5laavhdDe;qfbbbf4afccg5i"
def Pc:au 0 200 Pb:=av
def Pd:ao:=aw "Wdbgal4emCamAb4haL5l4oeddeced+b9cno4nap4rimaimbimc4ip+b9f4afchqaras5l4veddacd+d?cvu4uau4yitaitb4lp+b9f4afck,xa,y5dc4AajouKau65alouK6alwuLau6=acgucaebuguoxu6alAuLau6+bkeckachbuKbuechaid+d*ezwvu6alBuL4hau5i"
def Pe:au 0 205 Pd:=av
def Pf:ao:=aw "mbbcalaL5l4faad+bMbe4eaf5dl4hadygV5ehbaad+cIciZ5aladokV4dal5i"
def Pg:au 0 206 Pf:=av
def Ph:ao:=aw "Lcbeal4faN5l4jaad+bMbivdj4gak5dl4mafabylm5enbaad+cIco:5al4haN5dl4rafaK5faglnrq5desahadfblaad+d+bt4iau5l4waakucbubuouK5eubagahubbuxbiwu4hau5ab4FjrM4sau5dl4GaakucbubusuK5eul4faN5ial4Lag4fau5i"
def Pj:au 0 207 Ph:=av
def Pk:ao:=aw "EcbecLl4fp+bqa5l4haad+dRbgqabaGh4gp+bqa4afLfi5l4kaad+dQcj3cIf4afblk5laad+dQcm3cJf4afbon5laaabd+c=cpqcGfcas4afbtr5laaabd+c=cvucGfcbu4afbuw5laaabd+c=cvucKf4afbuv5leLf4afLeu5i"
def Pl:au 0 208 Pk:=av
def Pm:ao:=aw "+bucbeal4dm+b+amdbaL5dlbdnfMag6qbdyiQ6alhOjak6ycbcbmJ+eaabdd+d,cnorcp6allOqar6McccbtJ+ecabdd+ebcvurcu6alsOu5eul4faL5iadl4Acacbu5fal4DouV4Cau5eul4EcbcbuguouMau6+a+cccbuguouS6alyuLau6+bkcccbud+ebcu,+qx6alxuL4fau5il4Uo,AT4Tau5eul4VcbcbuguCuMau6+bGcbcbuguIuR6alyuLau6+bScccbuguouK6alyuLau6+b4cbcbud+d,cu,+qy6alxuL4fau5il4+a+o,AU4*au5eul4+a,cbcbuguouKau6+chcccbuguCuS6alyuLau6+ctcccbuguIuR6alyuLau6+cFcccbuJ+efabdd+ebcvu6alyuL4fau5ial4faL5i"
def Pn:au 0 209 Pm:=av
def Po:ao:=aw "+bqcceafal4dm+b+a4faNaK5dl4medcabd+c?clmrcn5eol4faNaM5ial4qqjam+cKp4haq5l4sagcacbsd+bGcrt5lagcbcbuguveud+bGcyu5dlcbcbuguaK5faglnuv5deuahadfblhcxvecu4jp+ccg4afci,H5l4Jagcbibud+egcwu5bagcaibud+cDcwu5bjFM4Fau5l4Sagcccbuguveud+bGcyu5dlcccbuguaK5fcglnuv5deuahcdfdlhLxveLu4lp+bqa4afLk,35l45agcakeGud+cCcwu5lagcIkbud+cBcwu5lagcJkbud+cBcwu5lagcGkcaubud+cDcxu5lagcGkcbubud+cDcxu5bagcKkbud+cDcwu5bj,0M41au5l4+bnagd+bJbuagd+bKbu4fawa,+bp5i"
def Pp:au 0 210 Po:=av
def Pq:ao:=aw "gbbccGlp+bge5laad+ehbdd+bYbe4afGcf5i"
def Pr:au 0 211 Pq:=av
def Ps:ao:=aw "+brcbeccl4dmAamAbpAb5dk4kecccacbkgld+b4cjmecdcadbpgqd+b4cor4ganas5maaabaacaadaafaagaahaaiaaeacfhjaakaalaadfal4vafau6Tagrcu6alwuL4uau5etl4Aeccd+c5bu4afceu5il4Dagau69afrcu6alwuL4Cau5eul4Iecdd+c5bu4afceu5il4Lafrcuau6+bhcacbugucadbugusxu6alBOu4Kau5eul4Wqba4afceu5ialeccd+c5bu4ipAb4afch,X5dl4ZcahbuguaK5fbglnuv5deuahbdfclav4jau5k45cahbuaicbhbuaicacbuaihbvubucadbuaihbvubuOadzucbcbuaihbvubucbdbuaihbvubuObdzuhb,5,64afbuGhb,8,94afbuw5GaaabaacaadaaeaafaagaahaaiaajaakaalaamaanaaoaapaaqaaraasaataauaavaawaaxaayaazaaAaaBaaCaaDabeEaaFaabj,1M42au5l4+brech4afceu5i"
def Pt:au 1 212 Ps:=av
def Pu:ao:=aw "rbbccclpAb5dlaagdneMaf6oaaghyiQ6algOj5eklqba4afccl5ialaad+dbbmaad+dbboqbcabnbbp4afccq5i"
def Pv:au 0 213 Pu:=av
def Pw:ao:=aw "ibbcalaN5dlaaQad5eel4daN5ial4gBbaaawbifg4dah5i"
def Px:au 1 214 Pw:=av
def Py:ao:=aw "rcbeal4dmAamAbaL5lcacbfcadbhd+ddcgiaj6xcbcblcbdbnd+ddcmo6alkpL4faq5i"
def Pz:au 0 215 Py:=av
def PA:ao:=aw "Acbeal4faL5dl4haaggabgishj5ekl4faL5iadl4maaglaK5faglnnm5deoahadfblan4gap5dc4raaafhbqrbsabafhbvubustu5eul4faL5iab4AjnM4oau5l4faO5i"
def PC:au 0 216 PA:=av
def PD:ao:=aw "Bbbeal4faL5dccabbfaahbghbibcaahbklbmIjnao6HbcaahbqrbscbbbuaahbvubuItu6alpuL4fau5i"
def PE:au 0 217 PD:=av
def PF:ao:=aw "qcbfal4gaK5dfal4iedcaaabd+dhdhij4hak5egl4gaX5il4nedcabaad+dhdmno4map5ell4gaM5ial4gaK5i"
def PG:au 0 219 PF:=av
def PH:ao:=aw "Vdbgal4emCa4haL5l4neddabd+d?cmn4mao4qilailb4ip+b9f4afchpaq5l4teddacd+d?cst4sau4wirairb4kp+b9f4afcj,va,w5dc4yaiouKau61akouK6alwuLau69abguacguowu6alzuLau6+beechabhbuKbuecjachbuKbud+d*eByxu6alDuL4hau5i"
def PI:au 0 220 PH:=av
def PJ:ao:=aw "Zcceafal4fa1a15l4paaNo,+oQ4hap5l4raaGq94iar5l4tabNs,+oQ4jat5l4vabGu94kau5l4xagaiEvu4lau5l4AahaiEvuakGu9jwu4mau5l4GalNu,+oQ4nau5l4IalGu94oau5l4KamagajEvujxu4nau5l4PahajEvuanjvuamGu9jwu4fau5l4XaaabEvu4gau5i"
def PK:au 0 222 PJ:=av
def PL:ao:=aw "tcbeal4faK5dl4haaggaK5faglnih5dejahadfblai4gak5l4mabaaafhbmnboolp5eqlaf4far5iab4tjiM4jas5l4faX5i"
def PM:au 0 224 PL:=av
def PN:ao:=aw "Xcbeal4dm+bqa4faL5dfal4heLcd+cmbg4gah5efl4faO5il4kcJcbjnkMal6AcJcbnyo36almOpaq6KcIcbsntK6alrOuau6UcIcbucJcbuywu6alzOu4jau5eil4faL5il4FcIcbuouK4Eau5eul4IcGccaubuguouKau6+bicGccbubuguouK6alzuL4fau5ial4UcGcecuabd+b4cvu4fau5i"
def PO:au 0 225 PN:=av
def PQ:ao:=aw "odcgahal4gm+ejcaKaL5laaabJ+emabfd+eldijkilailb4haman5i"
def PR:au 0 226 PQ:=av
def PT:ao:=aw "fbbcal4cm+bsaa,+qz5lcabbd4dae5i"
def PU:au 0 227 PT:=av
def PV:ao:=aw "xecicLjal4fm+cZam+ccbm+bqcm+bqdp+bqaaK5lcaebkecfucbmeLgeLhuLcopqcdabVbbncbqcbebsd+dudlrtiuaivb4afLiv4kau5i"
def PW:au 0 230 PV:=av
def PX:ao:=aw "qebial4fm+cZa4jaK5dleceadd+epcjkabacLlcmnnoK5epl4jaK5ial4jaM5i"
def PY:au 0 231 PX:=av
def PZ:ao:=aw "ibbdal4eaL5laagebbsfg4eah5i"
def Q0:au 0 232 PZ:=av
def Q1:ao:=aw "GdcgcLhalm+b+b4hp+bqaaK5l4oedeacd+b?cno4nap4rimaimb4jp+bqa4afLiqar5dl4tajssK5etlqaaaj4afLgv4iau5ial4yedeacd+c*cvu4xau4Biuaiyb4lava,B5l4Daaakd+eqcvu5leLi4afLgu4iaK5i"
def Q2:au 0 233 Q1:=av
def Q3:ao:=aw "Fccecdfal4dm+doam+bqbp+b+caK5l4kcacbjeLdcbcbmd+bcdkln4jao4qiiaiib4hp+b+c4afdgpaq5dl4sahsrKas6OcagbusuTau6XcagbusuU6OlxuL6altOu5eulqca4afdeu4gaZ5ial4Fedg4afdeu4gaK5i"
def Q4:au 0 234 Q3:=av
def Q5:ao:=aw "Xdcgahal4haKaL5l4naagm4jan5l4pai4kaKao5dfagdl4qajaknpq5erahafblajakjstvhuGu,+p2vdu4mau5l4zacaaalhbvubuabLzcvunuK5eubaljuM4kau5b4Jal4lau5l4Kajajainvuau6+bkacaaajhbvubuabLzcvuouK6alCuL4haHa,W5i"
def Q6:au 0 235 Q5:=av
def Q7:ao:=aw "ubbcal4cm+b+aaN5laN5dl4hcbbbgghaK5faglnji5dekahadfblhchjecl4gp+ccg4afcfm5b4oadcafboBbbpwbynq4ear5b4tjjM4kas5l4uad4dat5i"
def Q8:au 1 236 Q7:=av
def Q9:ao:=aw "ncbeal4faK5dfal4haaabd+ercgh4gai5efl4faX5il4labaad+erckl4kam5ejl4faM5ial4faK5i"
def Qa:au 0 237 Q9:=av
def Qb:ao:=aw "pcceafal4faNaK5laaaaghd+dHbid+etcgjabd+escklimaimb4fanao5i"
def Qc:au 0 238 Qb:=av
def Qd:ao:=aw "+bydbgal4haN5l4laaabtbkblaa5lacgn4iao5dl4qahopK5eqlaa4har5ial4taags4jat5dl4vabaiovu5eulaaacwbyvu4hau5iadl4BaiahjvuaaUuywu5eulaaabtbvabuaaiahjvuabAvuYbynzu4kau5l4QajabtbvbuaaacHbvu5dcajabahjvutbxbuaaaaabtbvbuaaHbxu5laj4hau5ial45aaaiahjvutbxabua4bau5dl4:acaaabahjvutbxbuaaZzurcu5eudcaaabahjvutbxbuaaaaabtbvbuaaHbxu5laaabtbvbuaaacHbvu5laa4hau5ial4+boaaaitbvbuaaacHbvu5laaabtbvbuaaahd+evcvu5laa4hau5i"
def Qe:au 6 239 Qd:=av
def Qf:ao:=aw "Bcbeal4dm+b+a4faK5laK5dfagdlafjgMcccbigjnhkal6BabcccboafjqMhLprcKsbtd+ercnurcu6almuL5euahafbbafjuM4gau5l4Baf4fau5i"
def Qg:au 0 240 Qf:=av
def Qh:ao:=aw "pcceafal4faNaK5laaaaghd+dHbid+dGcgjabd+dFcklimaimb4fanao5i"
def Qi:au 0 241 Qh:=av
def Qj:ao:=aw "+dlebial4jaN5l4qaaabactLpbqbra5dlabacotu5eulaaabadd+ewdwvu4jau5iadl4Bacaaguowu5eulaaabtLvabuaadwL+bXvu4kau5dl4Kajguaagunwu5eubaaajgutLwbuaa4a1Lau5alaj4jau5iadc4UaaabtLvabuaguadgujwuaaactLvbuaagujyu4lau5dl46akaaUuywu5eulaaabtLvabuaakabAvuYL+bXaxu4mau5l4+a+alabtLvbuaaadHLvu5dcalabadgujwutLybuaaaaactLvbuaaHLxu5lal4jau5ial4+boaaaktLvabua4nau5dl4+brabadgujwuacIvu5eulamabtLvbuaaadHLvu5dcamabadgujwutLybuaaaaactLvbuaaHLxu5laaaktLvbuaa4a1Lau5lam4jau5iadl4+bQamabadgujwutLybuaaadZvurcu5eudcamabadgujwutLybuaaaaactLvbuaaHLxu5lamabtLvbuaaadHLvu5lam4jau5ial4+b?adguacabAvuAxu4oau5dl4+ccamabactLwbvbuaadZvurcu5eudcamabactLwbvbuaadantLvbuaaHLxu5dcamaagutLwbuaaadantLvabuaHLxu5lamabtLvbuaaand+eycvu5lam4jau5iadl4+cFamaagutLwbuaaadZvurcu5eudcamaagutLwbuaaadantLvabuaHLxu5dcamabactLwbvbuaadantLvbuaaHLxu5lamabtLvbuaaand+eycvu5lam4jau5ial4+c8adaaactLvbuaad+ezcxu4pau5l4+c=amabtLvbuaaadHLvu5dcamabadgujwutLybuaaamabaojvutLxbuaaHLzu5lam4jau5i"
def Bq:au 6 242 Qj:=av
def Qk:ao:=aw "pccecLfal4dm+doa4fp+bqaaK5lcacbgabqccabUcbicbcbkd+dudhjlimaimb4afLen4gao5i"
def Ql:au 0 243 Qk:=av
def Qm:ao:=aw "Gcceafal4faNaK5laN5dl4maaglaK5faglnnm5deoahadfblhblnbp4jaq5l4tabaiLsbt4sau4wirairb4kp+bqa4afLj,va,w5dl4yaksuK5eulak4faNa,z5iab4BageLjBLbuwL+bXwu4hau5b4FjnM4oau5l4Gag4fauaK5i"
def Qn:au 1 244 Qm:=av
def Qo:ao:=aw "Ncbeal4faN5laN5dl4jabaK5faglnji5dekahadfblaj4hal5l4naagmabagAopMnq4iar5dl4taagsabagAvuKtuyuK5eubahjuM4iau5al4CafaaahFLvabud+eAbuubbuxbyzu4gau5b4JaaahFLvbua4bau5b4MjjM4kau5l4Naf4fau5i"
def Qp:au 0 245 Qo:=av
def Qq:ao:=aw "hbbcalaK5laajdRAeMMfR4dag5i"
def Qr:au 0 246 Qq:=av
def Qs:ao:=aw ">dcgcLhal4em+cZa4hp+bqaaK5dl4nabgmonK5eolqaa4afLgp4iaK5ial4rabd+eBbq4car5l4tabecdacd+epctud+bVcsu5labguMuS4jau5dk4CecdabaitbvabuaacjuMd+dIdzwu4Bau4JiuaiCb4kp+bqa4afLj,Ia,J5naaabaacaadaaeaafaagbkahaaiaajaakaalaamaadl4LaksuK5eulqaaak4afLgv4iau5iadk4QecdabaijuMtbwbuaaacjuMd+dIdAwu4Pau4YiuaiDb4mp+bqa4afLl,X4la,Y5oaaabaacaadaaeaafaagaahblaiaajaakaalaamaanaadl40aksuK5eulqaaak4afLgv4iau5iadc44ecdabaihbvubuqgcabubbOeLjeLld+dreBwvuiuaivb4afLgv4iau5i"
def Br:au 6 247 Qs:=av
def Qt:ao:=aw "lbbccdl4cm+b+ap+dvh5dkcabbdoeTedbd+dxbgccbbiqhdabfbbhcbj4afdck5jaaabaacaadaafaagaaeacbghaaiaai"
def Qu:au 0 248 Qt:=av
def Qv:ao:=aw "Hdbgal4haN5l4jaaabacaagltbibjbkbm5dlabacoop5eqlaa4har5ial4taags4iat5dc4vaaabtbvabuaaaactbvbuaawbyxu4bau5l4Caaaaguahtbxbvbua4a1bnu5laa4hau5i"
def Qw:au 6 249 Qv:=av
def Qx:ao:=aw "+bfeciajal4fm+doa4im+dvdaNaK5dl4uedhd+eCbtrcu5eul4yeceedhd+ctcvu4xau4Biuaiyb4lp+bqa4afLk,Aa,B5l4DabaceLkhLwv4afLuv5labal4java,H5ial4JacAuMObduK4nau5l4Mam4oau5dl4NacouK5eub4oaM5adk4QeceabanhLvueLud+dvcyu4Pau4WiuaiBb4pp+b+c4afdo,Va,W5maaabaacaadaaeaafbjagaahaaiaajaakaalaadl4YapsuK5eulap4jaNa,Z5iadk41edod+dJbuedh4rp+dvhp+dvh4afdq,14afdr,25haaacaabcdebcdbeaeaafabcgaadl44acouK5eukedhedod+dJbu4afdqw4afdru5faaabaacabadaaeaaal4:eceedqedrd+eDdwvu49au4>iuaizb4tav4qa,>5dl4*apsuK5eulap4jaNa,+a+5ial4+baabamamjuSasd+dDeyxvu4jauaK5i"
def Qy:au 1 250 Qx:=av
def Qz:ao:=aw "kcbeal4faL5laad+eFbfabd+eFbhd+eEcgi4faj5i"
def QA:au 0 251 Qz:=av
def QB:ao:=aw "hbbcalaN5laad+bxbdhbeKbf4dag5i"
def QC:au 0 252 QB:=av
def QD:ao:=aw "JbbcalaN5l4iaaMhR4eai5dl4kadERjaankl5embadjnM4eao5alaN5dlaK5fagdl4qafadnpq5erahadfbl4vaaadMvu4hau5dl4yafaaadKvunxu5eubagjuM4hau5ab4Faeagubbuxbiwu4fau5b4tafjsM4gat5l4Jae4dau5i"
def QE:au 0 253 QD:=av
def QF:ao:=aw "tcal4habvhgDh;4fai5la=5fagdl4kafCjK5ekahadfbb4oaaaeafGopveqd+bGcnr5b4mafAlQ4gam5"
def QG:au 0 254 QF:=av
def QH:ao:=aw "Mcbeal4faK5l4kaad+cFcjW4jak4miiaiib4galam5dl4oagrcn5eol4faK5iadc4qafhbpKbqvdrRs>afhbuMbuvduRu8StuafhbuSbuvduSyu4iau5dl4GahabOadu3ywu5eulaad+cIcu:5l4faK5ial4Mah4fau5i"
def QI:au 0 255 QH:=av
def QJ:ao:=aw "pbbccGlp+bge5lp+bge5l4iaad+cFch,+oP4hai4kigaigb4fajak5l4m3oae3p5leGd4afGco5i"
def QK:au 0 256 QJ:=av
def QL:ao:=aw "gbbcalaN5dlaa5edlBbbV4dae5ial4gBbb04daf5i"
def QM:au 1 257 QL:=av
def QN:ao:=aw "tcbeal4faK5dl4haaggaK5faglnih5dejahadfblai4gak5l4mabaaafhbmnboLlbp5eqlaf4far5iab4tjiM4jas5l4faX5i"
def QO:au 0 258 QN:=av
def QP:ao:=aw "gbbcalaL5laaaasde4daf5i"
def QQ:au 0 269 QP:=av
def QR:ao:=aw "cabacil4bp+eWl5lqliab,+o0bb,+o1cb,+o2db,+o3eb,+o4fb,+o5gb,+o6hb,+o74afiab5i"
def QS:au 0 270 QR:=av
def QT:ao:=aw "+bYcbecil4dm+eWa4fp+eWl5dk4pabd+eLbod+eMaeic4gp+ftmp+ftmp+eWl4af<fp4af<gq4afihr5kaaadaabdefgbdcdefgbdecfgafbgagaahabdiabdjaadl4taK5faglnsY5detahadfblas4jau5dk4wzbihRbud+eNcu,+qCzbihRbud+eNcu,+qDDxuzbihRbud+eNcu,+qEDxu4kau5maaabaadaaeaahaaiaacaceifabigaajaakaalaadc4Hzbih7buajjvuzbihRbuzbih<buNwuzbihRburbuzbih4buNwuDAujGuaizb<gubujxuaizb<fubujxu4lau5dk46zbihKbud+eNcu,+qFzbihKbud+eNcu,+qGDxuzbihKbud+eNcu,+qHDxu4mau5maaabaadaaeaahaaiaacaceifabigaajaakaalaal4+a+alzbihKbuzbihMbuNwuzbihKbuzbihSbuNwuDzuzbihMbuzbihSbuNwuDzuj,*u4nau5b4+brakamjvuzbihKbuzbihMbuzbihSbuzbihWbuakjvuzbihRbuzbih<buzbih4buqliab,+bsbbIcbGdbEebAfbygbwhbu4afihu5bjsM4tau5dl4+bMaK5fcglnuQ5deuahcdfdlav4oau5c4+bPanzbihubuanzbicubujxuzbihA4afbuv5bjEM4+bMau5l4+bYeih4afieu5i"
def QU:au 0 271 QT:=av
def QV:ao:=aw "rbbcalaN5laN5dla=5fagdlaeCfK5egahadfbb4kadaaaeGklvemubbnxbbjo4eap5b4iaeAhQ4fai5l4rad4daq5i"
def QW:au 0 272 QV:=av
def QX:ao:=aw "+dpdbgal4haN5l4v2beAYY4iau5dlaK5fagdl4wainu25euahadfbl4kaK5fcgdl4AajnuR5euahcdfdc4EahaiahaihbvubuE,+o8uabaiERuajjvuhbyubuvgujCuhbJI4afbuv5b4CajjuM4kau5b4yaijuM4jau5dl4la25fegdl4VaknuY5euahedffdc4ZahakAu,+p3hbwubuahakAuShbwubu4maza,75k49ahakahakAu2hbwubuald+eOcu,+qIald+eOcu,+qJDwualMu,+qKDwujCuahakAu7hbwubujzuamd+eOcu,+qLamd+eOcu,+qMDwuamMu,+qNDwujCuhb,8,94afbuv5HaaabaacaadaaeaafaagaahaajaamaanaaqaaraasaataauaawaayaaBaaCaaiacgukacgulaaoaapaavaaxacguzacguAaaDaaEaaFaaGaab4XakjuM4lau5l4+bwBbaaawbevu4oau5dlaK5fggdl4+bzaonuY5euahgdfhdc4+bDanhbuRbuanhbu<buNxuanhbuRbuA,+qOuanhbu4buNxuDCu4qau5dk4+bTanhbu7buanhbuRbud+eOcu,+qPanhbuRbud+eOcu,+qQDyuanhbuRbud+eOcu,+qRDyujIuapjvuacaohbvubujyuahaohbvubujyu4rau5FaaabaacaadaaeaafaahaaiaajaamaanaaoaasaauaavaawaaxaazaaAaaBaaCaagafcjoxCkaecoxClaapadcxCqaaraataayaaDaaEaadc4+ceanhbuKbuanhbuMbuNxuanhbuKbuanhbuSbuNxuDBuanhbuMbuanhbuSbuNxuDBu4sau5dk4+cBanhbuKbud+eOcu,+p4anhbuKbud+eOcu,+qSDyuanhbuKbud+eOcu,+qTDyuarjvu4tau5raaabaacaaeaafaagaajaakaalaaoaadacglhabliaamaanaapaaqaac4+cRaqasjvuanhbuKbuanhbuMbuanhbuSbuanhbuWbuaqjvuanhbuRbuanhbu<buanhbu4buBbi,+cS,+cV,+cYIDAxu4oau5b4+bBaojuM4pau5dl4uaK5figdl4+c,atnuQ5euahidfjc4+ddanatanathbvubuaaathbvubujyuhbED4afbuv5b4+dbatjuM4uau5l4+dpan4hau5i"
def QY:au 1 273 QX:=av
def QZ:ao:=aw "Dbbeal4faL5dccabbfaahbghbicbcbkaahblmbnIjoap6JcacbraahbstbucbbbuaahbvubuIzu6alquL4fau5i"
def R0:au 0 274 QZ:=av
def R1:ao:=aw "Lcceccfal4dmCa4fp+b9faK5dledcabghd+b5cgircj5eklqfa4afcel4gaM5iadl4ncacbm5fal4qonT4pap5eol4rabcbcbrhbqsbtd+c7bu4afceu4gaK5il4yonU4xau5eudc4zabFbubMacccbud+eScwuiuaivb4afcev4gau5ial4Gabcbcbuhbwubud+c6bu4afceu4gaK5i"
def R2:au 0 280 R1:=av
def R3:ao:=aw "uebial4fm+b9a4hm+b9c4jaL5dl4leceecgd+b;ckl4kam5l4oajsnK5eolajnpK4jaq5ial4sabadnrs4jat5i"
def R4:au 0 281 R3:=av
def R5:ao:=aw "EbbcalaK5l4kaad+cFcjQ4jak4miiaiib4ealam5dl4oaercn5eol4daK5ial4ga15dl4qadgpaK5faglnrq5desahadfblhbprbt4iau5b4wafRu8ahvhuSwu4gau5b4BjrM4sau5l4CafDu;vdu4dau5i"
def R6:au 0 282 R5:=av
def R7:ao:=aw "jcbealm+e:baL5laaJ+eUabdd+eTcfgrch4fai5i"
def R8:au 0 283 R7:=av
def R9:ao:=aw "jbbdalm+ccaaL5lcacbegfbbogh4eai5i"
def Ra:au 0 284 R9:=av
def Rb:ao:=aw "jcbealm+b=baL5laaJ+eWabdd+eVcfgrch4fai5i"
def Rc:au 0 285 Rb:=av
def Re:ao:=aw "hbbdalm+bqaaL5leLcbbd+dmcef4eag5i"
def Rf:au 0 286 Re:=av
def Rg:ao:=aw "hbbcal4cm+bqaaL5lcKbbdgeofK4dag5i"
def Rh:au 0 287 Rg:=av
def Ri:ao:=aw "fbbcal4cm+ccaaL5lcbbbd4dae5i"
def Rj:au 0 288 Ri:=av
def Rk:ao:=aw "obbdalm+bqaaL5lcKcbegfbboghai6veLcd+cmbkrcl6aljmL4ean5i"
def Rl:au 0 289 Rk:=av
def Rm:ao:=aw "jcadl4fab5eelaad+bGcfV5iabaad+bGch05"
def Rn:au 0 290 Rm:=av
def Ro:ao:=aw "gbbcalaN5laaubbdd+cVc,+oXe4daf5i"
def Rp:au 0 291 Ro:=av
def Rq:ao:=aw "Xdcgahal4haKaL5l4naagm4jan5l4pai4kaKao5dfagdl4qajaknpq5erahafblajakjstvhuGu,+p2vdu4mau5l4zacaaalh+bfvue+bfuabLzcvunuK5eubaljuM4kau5b4Jal4lau5l4Kajajainvuau6+bkacaaajh+bfvue+bfuabLzcvuouK6alCuL4haHa,W5i"
def Rr:au 0 295 Rq:=av
def Rs:ao:=aw "lcbfalm+bsa4gaK5lbce+bfdLgbhabd+encij4gak5i"
def Rt:au 0 296 Rs:=av
def Ru:ao:=aw "ucbeal4faK5l4iaad+eYbh4gai5l4kabd+eYbj4hak5dl4maf5eldlag5eml4faK5ial4faX5iadl4oag5enl4faM5iadl4paaabnop5eql4faX5iadl4saaabyrs5etl4faM5ial4faK5i"
def Rv:au 0 297 Ru:=av
def Rw:ao:=aw "lcbeal4dm+cZa4fa,+qU5l4habcbcbhKgi4gpdt4afbfj5l4lJ+e0abf4fak5i"
def Rx:au 0 299 Rw:=av
def Ry:ao:=aw "2cbecGl4fp+bge5l4jabd+c+bi4gp+bge4afGfj5ddc4maaklcambneGf3r4laq4sikaikb4haras5fal4vahrcu4uau5etk4xaakucaubueGfabd+bDbu4a3s5iaaabaacaadaaeaafaagacdehaal4Faakucduburcuau6+bcagabd+e1cvurcu6alyuL4Eau5eub4Qaaaaaaagabd+bDbukzcbu4afbuykAccu4afbuykBcdu4afbuO5aleGf4afGeu5i"
def Rz:au 0 300 Ry:=av
def RA:ao:=aw "6cbeal4faL5dl4kaagjd+e2bkrclam6Cabgoaagqspr6alnOs5etl4faL5ialaKa15dl4vaaguaK5faglnuv5deuahadfblav4iau5dk4Aaaahhbvubud+e3buabahhbvubud+e3buDzu4jau5maaabaacaadaafaagaahaaiaaeabijaakaalaal4Lagainvuau6+bkagagaiDvunxu6alzuL5eubahai4gava,V5ab4Xj,wM4xau5dc4Yaaafhbvubuabafhbvubunyu4fau5i"
def RB:au 0 301 RA:=av
def RC:ao:=aw "Gcceafal4faNaK5laN5dl4maaglaK5faglnnm5deoahadfblhblnbp4jaq5l4tabaiLsbt4sau4wirairb4kp+bqa4afLj,va,w5dl4yaksuK5eulak4faNa,z5iab4BageLjBLbuwL+bXwu4hau5b4FjnM4oau5l4Gag4fauaK5i"
def RD:au 1 302 RC:=av
def RE:ao:=aw "Ncbeal4faN5laN5dl4jabaK5faglnji5dekahadfblaj4hal5l4naagmabagAopMnq4iar5dl4taagsabagAvuKtuyuK5eubahjuM4iau5al4CafaaahFbvabud+eBbuubbuxbyzu4gau5b4JaaahFbvbua4bau5b4MjjM4kau5l4Naf4fau5i"
def RF:au 0 303 RE:=av
def RG:ao:=aw "ibbcalaN5dlaaQad5eel4daN5ial4guLaaaxL+bXfg4dah5i"
def RH:au 0 310 RG:=av
def RI:ao:=aw "ibbcalaN5dlaaQad5eel4daN5ial4gubaaaxbyfg4dah5i"
def RJ:au 0 311 RI:=av
def RK:ao:=aw "ibbcalaN5dlaaQad5eel4daN5ial4gBbaaawbyfg4dah5i"
def RL:au 6 311 RK:=av
def RM:ao:=aw "lbbcal4cm+dvaaL5lcbbbdgeccbbgghjfinjS4dak5i"
def RN:au 0 312 RM:=av
def RO:ao:=aw "Gdcgahal4em+doam+dvbm+dvcaNaK5dlcaebi5ejdkcbebkcbfbmubclnd+e6boecdJ+cnbqad+dzcprisaisb4hata,u5naaabaacaadaagaahaaeaafabgiaajaakaalaamaaiadk4wccebuccfbuubcwud+e7buecdJ+dEbuad+dCcwuiuaivb4hava,F5naaabaacaadaagaahaaeaafabgiaajaakaalaamaai"
def RP:au 0 313 RO:=av
def RQ:ao:=aw "ucbeal4faL5dlaagfabghsgi5ejlaagkabgmnln4fao5ial4qaaXpabXrnqs4fat5i"
def RR:au 0 314 RQ:=av
def RS:ao:=aw "gbbcalaN5laad+e9bdd+e8be4daf5i"
def RT:au 0 315 RS:=av
def RU:ao:=aw "+bwbbcc<lp+ftm5lp+ftm5dl4laK5faglnk25delahadfblak4fam5c4oaeaaaeERphboqbrvgsRt,+oZaaaeERujuMhbxubuvguRu>SCuaaaeERujuShbxubuvguRu8SCuaaaeERujuWhbxubuvguSBuzb<dn4afbuv5bjkM4lau5dl4ga25fcgdl4YafnuY5euahcdfddc42afAu,+p3zb<dubuafAuSzb<dubu4haya,85l4:agd+eNcu,+qVagd+eNcu,+qWDwuagGu,+qXDwu4jau5l4+a,ahd+eNcu,+qYahd+eNcu,+qZDwuahGu,+q0Dwu4kau5c4+bhafafAu2zb<dubuaijvuafAu7zb<dubujyuajjvuzb<dH4afbuv5b40afjuM4gau5l4+bwe<d4af<cu5i"
def RV:au 0 321 RU:=av
def RW:ao:=aw "cabac<l4bp+ftm5lqm<ab,+o9bb,+o:cb,+o;db,+o<eb,+o=fb,+o>gb,+o?hb,+o*ib,+o+jb,+o,kb,+palb,+pbmb,+pcnb,+pdob,+pepb,+pfqb,+pgrb,+phsb,+pitb,+pjub,+pkvb,+plwb,+pmxb,+pnyb,+pozb,+ppAb,+pqBb,+prCb,+psDb,+ptEb,+puFb,+pvGb,+pwHb,+pxIb,+pyJb,+pzKb,+pALb,+pBMb,+pCNb,+pDOb,+pEPb,+pFQb,+pGRb,+pHSb,+pITb,+pJUb,+pKVb,+pLWb,+pMXb,+pNYb,+pOZb,+pP0b,+pQ1b,+pR2b,+pS3b,+pT4b,+pU5b,+pV6b,+pW7b,+pX8b,+pY9b,+pZ:b,+p0;b,+p14af<ab5i"
def RX:au 0 322 RW:=av
def RY:ao:=aw "rcbeal4fa,+p55l4habvhgNh,+q14gai5l4kaaafRjkaaafA9nGmoSlp4faq5i"
def RZ:au 0 323 RY:=av
def S0:ao:=aw "ncbeal4fa,+p55laaabGfgaaabA9jRikShl4fam5i"
def S1:au 1 324 S0:=av
def S2:ao:=aw "jcbeal4faL5laaabd+e=cfgChK4fai5i"
def S3:au 0 329 S2:=av
def S4:ao:=aw "ibbdalm+ccaaL5lbbeccLebfrcg4eah5i"
def S5:au 0 330 S4:=av
def S6:ao:=aw "jcbeal4faL5laaabd+e>cfgChK4fai5i"
def S7:au 0 331 S6:=av
def S8:ao:=aw "ibbdalm+bqaaL5lbbeLcLebfrcg4eah5i"
def S9:au 0 332 S8:=av
def Sa:ao:=aw "gbbcalaL5laaaasde4daf5i"
def Sb:au 0 334 Sa:=av
def Sc:ao:=aw "wcbfal4gaK5ddc4iaabchbhibjabbchblmbnd+cRcko4hap5l4ragsqK5erlag4gas5ial4uaaabd+bXctu4gau5i"
def Sd:au 0 336 Sc:=av
def Se:ao:=aw "kcbeal4faL5laaXfabXhogi4faj5i"
def Sf:au 0 337 Se:=av
def Sg:ao:=aw "jbbcalaL5laaCdMae6naaIgQ6alfhL4dai5i"
def Sh:au 0 338 Sg:=av
def Si:ao:=aw "gbbcala15laavhdDe;4daf5i"
def Sj:au 0 339 Si:=av
def Sk:ao:=aw "KbbcalaN5laK5dl4kaagjaK5faglnlk5demahadfblhbjlbn4gao5l4qadafgqjpr4eas5l4uadntK5eubVj,+p64aWu5abjlM4mau5l4yadd+e,cNu4hau5dl4AaaguaK5fcglnuv5deuahcdfdlhbxvbu4jau5b4Gagaiwbyvu4hau5b4Jj,BM4Cau5l4Kag4dau5i"
def Sl:au 1 342 Sk:=av
def Sm:ao:=aw "KbbcalaN5laK5dl4kaagjaK5faglnlk5demahadfblhbjlbn4gao5l4qadafgqjpr4eas5l4uadntK5eubVj,+p64aWu5abjlM4mau5l4yadd+facNu4hau5dl4AaaguaK5fcglnuv5deuahcdfdlhbxvbu4jau5b4GagaiwL+bXvu4hau5b4Jj,BM4Cau5l4Kag4dau5i"
def Sn:au 1 343 Sm:=av
def Sp:ao:=aw "GbbcalaN5laN5dlaK5fagdl4iaejh7aagjnik5elahadfbl4ga05dlaK5fcgdl4pagnoQ5epahcdfdb4tafETsaaaeagjvuhbxubujtu4gau5b4ragjqM4har5b4Cadafubbuxbbwu4eau5b4naejmQ4fan5l4Gad4dau5i"
def Sq:au 0 344 Sp:=av
def Sr:ao:=aw "HbbcalaN5laN5dla,+q25fagdl4iaeChK5eiahadfbl4gaK5fcgdl4mafaagmnln5eoahcdfdl4saaafhbrsbtvhuju;4hau5b4yadagaevhuGwuKu,+p4veuubbuxbbBu4eau5b4qafjpM4gaq5b4kaeAjM4fak5l4Had4dau5i"
def Ss:au 0 345 Sr:=av
def St:ao:=aw "tcbeal4faK5dl4haaggaK5faglnih5dejahadfblai4gak5l4mabaaafhcmnecoLlbp5eqlaf4far5iab4tjiM4jas5l4faX5i"
def Su:au 0 349 St:=av
def Sv:ao:=aw "tcbeal4faK5dl4haaggaK5faglnih5dejahadfblai4gak5l4mabaaafhLmneLoLlbp5eqlaf4far5iab4tjiM4jas5l4faX5i"
def Sw:au 0 350 Sv:=av
def Sx:ao:=aw "Bcbeal4faN5dlabnfK5egbVj,+oO4aWh5adlabaaUjaaglAkmAin4cao5l4qabypK5eqbaaaaUstbrabtaabYbynvuaagutbwabua4bau5al4Baa4fau5i"
def Sy:au 6 354 Sx:=av
def Sz:ao:=aw "Bcbeal4faN5dlabnfK5egbVj,+oO4aWh5adlabaaUjaaglAkmAin4cao5l4qabypK5eqbaaaaUstLrabtaabYL+bXavuaagutLwabua4bau5al4Baa4fau5i"
def SA:au 6 355 Sz:=av
end Go.Proofs.YtlgnfcaolejgeaaGreat
