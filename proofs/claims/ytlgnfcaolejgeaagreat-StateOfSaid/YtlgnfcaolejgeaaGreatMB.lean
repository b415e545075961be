import Derived.Test.YtlgnfcaolejgeaaGreatMA
import Derived.Lib.Overlaps
import Derived.Laws.Externs
import Derived.KernelRfl
import Derived.Test.YtlgnfcaolejgeaaGreatProg
set_option linter.all false
namespace Go.bz
open Go
variable{n b3:R}{s a7:R -> U -> Prop}{j8:Array Value}{j:Fr}{f t e4:U}{g B e0:List R}{e i v O b8 j0:Nat}{u:bl}{m:Program}{e5:Value}{l h7:World}
section
variable  {o:Oper}{a:Act}   
def I9 (x:TypeId) (b:Operand) (y:o.op= .call {callee:= .builtin .cap,args:= #[b],argTypes:= #[x]}) (F:TypeId) (z:m.underlying x=some (.slice F)) (L:aQ b=true) (P:bK u a j) (C:Holds u f l) (h:G ⟨m,s⟩ (.mD b) j f a7):bQ m s o a l u f a7:=by
 have c:=P.al b L;simp only[G]at h;generalize D:a.eval b=W at c;split at h
 case h_2=>trivial
 rename_i e d;unfold rq at d;split at d
 .rename_i S T k E p;rw[p]at c;obtain rfl:=a4L d;cases c with
  |an S T k E hk V=>exact .same C (by simp[execOp,y,resolve,invoke,builtin,D,Builtin.cap_,run_underlying z,goInt]) (.v _ rfl) h
 .rename_i p;rw[p]at c;obtain rfl:=a4L d;cases c with
  |dg g k dn bW r=>simp only[Own.lD]at r;subst r;have:=bW rfl;subst this;exact .same C (by simp[execOp,y,resolve,invoke,builtin,D,Builtin.cap_,run_underlying z,goInt]) (.v _ rfl) h
  |J i off len k E n xs dn hk hlen V q t hH v r=>trivial
 .cases d
theorem Ia (z p:Nat) (x r d:Option Operand) (h b c:Int) (C:(x=none/\h=0)\/ ∃k,valOf a x=some (.int k h)) (D:(r=none/\b=z)\/ ∃k,valOf a r=some (.int k b)) (L:(d=none/\c=p)\/ ∃k,valOf a d=some (.int k c))
  (P:d=none\/r.isSome=true) (S:0<=h) (T:h<=b) (j:b<=c) (l:c<=p) (E:World):(Instr.sliceBounds true z p (valOf a x) (valOf a r) (valOf a d)).run m E= .ok (h.toNat,b.toNat,c.toNat) E:=by
 have n:(b.toNat)=b:=a6q a9p;have q:(c.toNat)=c:=a6q a9p;have V:0<=b:=a9p;have s:0<=c:=a9p;have W:b<=(p):=a9p;have y:valOf a none=none:=rfl;rcases L with ⟨rfl,rfl⟩|⟨t,hm⟩
 .rcases C with ⟨rfl,rfl⟩|⟨e,F⟩<;>rcases D with ⟨rfl,rfl⟩|⟨f,G⟩
  .rfl
  .simp only[Instr.sliceBounds,y,G];simp[run_sliceBound,W,V]
  .simp only[Instr.sliceBounds,y,F];simp[run_sliceBound,S,T]
  simp_all [Instr.sliceBounds,run_sliceBound]
 .have g:d≠none:=by rintro rfl;rw[y]at hm;cases hm
  have i:=P.resolve_left g;rcases D with ⟨rfl,rfl⟩|⟨f,G⟩
  .simp at i
  rcases C with ⟨rfl,rfl⟩|⟨e,F⟩;simp_all [Instr.sliceBounds,run_sliceBound];simp_all [Instr.sliceBounds,run_sliceBound]
def Ib (k2:TypeId) (V:Operand) (z D E:Option Operand) (k4:o.op= .slice k2 V z D E) (k5:E=none\/D.isSome=true) (Y:TypeId) (k6:m.underlying k2=some (.slice Y)) (W:Nat) (H:(m.info? Y).map (·.size)=some W) (k7:aQ V=true) (I:z.all aQ=true) (K:D.all aQ=true) (M:E.all aQ=true)
  (p:bK u a j) (N:Holds u f l) (e:G ⟨m,s⟩ (.lL W V z D E) j f a7):bQ m s o a l u f a7:=by
 have r:=p.al V k7;have O: ∀(g) (len k:Nat) (c h d:Int),((z=none/\c=0)\/ ∃n,valOf a z=some (.int n c))->((D=none/\h=len)\/ ∃n,valOf a D=some (.int n h))->((E=none/\d=k)\/ ∃n,valOf a E=some (.int n d))->0<=c->c<=h->h<=d->d<=k->
   a.eval V= .slice g len k->(execOp a.eval o).run m l= .ok (.value (sliced g c.toNat h.toNat d.toNat W)) l:=by
  intro g len k c h d q F L t v w x i;have k3:=Ia (m:=m) len k z D E c h d q F L k5 t v w x l;simp only[valOf]at k3;cases Z:m.info? Y with
  |none=>simp[Z]at H
  |some ii=>
   have k8:ii.size=W:=by simpa[Z] using H
   simp[execOp,k4,i,Instr.sliceAt,Instr.slice,run_underlying k6,k3,sizeOf,typeInfo,Z,k8,sliced]
 simp only[G]at e;generalize i:a.eval V=l6 at r;split at e
 case h_2=>trivial
 rename_i C b;unfold rr at b;split at b
 .rename_i A len k Q P;rw[P]at r;split at b
  case h_2=>cases b
  rename_i c h d y S hm;split at b
  case isFalse=>cases b
  rename_i x;obtain⟨rfl,t,v,w,j9⟩:=x;obtain rfl:=a4L b;have q:=ga p I y;have F:=ga p K S;have L:=ga p M hm;cases r with
  |an A k9 k Q X k0=>
   have C:=O _ len k c h d (by trivial) F L t v w j9 i;refine .same N C ?_ e;cases z with
   |none=>
    simp only[da,a4X]at y;subst y;simp only[a6F,a5M,if_false];have:sliced (some ⟨A,0,none⟩) ((0:Nat):Int).toNat h.toNat d.toNat Q= .slice (some ⟨A,0,none⟩) h.toNat d.toNat:=by unfold sliced;simp[Addr.add]
    rw[this];exact .an _ _ _ _ X a9p
   |some z=>
    simp only[a7f,if_true];by_cases B:c<d
    .rw[if_pos B];unfold sliced;rw[if_neg a9p,a5O,hg,a5m];exact .bA _ _ _ _ _ X a9p
    .rw[if_neg B];unfold sliced;have:h.toNat - c.toNat=0:=a9p;rw[this];exact .dg _ _ _ (λl0=>by omega) (show d.toNat - c.toNat=0 by omega)
 .rename_i A k1 len k Q P;rw[P]at r;split at b
  case h_2=>cases b
  rename_i c h d y S hm;split at b
  case isFalse=>cases b
  rename_i x;obtain⟨rfl,t,v,w,j9⟩:=x;obtain rfl:=a4L b;have q:=ga p I y;have F:=ga p K S;have L:=ga p M hm;cases r with
  |bA A k1 k9 k Q X k0=>
   have C:=O _ len k c h d (by trivial) F L t v w j9 i;refine .same N C ?_ e;by_cases B:c<d
   .rw[if_pos B];unfold sliced;rw[if_neg a9p,a5O,hg];exact .bA _ _ _ _ _ X a9p
   .rw[if_neg B];unfold sliced;have:h.toNat - c.toNat=0:=a9p;rw[this];exact .dg _ _ _ (λl0=>by omega) (show d.toNat - c.toNat=0 by omega)
 .rename_i P;rw[P]at r;split at b
  case h_2=>cases b
  rename_i c h d y S hm;split at b
  case isFalse=>cases b
  rename_i x;obtain⟨rfl,rfl,rfl⟩:=x;obtain rfl:=a4L b;have q:=ga p I y;have F:=ga p K S;have L:=ga p M hm;cases r with
  |dg g k dn bW T=>simp only[Own.lD]at T;subst T;have:=bW rfl;subst this;have C:=O none 0 0 0 0 0 (by trivial) (by trivial) (by trivial) a9p a9p a9p a9p i;exact .same N C (.dg _ _ .nil (λ_=>rfl) rfl) e
  |J l1 k1 len k W l2 xs dn H hlen k0 l3 l4 hH l5 T=>trivial
 .rename_i P;rw[P]at r;split at b
  case h_2=>cases b
  rename_i c h d y S hm;split at b
  case isFalse=>cases b
  rename_i x;obtain⟨rfl,rfl,rfl⟩:=x;obtain rfl:=a4L b;have q:=ga p I y;have F:=ga p K S;have L:=ga p M hm;cases r with
  |dg g k dn bW T=>simp only[Own.lD]at T;subst T;have C:=O g 0 0 0 0 0 (by trivial) (by trivial) (by trivial) a9p a9p a9p a9p i;refine .same N C ?_ e;unfold sliced;exact .dg _ _ .zero (λ_=>rfl) rfl
  |J l1 k1 len k W l2 xs dn H hlen k0 l3 l4 hH l5 T=>trivial
 .cases b
theorem vX (h:j8.size=e) (E: ∀b∈j8.toList,b.oneCell'=true) (z:0<e) (c:Nat):bq u (Builtin.zeroCells j8 c) (List.replicate c (j8.toList.map cS)).flatten/\(∀p∈(List.replicate c (j8.toList.map cS)).flatten,p.one=true):=by
 have r:(j8.toList.map cS).length=e:=by simp[h]
 refine⟨bq.dP.2 ⟨by simp[size_zeroCells],λx b F d C=> ?_⟩,λp k=> ?_⟩
 .have y:x<c*e:=by grind[List.getElem?_eq_some_iff,kT]
  rw[vU _ _ _ (by rw[r];exact y),r,a5n]at C;rw[a6u]at d;have G:x%e<j8.size:=by rw[h];exact a6Q _ z
  simp only[Builtin.zeroCells,h]at d;rw[Array.getElem?_map]at d;simp only[a8Y,y,if_true,a5O,a4X]at d;grind[Array.getElem?_eq_getElem,Option.some.injEq,aY.cS]
 .obtain⟨L,D,k⟩:=a8v.1 k;obtain rfl:=(List.mem_replicate.1 D).2;obtain⟨b,_,rfl⟩:=a5h.1 k;exact nL b
theorem Ic (P:TypeId) (h:Operand) (C:o.op= .call {callee:= .builtin .clear,args:= #[h],argTypes:= #[P]}) (S:TypeId) (D:m.underlying P=some (.slice S)) (p:TypeInfo) (w:m.info? S=some p) (c:Value) (A:p.zero=some c) (V:c.cells.size=p.size) (W: ∀h∈c.cells.toList,h.oneCell'=true) (e:0<p.size)
  (B:aQ h=true) (H:bK u a j) (g:Holds u f l) (z:G ⟨m,s⟩ (.mE p.size (c.cells.toList.map cS) h) j f a7):bQ m s o a l u f a7:=by
 have r:=H.al h B;simp only[G]at z;generalize E:a.eval h=k3 at r;split at z
 case h_2=>trivial
 rename_i k4 d;unfold kR at d;split at d
 .rename_i x k b F I L;rw[L]at r;split at d
  case h_2=>cases d
  rename_i k5 K;split at d
  case isFalse=>cases d
  rename_i M;obtain⟨rfl,N⟩:=M;obtain rfl:=a4L d;obtain⟨i,n⟩:=vX (u:=u) V W e b;have q:(List.replicate b (c.cells.toList.map cS)).flatten.length=b*p.size:=by rw[kT];simp[V]
  obtain⟨y,T,t,k6,O⟩:=Step.store g K k _ _ i n (by rw[q];exact N);refine .value (v:= .tuple #[]) ?_ O (.undef _) z;have v:=run_storeCells_at m x k T (Builtin.zeroCells c.cells b).toList 0 y l t (by have:=i.1;simp only[a8i];omega) (An W b);simp only[a6M]at v;have Q:(storeCells ⟨x,k,none⟩ (Builtin.zeroCells c.cells b).toList).run m l= .ok () (l.setRow x (dh y k (Builtin.zeroCells c.cells b).toList)):=by rw[v];rfl
  cases r with
  |bA x k b F I k7 X=>
   cases b with
   |zero=>
    have Y:(Builtin.zeroCells c.cells 0).toList= []:=a4R (by simp[size_zeroCells]);have Z:dh y k []=y:=by simp[dh]
    rw[Y,Z];have j9:=setRow_self l x y T (0,0) t;simp[execOp,C,resolve,invoke,builtin,E,Builtin.clear_,run_underlying D,j9]
   |succ b=>simp[execOp,C,resolve,invoke,builtin,E,Builtin.clear_,run_underlying D,zeroValue,w,A,typeInfo,Q]
 .rename_i k8 L;rw[L]at r;obtain rfl:=a4L d;have k0:(execOp a.eval o).run m l= .ok (.value (.tuple #[])) l:=by
   cases r with
   |dg k1 F dn bW k2=>cases k1<;>simp[execOp,C,resolve,invoke,builtin,E,Builtin.clear_,run_underlying D]
   |J k9 k len F l0 l1 xs dn e q X l2 n hH l3 k2=>simp_all [execOp,resolve,invoke,builtin,Builtin.clear_,run_underlying]
  exact .same g k0 (.undef _) z
 .cases d
theorem Ie (G:aY u e5 n) (K:Holds u f l) (c:bN f e n=some (i,g)) (y:Program) (b:Nat) (x:b<=i):
  ∃z:List Value,(Builtin.firstCells e b e5).run y l= .ok z.toArray l/\bq u z.toArray (g.take (b*e))/\(g.take (b*e)).length=b*e:=by
 have L: ∀(P) (S) (T),aY u P S->bN f e S=some (b,T)->T=g.take (b*e)->(Builtin.firstCells e b P).run y l=(Builtin.firstCells e b e5).run y l->
   ∃z:List Value,(Builtin.firstCells e b e5).run y l= .ok z.toArray l/\bq u z.toArray (g.take (b*e))/\(g.take (b*e)).length=b*e:=by
  intro P S T M V t N;obtain⟨O,v,Q,k4,_⟩:=vT M K V y;refine⟨O,by rw[<-N];exact v.cells,?_,by rw[<-t,<-Q];exact v.size⟩;rw[<-t];refine bq.dP.2 ⟨by trivial,λC k5 W k6 k7=> ?_⟩;grind
 have k8:=c;unfold bN at c;split at c
 .rename_i p w;split at c
  case isFalse=>cases c
  rename_i k9;simp only[a4X,a5W]at c;obtain⟨rfl,rfl⟩:=c;have l0: ∀D∈p,D.cells.length=e:=by simp_all
  cases G with
  |dg X d w bW Y=>simp only[a4W,Nat.le_zero]at x;subst x;exact⟨[],by cases X<;>simp[Builtin.firstCells,loadCells,loadCellsFrom],⟨a9q,λC W c=>by simp at c⟩,a9q⟩
  |J A r len d j Z p w hk hlen B H l1 hH l2 Y=>
   subst hlen;have j9: ∀D∈p.take b,D.cells.length=j:=λD k0=>H D (a4Z k0);have k1:=((fS b H).2).symm;by_cases I:p= []
   .subst I;simp only[a4W,Nat.le_zero]at x;subst x;exact⟨[],by simp[Builtin.firstCells,loadCells,loadCellsFrom],⟨a9q,λC W c=>by simp at c⟩,a9q⟩
   obtain rfl:j=e:=by
    match p,I with
    |l3::l4,_=>simp_all
   refine L (.slice (some ⟨A,r,none⟩) b d) (.J (p.take b) .any) (flat (p.take b)) (.J A r b d j Z (p.take b) .any hk a9r a9p j9 (λl5 F=> ?_) (λC k2=>hH C (a5Z k2 (a5c _ x))) (λC W l6=> ?_) trivial) ?_ k1 rfl;grind;grind
   .unfold bN;simp_all
 .rename_i k E d h;split at c
  case h_2=>cases c
  rename_i m q;split at c
  case isFalse=>cases c
  rename_i F;simp only[a4X,a5W]at c;obtain⟨rfl,rfl⟩:=c;obtain⟨rfl,k3⟩:=F;have V:b*h<=E*h:=a5c _ x;cases G with
  |an k E d h s B=>refine L (.slice (some ⟨k,0,none⟩) b d) (.an k b d h) (m.take (b*h)) (.an k b d h s a9p) ?_ (by grind) rfl;simp only[bN,q];grind
 .rename_i k r E d h;split at c
  case h_2=>cases c
  rename_i m q;split at c
  case isFalse=>cases c
  rename_i F;simp only[a4X,a5W]at c;obtain⟨rfl,rfl⟩:=c;obtain⟨rfl,k3⟩:=F;have V:b*h<=E*h:=a5c _ x;cases G with
  |bA k r E d h s B=>refine L (.slice (some ⟨k,r,none⟩) b d) (.bA k r b d h) ((m.drop r).take (b*h)) (.bA k r b d h s a9p) ?_ (by grind) rfl;simp only[bN,q];grind
 .cases c
theorem Ig (M k2:TypeId) (D E:Operand) (i:o.op= .call {callee:= .builtin .copy,args:= #[D,E],argTypes:= #[M,k2]}) (n:TypeId) (q:m.underlying M=some (.slice n)) (d:Nat) (k3:(m.info? n).map (·.size)=some d)
  (k4:aQ D=true) (k5:aQ E=true) (N:bK u a j) (V:Holds u f l) (t:G ⟨m,s⟩ (.mF d D E) j f a7):bQ m s o a l u f a7:=by
 have y:=N.al D k4;have O:=N.al E k5;simp only[G]at t;generalize W:a.eval D=k6 at y;split at t
 case h_2=>trivial
 rename_i l8 l9 c;unfold lM at c;split at c
 case h_2=>cases c
 rename_i p z Q;obtain⟨n0,e,n1,n2,k7⟩:=vT O V Q m;have n3:=e.size;have n4:z.length=p*d:=a9p;have X: ∀b,∃r:Array Value,(Builtin.firstCells d (min p b) (a.eval E)).run m l= .ok r l/\bq u r (z.take (b*d))/\(z.take (b*d)).length=min p b*d:=by intro b;obtain⟨r,n5,n9,a00⟩:=Ie O V Q m (min p b) a9p;grind[min,Nat.mul_le_mul_right,Nat.min_eq_left,List.take_of_length_le,Nat.min_eq_right]
 have k8: ∃v,m.info? n=some v/\v.size=d:=by simp_all
 obtain⟨v,w,A⟩:=k8;have a01: ∀(h k b x) (C),k6= .slice (some ⟨h,k,none⟩) b x->f h=some (.cells C)->k+b*d<=C.length->
   a7 (.v (.int .i64 (min p b:Nat))) (f.set h (.cells (putAt C k (z.take (b*d)))))->bQ m s o a l u f a7:=by
  intro h k b x C k9 B Y l0;obtain⟨r,F,L,g⟩:=X b;have H: ∀I∈z.take (b*d),I.one=true:=λI P=>k7 I (a4Z P);have a02:min p b*d<=b*d:=a5c _ a9p;obtain⟨Z,T,l1,a03,l2⟩:=Step.store V B k (z.take (b*d)) r L H a9p;refine .value ?_ l2 (.v _ rfl) l0;have j9:=run_storeCells_at m h k T r.toList 0 Z l l1 (by have:=L.1;simp;omega) (L.nJ H);simp only[a6M]at j9;have l3:(storeCells ⟨h,k,none⟩ r.toList).run m l= .ok () (l.setRow h (dh Z k r.toList)):=by rw[j9];rfl
  have k0:Nat.min p b=min p b:=rfl;rw[k9]at W;simp[execOp,i,resolve,invoke,builtin,W,Builtin.copy_,run_underlying q,e.len,sizeOf,typeInfo,w,A,F,l3,goInt]
 split at c
 .rename_i h k b x K S;rw[S]at y;split at c
  case h_2=>cases c
  rename_i C B;split at c
  case isFalse=>cases c
  rename_i P;obtain⟨rfl,Y⟩:=P;simp only[a4X,a5W]at c;obtain⟨rfl,rfl⟩:=c;cases y with
  |bA h k b x K l4 k1=>grind
 .rename_i h b x K S;rw[S]at y;split at c
  case h_2=>cases c
  rename_i C B;split at c
  case isFalse=>cases c
  rename_i P;obtain⟨rfl,Y⟩:=P;simp only[a4X,a5W]at c;obtain⟨rfl,rfl⟩:=c;cases y with
  |an h b x K l4 k1=>simp_all
 .rename_i a04 S;rw[S]at y;simp only[a4X,a5W]at c;obtain⟨rfl,rfl⟩:=c;have c:(execOp a.eval o).run m l= .ok (.value (.int .i64 0)) l:=by
   obtain⟨r,F,L,g⟩:=X 0;have k0:Nat.min p 0=0:=Nat.min_zero p;rw[Nat.min_zero]at F;have l5:=a8f (by have:=L.1;simp at this;simpa using this);subst l5;cases y with
   |dg l6 x dn bW l7=>cases l6<;>simp[execOp,i,resolve,invoke,builtin,W,Builtin.copy_,run_underlying q,e.len,sizeOf,typeInfo,w,A,k0,F,goInt,storeCells]
   |J a05 k len x d a06 xs dn k3 g k1 a07 H hH a08 l7=>simp at g;subst g;simp[execOp,i,resolve,invoke,builtin,W,Builtin.copy_,run_underlying q,e.len,sizeOf,typeInfo,w,A,F,goInt,storeCells]
  exact .same V c (.v _ rfl) t
 .cases c
theorem Ih (y:FuncId) (h:Func) (k p:Operand) (M:Array TypeId) (N:o.op= .call {callee:= .value (.func y),args:= #[k,p],argTypes:=M}) (O:m.funcs[y]? =some h) (Q:(h.name== "runtime.NumGoroutine")=false) (X:h.body.isNone=true) (Y:Extern.findNext h=none)
  (c:TypeId) (C:Array TypeId) (Z:Extern.find h=some (Extern.SlicesOverlaps.overlaps #[c,c] C)) (r:TypeId) (j9:m.underlying c=some (.slice r)) (D:Nat) (k0:(m.info? r).map (·.size)=some D)
  (k1:aQ k=true) (k2:aQ p=true) (w:bK u a j) (A:Holds u f l) (E:G ⟨m,s⟩ (.mH k p) j f a7):bQ m s o a l u f a7:=by
 have B:=w.al k k1;have H:=w.al p k2;simp only[G]at E;generalize k3:a.eval k=n9 at B;generalize k4:a.eval p=a00 at H;split at E
 case h_2=>trivial
 rename_i a01 d;unfold kS at d;split at d
 case h_2=>cases d
 rename_i F L k5 k6;split at d
 case isFalse=>cases d
 rename_i k7;obtain⟨k8,k9,l0⟩:=k7;obtain rfl:=a4L d;have I: ∀(P:R) (S:Value) (b:Nat),cK P=some b->aY u S P-> ∃l1 l2 l3,S= .slice (some ⟨b,l1,none⟩) l2 l3:=by
  intro P S b x V;cases V<;>simp only[cK,a4X,reduceCtorEq]at x
  .subst x;simp
  .subst x;simp
 have K: ∀b,km f b=true-> ∃z T,l.heap[b]? =some (.cells z T (0,0))/\z.size≠0:=by
  intro b W;unfold km at W;split at W
  .rename_i a02 a03 l4;obtain⟨_,z,T,x,V,_⟩:=A.dO b _ l4;exact⟨z,T,x,by rw[V.1];simp⟩
  .cases W
 obtain⟨e,g,i,rfl⟩:=I _ _ _ k5 B;obtain⟨n,q,c2,rfl⟩:=I _ _ _ k6 H;obtain⟨l5,l6,t,a04⟩:=K _ k9;obtain⟨l7,l8,l9,n0⟩:=K _ l0;have n1: ∀l,(Go.sizeOf r).run m l= .ok D l:=by
  intro l;cases n2:m.info? r with
  |none=>simp[n2]at k0
  |some ii=>simp_all [sizeOf,typeInfo]
 have n3:=Lib.run_overlaps_apart l c (C.getD 0 0) r j9 D n1 ⟨F,e,none⟩ ⟨L,n,none⟩ g i q c2 k8 l6 l8 l5.size l7.size (by simp[World.shape?,t]) (by simp[World.shape?,l9]) n0 (by simp[World.frozen?,t]) (by simp[World.frozen?,t]);have n4:(Extern.SlicesOverlaps.overlaps #[c,c] C #[.slice (some ⟨F,e,none⟩) g i,.slice (some ⟨L,n,none⟩) q c2]).run m l= .ok (.bool false) l:=n3;have v:=run_callFunc_extern O Q X Y Z #[.slice (some ⟨F,e,none⟩) g i,.slice (some ⟨L,n,none⟩) q c2] l;rw[n4]at v;simp only[Result.andThen_ok]at v;refine .same A ?_ (.v _ rfl) E;have n5:a.eval (.func y)= .func (.func y) #[] #[]:=rfl;simp[execOp,N,resolve,n5,Deferred.ofValue,invoke,k3,k4,v]
def Au (h:World) (x y E p:TypeId) (d:TypeInfo) (r:Value) (F:IntKind) (G:m.underlying x=some (.slice p)) (L:m.underlying y=some (.int F))
  (P:m.info? p=some d) (S:d.zero=some r) (z:Option Addr) (c k:Nat) (C:List Value) (u:0<d.size)
  (T:(Builtin.firstCells d.size c (.slice z c k)).run m h.drew= .ok C.toArray h.drew)
  (b:Nat) (v:0<b) (V:k<c+b) (w:((c+b:Nat):Int)<=9223372036854775807) (W:(c+b)*d.bytes<=140737488355328):
  (Builtin.append_ #[x,y] E #[.slice z c k,.int .i64 b]).run m h=
   .ok (.slice (some ⟨h.heap.size,0,none⟩) (c+b) (grownCap h (c+b) k p))
    (h.drew.alloc (.cells (C.toArray++Builtin.zeroCells r.cells b++Builtin.zeroCells r.cells (grownCap h (c+b) k p -(c+b))) p)):=by
 have e: ¬(c+b<=k):=a9p;have f: ¬(9223372036854775807<((c)+(b:Int))):=a9p;have g: ¬(281474976710656<Builtin.nextslicecap (c+b) k*d.bytes):=by have:=growslice_fits V W;omega
 have i:IntKind.i64.wrap (b)=b:=by rw[IntKind.wrap_i64];omega
 have j: ¬((b:Int)<0):=a9p;have A:b*d.bytes<=(c+b)*d.bytes:=a5c _ a9p;have l: ¬(281474976710656<(b)*(d.bytes:Int)):=by rw[<-Int.natCast_mul];omega
 have D:b≠0:=a9p;have n: ¬(b*d.size=0):=Nat.mul_ne_zero D a9p;have q:=λs=>run_underlying L s;have t: ¬(d.size=0):=a9p;simp[Builtin.append_,run_underlying G,q,sizeOf,typeInfo,zeroValue,P,S,asInt,asIntOf,i,j,e,n,D,t,f,g,l,Question.forced,T,newRow,grownCap]
theorem Ii (r x:Operand) (z C:TypeId) (t:IntKind) (k0:m.underlying C=some (.int t)) (k1:o.op= .call {callee:= .builtin .append,args:= #[r,x],argTypes:= #[z,C]}) (k:TypeId) (k2:m.underlying z=some (.slice k)) (d:TypeInfo) (k3:m.info? k=some d) (p:Value) (k4:d.zero=some p)
  (w:p.cells.size=d.size) (k5: ∀r∈p.cells.toList,r.oneCell'=true) (y:0<d.size) (l3:aQ r=true) (l4:aQ x=true) (k6:bK u a j) (P:Holds u f l) (S:G ⟨m,s⟩ (.mG d.size d.bytes (p.cells.toList.map cS) r x) j f a7):bQ m s o a l u f a7:=by
 have D:=k6.al r l3;have V:=k6.al x l4;simp only[G]at S;generalize k7:a.eval r=l5 at D;generalize k8:a.eval x=a01 at V;have newRow: ∀(A:List Value) (b c h) (e),bq u A.toArray e->(∀W∈e,W.one=true)->b+c<=h->
   ∃E:List R,E.length=(h -(b+c))*d.size/\Step u f l u (f.set l.heap.size (.cells (e++(List.replicate c (p.cells.toList.map cS)).flatten++E))) (l.drew.alloc (.cells (A.toArray++Builtin.zeroCells p.cells c++Builtin.zeroCells p.cells (h -(b+c))) k)):=by
  intro A b c h e B H I;obtain⟨l6,a02⟩:=vX w k5 y c;obtain⟨l7,a03⟩:=vX w k5 y (h -(b+c));refine⟨(List.replicate (h -(b+c)) (p.cells.toList.map cS)).flatten,by rw[kT];simp[w],?_⟩;refine(Step.drew P).trans (Step.new P.drew _ k _ (λW g=> ?_) (bq.append (bq.append B l6) l7));grind
 split at S
 .rename_i i b h a04 c K M;rw[K]at D;rw[M]at V;obtain rfl:=V.dQ;split at S
  case h_2=>trivial
  rename_i N l8;obtain⟨rfl,l9,k9,n0,O,n1,Q⟩:=S;obtain⟨H,X,T,a05,a06,l0⟩:=P.read l8;have a07:=l0.1;have Y:=a6q k9;cases D with
  |an i b h n2 a08 I=>
   have a09:b*d.size<=N.length:=by rw[l9];exact a5c _ I
   have n3:(X.toList.take (b*d.size)).length=b*d.size:=a9r;have n4:(Builtin.firstCells d.size b (.slice (some ⟨i,0,none⟩) b h)).run m l.drew= .ok (X.toList.take (b*d.size)).toArray l.drew:=by
    refine run_firstCells_some l.drew d.size b ⟨i,0,none⟩ b h _ n3 (λl1 v D=> ?_);have a10:l1<b*d.size:=by grind
    rw[hg,a5m];show l.cell? _= _;grind[cell_of_row,List.getElem?_take_of_lt]
   have F:=Au l z C o.type k d p t k2 k0 k3 k4 (some ⟨i,0,none⟩) b h _ y n4 c.toNat a9p n0 a9p O;rw[Y]at F;have L:=grownCap_ge l (b+c.toNat) h k;have Z:=grownCap_le_maxLen l (b+c.toNat) h k (by unfold maxLen;omega);have B:bq u (X.toList.take (b*d.size)).toArray (N.take (b*d.size)):=by rw[bq.dP]at l0|-;grind
   obtain⟨E,n,q⟩:=newRow _ b c.toNat (grownCap l (b+c.toNat) h k) (N.take (b*d.size)) B (λW g=>H W (a4Z g)) L;exact .value (iR r x z C k1 (by rw[k7,k8];exact F)) q (.an _ _ _ _ y L) (Q _ _ E P.ed L Z n)
 .rename_i n5 l2 c K M;rw[K]at D;rw[M]at V;obtain rfl:=V.dQ;obtain⟨rfl,rfl,k9,O,n1,Q⟩:=S;have Y:((c.toNat))=c:=a6q a9p;have n9:l5= .slice none 0 0:=by
   cases D with
   |dg a11 h l2 bW j9=>simp only[Own.lD]at j9;subst j9;rw[bW rfl]
   |J a13 off len h n2 a14 n5 l2 y hlen I a15 H hH a16 j9=>trivial
  subst n9;have F:=Au l z C o.type k d p t k2 k0 k3 k4 none 0 0 [] y a9v c.toNat a9p a9p a9p (by simpa using O);rw[Y]at F;simp only[a5m]at F;have L:=grownCap_ge l c.toNat 0 k;have Z:=grownCap_le_maxLen l c.toNat 0 k (by unfold maxLen;omega);obtain⟨E,n,q⟩:=newRow [] 0 c.toNat (grownCap l c.toNat 0 k) [] ⟨rfl,λl1 a18 a00=>by simp at a00⟩ (λW g=>by simp at g) a9p;simp only[a5m,a5f]at q n;exact .value (iR r x z C k1 (by rw[k7,k8];exact F)) q (.an _ _ _ _ y L) (Q _ _ E P.ed L Z n)
 .trivial
end
def kn (a:Program) (b:TypeId):Option Nat:=(a.info? b).map (·.size)
def placeOf (a:Program) (h:TypeId) (b:Nat):Option (Nat×Nat):=
 match a.underlying h with
 |some (.struct k)=>(k.toList.mapM (λc=>(a.info? c.type).map λo=>(c.offset,o.size))).bind λp=>p[b]?
 |some (.array _ r)=>(a.info? r).map λd=>(b*d.size,d.size)
 | _=>none
def vY (a:Program) (c:TypeId):Bool:=
 match a.underlying c with
 |some (.struct d)=>(d.toList.mapM (λb=>(a.info? b.type).map λh=>(b.offset,h.size))).isSome
 |some (.array _ k)=>(a.info? k).isSome
 | _=>false
def ry (b:Program) (c:TypeId):Option (Array Value):=
 match b.info? c with
 |some d=>match d.zero with
  |some a=>if a.cells.toList.all (·.oneCell')then some a.cells else none
  |none=>none
 |none=>none
def Av (b:Program) (c:TypeId) (a:Nat×Operand):Option (Nat×Nat×Operand):=
 match placeOf b c a.1 with
 |some (off,cm)=>if 0<cm/\aQ a.2=true then some (off,cm,a.2)else none
 |none=>none
def rz (a:Program) (b:TypeId):List (Nat×Operand)->Option (List (Nat×Nat×Operand))
 | []=>some []
 |c::d=>match Av a b c,rz a b d with
  |some h,some k=>some (h::k)
  | _,_=>none
def rA:Nat->List (Nat×Operand)->Option (List Operand)
 | _,[]=>some []
 |a,(c,b)::d=>if a=c/\aQ b=true then(rA (a+1) d).map (b:: ·)else none
def Aw (a:Program) (b:TypeId) (c:Operand):Option cb:=
 match a.underlying b,kn a b with
 |some d,some h=>if aQ c=true/\(d.isRow=true\/h=1)then some (.load d.isRow h c)else none
 | _,_=>none
structure Env where
 jt:List Nat
 Ax:List Nat
 wr:List Nat
 tr:List Nat
 ty:Bool
 lO:Bool
 pins:List Nat:= []
 Ay:Bool:=false
 vZ:Bool:=false
def Env.Ij (a:Env):Operand->Bool
 | .tmp b=>a.Ax.contains b
 | _=>false
def Env.fT (a:Env):Option Nat->Bool
 |some b=> !a.wr.contains b
 |none=>true
def Env.mut (a:Env):Option Nat->Bool
 |some b=>a.tr.contains b
 |none=>false
def Env.box (a:Env):Option Nat->Bool
 |some b=>a.jt.contains b
 |none=>false
def w0 (h:Program) (o:Env) (r:Option Nat) (x:TypeId) (a:Operand) (c d y:Option Operand):Option cb:=
 if aQ a=true/\c.all aQ=true/\d.all aQ=true then
  match h.underlying x,y with
  |some (.slice k),none=>match kn h k with
   |some b=>some (.oQ b a c d)
   |none=>none
  |some (.array p k),none=>match kn h k with
   |some b=>if 0<b then some (if o.Ij a=true then .ju b p a c d else .kg b p a c d (o.fT r))else none
   |none=>none
  | _,_=>none
 else none
def ts (a:Program) (b:Bool) (c:TypeId) (d h:Operand):Option cb:=
 match a.underlying c with
 |some .bool=>none
 |some (.slice _)=>match h with
  | .const (.slice none 0 0)=>some (.mA b d)
  | _=>none
 |some (.pointer _)=>some (.q1 b d h)
 |some (.int _)=>some (.bin (if b then .neq else .eql) d h)
 |some .string=>some (.bin (if b then .neq else .eql) d h)
 |some k=>match flatK a 20 c with
  |some bI=>if a.cellsOf c=bI.length/\(a.info? c).isSome=true/\k.isRow=true/\a.eqGuardType a.depth c=false then some (.eqv b (mJ bI) d h)else none
  |none=>none
 |none=>none
def w1 (d:Program) (x:Env) (y:Option Nat) (k:Call):Option cb:=
 match k.callee,k.args.toList,k.argTypes.toList with
 | .value (.func p),args,_=>if fZ d p=true/\args.all aQ=true then some (.fR p args)else none
 | .builtin .len,[a],[h]=>match d.underlying h with
  |some (.slice _)=>if aQ a=true then some (.len a)else none
  |some .string=>if aQ a=true then some (.q0 a)else none
  | _=>none
 | .builtin .append,[a,b],[h,z]=>match d.underlying h with
  |some (.slice o)=>match d.info? o with
   |some c=>match c.zero with
    |some r=>if h=z/\r.cells.size=c.size/\0<c.size/\aQ a=true/\aQ b=true then(if x.mut y=true then(if r.cells.toList.all (·.oneCell')=true then some (.lI c.size c.bytes a b)else none)else some (.app c.size c.bytes a b))else none
    |none=>none
   |none=>none
  | _=>none
 | .builtin .max,[a,b],_=>if aQ a=true/\aQ b=true then some (.lH true .i64 a b)else none
 | .builtin .min,[a,b],_=>if aQ a=true/\aQ b=true then some (.lH false .i64 a b)else none
 | .builtin .copy,[a,b],[h,_]=>match d.underlying h with
  |some (.slice o)=>match kn d o with
   |some C=>if aQ a=true/\aQ b=true then some (.mz C a b)else none
   |none=>none
  | _=>none
 | _,_,_=>none
def w2 (b:Program) (y:Env) (x:Oper):Option cb:=
 match x.op with
 | .move a| .assign a=>if aQ a=true then some (.eX a)else none
 | .pick z a k=>if aQ z=true/\aQ a=true/\aQ k=true then some (.pick z a k)else none
 | .alloc T=>match ry b T with
  |some o=>some (.alloc T (o.toList.map cS))
  |none=>none
 | .box T a=>if aQ a=true then some (if y.box x.dst=true then .ke T a else .box T a)else none
 | .load d a=>Aw b d a
 | .store d a k=>match kn b d with
  |some r=>if 0<r/\aQ a=true/\aQ k=true then some (.store r a k)else none
  |none=>none
 | .nilCheck a=>if aQ a=true then some (.pX a)else none
 | .fieldAddr d a c=>match b.underlying d with
  |some (.struct D)=>match D[c]? with
   |some fd=>match kn b fd.type with
    |some r=>if r≠0/\aQ a=true then some (.kQ fd.offset a)else none
    |none=>none
   |none=>none
  | _=>none
 | .indexAddr d a c=>if aQ a=true/\aQ c=true then
   match b.underlying d with
   |some (.array len h)=>match kn b h with
    |some p=>some (.pY p len a c)
    |none=>none
   |some (.slice h)=>match kn b h with
    |some p=>some (.dG p a c)
    |none=>none
   | _=>none
  else none
 | .field _ _ _=>none
 | .index d a c=>if aQ a=true/\aQ c=true then
   match b.underlying d with
   |some (.array len h)=>match b.underlying h,kn b h with
    |some C,some p=>if C.isRow=true\/p=1 then some (.pZ C.isRow p len a c)else none
    | _,_=>none
   |some .string=>some (.lF a c)
   | _=>none
  else none
 | .build d parts=>match ry b d,rz b d parts.toList with
  |some o,some res=>if vY b d=true then some (.lG (o.toList.map cS) res)else none
  | _,_=>none
 | .buildSlice d r parts=>match b.underlying d,rA 0 parts.toList with
  |some (.slice h),some xs=>match b.info? h with
   |some c=>match c.zero with
    |some o=>if o.cells.size=c.size/\o.cells.toList.all (·.oneCell')=true/\0<c.size/\r*c.size<=2^24/\xs.length=r then some (if y.mut x.dst=true then .ki c.size xs else .kf c.size xs)else none
    |none=>none
   |none=>none
  | _,_=>none
 | .slice d a aT aU E=>w0 b y x.dst d a aT aU E
 | .binOp op d a k _=>if aQ a=true/\aQ k=true then
   match op with
   | .eql=>ts b false d a k
   | .neq=>ts b true d a k
   |op=>some (.bin op a k)
  else none
 | .unOp op _ a=>if aQ a=true then some (.un op a)else none
 | .convert st F a=>match b.underlying st,b.underlying F with
  |some (.int _),some (.int p)=>if aQ a=true then some (.iP p a)else none
  |some (.slice h),some .string=>match b.underlying h with
   |some (.int .u8)=>if aQ a=true then some (.q2 a)else none
   | _=>none
  |some .string,some (.slice h)=>match b.underlying h with
   |some (.int .u8)=>if aQ a=true then some (.q3 a)else none
   | _=>none
  | _,_=>none
 | .makeSlice d a k=>match b.underlying d with
  |some (.slice h)=>match b.info? h with
   |some c=>match c.zero with
    |some o=>if o.cells.size=c.size/\o.cells.toList.all (·.oneCell')=true/\0<c.size/\aQ a=true/\aQ k=true then some (.kh c.size c.bytes (o.cells.toList.map cS) a k)else none
    |none=>none
   |none=>none
  | _=>none
 | .extract a c=>if aQ a=true then some (.ext a c)else none
 | .call z=>w1 b y x.dst z
 | _=>none
variable{e3:cb}{I:Bool}{Z e9:Operand}{b0:Type}{b2:TypeId}
section
variable  {o:Oper}{a:Act}   
def w3 {b:TypeDesc} (c:b.isRow=true\/e=1):b.isRow=false->e=1:=λd=>c.resolve_left (by simp[d])
theorem w4 (c:ry m b2=some j8): ∃b v,m.info? b2=some b/\b.zero=some v/\v.cells=j8/\ ∀d∈j8.toList,d.oneCell'=true:=by unfold ry at c;grind
theorem Ik (c:ry m b2=some j8) (d:vY m b2=true) (b:List (Nat×Value)):m.built b2 b=Instr.fill (placeOf m b2) j8 b:=by obtain⟨h,v,k,p,rfl,_⟩:=w4 c;unfold vY at d;unfold Program.built placeOf;grind[Option.isSome_iff_exists]
theorem Az {x:TypeId}: ∀ {r:List (Nat×Operand)}{res:List (Nat×Nat×Operand)},rz m x r=some res->r.length=res.length/\
  ∀(d:Nat) (h:Nat×Operand) (b:Nat×Nat×Operand),r[d]? =some h->res[d]? =some b->placeOf m x h.1=some (b.1,b.2.1)/\h.2=b.2.2/\aQ h.2=true/\0<b.2.1
 | [],res,c=>by
  simp only[rz,a4X]at c;simp_all
 |h::r,res,c=>by
  simp only[rz]at c;split at c
  case h_2=>cases c
  rename_i b D y z;obtain rfl:=a4L c;obtain⟨C,E⟩:=Az z;refine⟨by simp[C],λd F G k p=> ?_⟩
  match d,k,p with
  |0,k,p=>simp only[a6x,a4X]at k p;subst k;subst p;unfold Av at y;grind
  |d+1,k,p=>grind
theorem AA: ∀ {d:Nat}{h:List (Nat×Operand)}{c:List Operand},rA d h=some c->h=(c.zipIdx d).map (λk=>(k.2,k.1))/\ ∀p∈c,aQ p=true
 |d,[],c,b=>by
  simp only[rA,a4X]at b;simp_all
 |d,(x,p)::y,c,b=>by
  simp only[rA]at b;split at b
  case isFalse=>cases b
  rename_i z;obtain⟨C,r,rfl⟩:=a7s.1 b;obtain⟨D,E⟩:=AA r;simp_all
def q8 {b:Array b0}{c:b0} (d:b.toList= [c]):b= #[c]:=a8w.1 d
def iS {b:Array b0}{c d:b0} (h:b.toList= [c,d]):b= #[c,d]:=a8w.1 h
theorem Il {P:Env}{S:Option Nat}{d h E:Option Operand} (z:o.op= .slice b2 Z d h E) (b:w0 m P S b2 Z d h E=some e3) (C:bK u a j) (D:Holds u f l) (k:G ⟨m,s⟩ e3 j f a7):bQ m s o a l u f a7:=by
 unfold w0 at b;split at b
 case isFalse=>cases b
 rename_i c;split at b
 .rename_i p r;split at b
  case h_2=>cases b
  rename_i x y;obtain rfl:=a4L b;exact HG b2 Z d h z p r x y c.1 c.2.1 c.2.2 C D k
 .rename_i F p r;split at b
  case h_2=>cases b
  rename_i x y;split at b
  case isFalse=>cases b
  rename_i L;obtain rfl:=a4L b;split at k
  .exact HN b2 Z d h z F p r x y L c.1 c.2.1 c.2.2 C D k
  .exact Ai b2 Z d h z F p r x y L _ c.1 c.2.1 c.2.2 C D k
 .cases b
theorem AB {c:TypeId} (d:o.op= .binOp (if I then .neq else .eql) b2 Z e9 c) (h:aQ Z=true) (y:aQ e9=true) (b:ts m I b2 Z e9=some e3) (k:bK u a j) (p:Holds u f l) (r:G ⟨m,s⟩ e3 j f a7):bQ m s o a l u f a7:=by
 unfold ts at b;split at b
 .cases b
 .rename_i z x;split at b
  .obtain rfl:=a4L b;exact HR I b2 Z c d z x h k p r
  .cases b
 .rename_i z x;obtain rfl:=a4L b;grind[HE]
 .obtain rfl:=a4L b;exact vQ _ b2 Z e9 c d h y k p r
 .obtain rfl:=a4L b;exact vQ _ b2 Z e9 c d h y k p r
 .rename_i C _ _ _ _ _ x;split at b
  case h_2=>cases b
  rename_i D E;split at b
  case isFalse=>cases b
  rename_i F;obtain rfl:=a4L b;grind[HD]
 .cases b
theorem Im {V:Env}{W:Option Nat}{P:Call} (D:o.op= .call P) (b:w1 m V W P=some e3) (E:bK u a j) (F:Holds u f l) (L:G ⟨m,s⟩ e3 j f a7):bQ m s o a l u f a7:=by
 obtain⟨A,B,H⟩:=P;unfold w1 at b;split at b
 .rename_i I c;simp only at c;subst c;split at b
  case isFalse=>cases b
  rename_i h;obtain rfl:=a4L b;obtain⟨y,S⟩:=h;unfold fZ at y;split at y
  case h_2=>cases y
  rename_i K M;simp only[a4Q,bne_iff_ne,ne_eq]at y;grind[HF,List.all_eq_true]
 .rename_i k x c d p;simp only at c d p;subst c;obtain rfl:=q8 d;obtain rfl:=q8 p;split at b
  .rename_i z r;split at b
   case isFalse=>cases b
   rename_i h;obtain rfl:=a4L b;exact Hx x k D z r h E F L
  .rename_i r;split at b
   case isFalse=>cases b
   rename_i h;obtain rfl:=a4L b;exact Hy x k D r h E F L
  .cases b
 .rename_i k C x T c d p;simp only at c d p;subst c;obtain rfl:=iS d;obtain rfl:=iS p;split at b
  case h_2=>cases b
  rename_i z r;split at b
  case h_2=>cases b
  rename_i e g;split at b
  case h_2=>cases b
  rename_i i n;split at b
  case isFalse=>cases b
  rename_i h;obtain⟨rfl,y,S,q,t⟩:=h;split at b
  .split at b
   case isFalse=>cases b
   rename_i N;obtain rfl:=a4L b;exact Ao k C x x _ r (.inl ⟨z,rfl⟩) D z r e g i n y (by grind) S q t E F L
  .obtain rfl:=a4L b;grind[HK]
 .rename_i k C c d;simp only at c d;subst c;obtain rfl:=iS d;split at b
  case isFalse=>cases b
  rename_i h;obtain rfl:=a4L b;grind[Ap]
 .rename_i k C c d;simp only at c d;subst c;obtain rfl:=iS d;split at b
  case isFalse=>cases b
  rename_i h;obtain rfl:=a4L b;grind[Ap]
 .rename_i k C x T c d p;simp only at c d p;subst c;obtain rfl:=iS d;obtain rfl:=iS p;split at b
  case h_2=>cases b
  rename_i z r;split at b
  case h_2=>cases b
  rename_i v w;split at b
  case isFalse=>cases b
  rename_i h;obtain rfl:=a4L b;exact HQ x T k C D z r v w h.1 h.2 E F L
 .cases b
theorem Io {K:Env} (b:w2 m K o=some e3) (x:bK u a j) (p:Holds u f l) (r:G ⟨m,s⟩ e3 j f a7):bQ m s o a l u f a7:=by
 unfold w2 at b;split at b
 case h_1 d c=>split at b;(rename_i y;obtain rfl:=a4L b;exact Ae d (.inl c) y x p r);(cases b)
 case h_2 d c=>split at b;(rename_i y;obtain rfl:=a4L b;exact Ae d (.inr c) y x p r);(cases b)
 case h_3 M d S c=>split at b;(rename_i y;obtain rfl:=a4L b;grind[Ho]);(cases b)
 case h_4 T c=>
  split at b
  .rename_i i L;obtain rfl:=a4L b;obtain⟨z,v,g,B,rfl,n⟩:=w4 L;exact Hm T c z g v B n p r
  .cases b
 case h_5 T d c=>
  split at b
  .rename_i y;obtain rfl:=a4L b;grind[HM,Hn]
  .cases b
 case h_6 k d c=>
  unfold Aw at b;split at b
  .rename_i q P C V;split at b
   .rename_i h;obtain rfl:=a4L b;exact Hj k d c q C P V (w3 h.2) h.1 x p r
   .cases b
  .cases b
 case h_7 k d S c=>
  split at b
  .rename_i P V;split at b
   .rename_i h;obtain rfl:=a4L b;exact Hl k d S c P V h.1 h.2.1 h.2.2 x p r
   .cases b
  .cases b
 case h_8 d c=>split at b;(rename_i y;obtain rfl:=a4L b;exact Hp d c y x p r);(cases b)
 case h_9 k d z c=>
  split at b
  .rename_i N C;split at b
   .rename_i O Q;split at b
    .rename_i P V;split at b
     .rename_i h;obtain rfl:=a4L b;exact Hq k d z c N C O Q P V h.1 h.2 x p r
     .cases b
    .cases b
   .cases b
  .cases b
 case h_10 k d z c=>
  split at b
  case isFalse=>cases b
  rename_i h;split at b
  .rename_i len D C;split at b
   .rename_i E W;obtain rfl:=a4L b;exact Hr k d z c len D C E W h.1 h.2 x p r
   .cases b
  .rename_i D C;split at b
   .rename_i E W;obtain rfl:=a4L b;exact Hs k d z c D C E W h.1 h.2 x p r
   .cases b
  .cases b
 trivial
 case h_12 k d z c=>
  split at b
  case isFalse=>cases b
  rename_i h;split at b
  .rename_i len D C;split at b
   .rename_i q E F W;split at b
    .rename_i X;obtain rfl:=a4L b;exact Hu k d z c len D C q F E W (w3 X) h.1 h.2 x p r
    .cases b
   .cases b
  .rename_i C;obtain rfl:=a4L b;exact Hv k d z c C h.1 h.2 x p r
  .cases b
 case h_13 k H c=>
  split at b
  .rename_i i res L Y;split at b
   .rename_i Z;obtain rfl:=a4L b;obtain⟨z,v,g,B,rfl,n⟩:=w4 L;obtain⟨j9,k0⟩:=Az Y;exact HI k H c (placeOf m k) _ res (Ik L Z) n j9 k0 x p r
   .cases b
  .cases b
 case h_14 k P H c=>
  split at b
  .rename_i D k4 C k1;split at b
   .rename_i z g;split at b
    .rename_i i L;split at b
     .rename_i h;obtain rfl:=a4L b;obtain⟨k5,k6⟩:=AA k1;grind[HJ,List.all_eq_true,Am]
     .cases b
    .cases b
   .cases b
  .cases b
 grind[Il]
 case h_16 I k d S k2 c=>
  split at b
  case isFalse=>cases b
  rename_i h;split at b;grind[AB];grind[AB]
  .obtain rfl:=a4L b;exact vQ _ k d S k2 c h.1 h.2 x p r
 case h_17 I k d c=>split at b;(rename_i y;obtain rfl:=a4L b;exact HB I k d c y x p r);(cases b)
 case h_18 t w d c=>
  split at b
  .rename_i k3 E e F;split at b
   .rename_i y;obtain rfl:=a4L b;exact HC t w d c E k3 e F y x p r
   .cases b
  .rename_i D e F;split at b
   .rename_i A;split at b
    .rename_i y;obtain rfl:=a4L b;exact HO t w d c D e A F y x p r
    .cases b
   .cases b
  .rename_i D e F;split at b
   .rename_i A;split at b
    .rename_i y;obtain rfl:=a4L b;exact HS t w d c D e F A y x p r
    .cases b
   .cases b
  .cases b
 case h_19 k d S c=>
  split at b
  case h_2=>cases b
  rename_i D C;split at b
  case h_2=>cases b
  rename_i z g;split at b
  case h_2=>cases b
  rename_i i L;split at b
  case isFalse=>cases b
  rename_i h;obtain rfl:=a4L b;grind[HP,List.all_eq_true]
 case h_20 d z c=>split at b;(rename_i y;obtain rfl:=a4L b;exact Hw d z c y x p r);(cases b)
 case h_21 M c=>exact Im c b x p r
 .cases b
end
def AD (a:Program) (b:TypeId):Bool:=
 match a.underlying b with
 |some (.slice _)=>true
 |some .string=>true
 | _=>false
def w5 (b:Program) (p:Env) (r:Option Nat) (c d:Operand) (h k:TypeId):Option cb:=
 match b.underlying h with
 |some (.slice x)=>match b.info? x with
  |some a=>match a.zero with
   |some o=>if AD b k=true/\o.cells.size=a.size/\o.cells.toList.all (·.oneCell')=true/\0<a.size/\aQ c=true/\aQ d=true then
     (if h≠k/\p.mut r=true then some (.lI a.size a.bytes c d)else none)else none
   |none=>none
  |none=>none
 | _=>none
def w6 (b:Program) (c:Env) (d:Option Nat) (a:Call):Option cb:=
 match a.callee,a.args.toList,a.argTypes.toList with
 | .value (.tmp h),args,_=>if args.all aQ=true then some (.iQ (.tmp h) args)else none
 | .builtin .append,[k,o],[p,r]=>w5 b c d k o p r
 | _,_,_=>none
def AE:TypeDesc->Bool
 | .interface _=>true
 | _=>false
def Ip {a:TypeDesc} (c:AE a=false): ∀b,a≠ .interface b:=λb hm=>by subst hm;cases c
def rB (a:Program) (b:TypeId) (c:List c8):Bool:=
 decide (a.cellsOf b=c.length)&&(a.info? b).isSome&&(match a.underlying b with|some (.array _ _)|some (.struct _)=>true| _=>false)
theorem AF {a:List c8} (c:flatK m 20 b2=some a) (b:rB m b2 a=true):mL m b2 (mJ a):=by simp only[rB,a4Q,decide_eq_true_eq]at b;obtain⟨⟨d,h⟩,k⟩:=b;refine⟨⟨20,a9p,by rw[tq];exact c⟩,by rw[tq];exact d,h,?_⟩;grind
def w7 (a:Program) (k:Op):Option cb:=
 match k with
 | .makeMap _ none=>some .kk
 | .lookup mt b c ok=>match a.underlying mt with
  |some (.map d o)=>match flatK a 20 d,a.info? o with
   |some bI,some p=>match p.zero with
    |some h=>if rB a d bI=true/\rm h=true/\aQ b=true/\aQ c=true then some (.lJ ok (mJ bI) (ofConst h) b c)else none
    |none=>none
   | _,_=>none
  | _=>none
 | .mapUpdate mt b c v| .insert mt b c v=>match a.underlying mt with
  |some (.map d _)=>match flatK a 20 d with
   |some bI=>if rB a d bI=true/\aQ b=true/\aQ c=true/\aQ v=true then some (.lK (mJ bI) b c v)else none
   |none=>none
  | _=>none
 | _=>none
def w8 (c:Program) (h:Env) (d:Oper):Option cb:=
 match d.op with
 | .makeFunc (.func k) first cap=>if first.toList.all aQ=true/\cap.toList.all aQ=true then some (.bG k first.toList cap.toList)else none
 | .makeInterface b a=>match c.underlying b with
  |some o=>if AE o=false/\aQ a=true then some (.q4 b a)else none
  |none=>none
 | .panic a=>if aQ a=true then some (.mB a)else none
 | .range b a=>match c.underlying b with
  |some .string=>if aQ a=true then some (.kj a)else none
  | _=>none
 | .next a true=>if aQ a=true then some (.mC a)else none
 | .call p=>w6 c h d.dst p
 | _=>none
def AG (a:Program) (c:FuncId):Bool:=
  match a.funcs[c]? with
  |some fn=>fn.origin== "slices.overlaps" &&fn.body.isNone&& !(fn.name== "runtime.NumGoroutine")&&(Extern.allNextRows.lookup fn.name).isNone&&(Extern.allGenericRows.lookup fn.name).isNone&&(Extern.allTypedRows.lookup fn.name).isNone&&(Extern.allRows.lookup fn.name).isNone&&
    (match fn.params.toList with
     | [b,d]=>b==d&&(match a.underlying b with|some (.slice h)=>(a.info? h).isSome| _=>false)
     | _=>false)
  |none=>false
def w9 (c:Program) (r:Env) (p:Call):Option cb:=
 match p.callee,p.args.toList,p.argTypes.toList with
 | .builtin .cap,[a],[h]=>match c.underlying h with
  |some (.slice _)=>if aQ a=true then some (.mD a)else none
  | _=>none
 | .builtin .clear,[a],[h]=>match c.underlying h with
  |some (.slice o)=>match c.info? o with
   |some b=>match b.zero with
    |some k=>if k.cells.size=b.size/\k.cells.toList.all (·.oneCell')=true/\0<b.size/\aQ a=true then some (.mE b.size (k.cells.toList.map cS) a)else none
    |none=>none
   |none=>none
  | _=>none
 | .builtin .copy,[a,d],[h,_]=>if r.vZ=true then(match c.underlying h with
  |some (.slice o)=>match kn c o with
   |some x=>if aQ a=true/\aQ d=true then some (.mF x a d)else none
   |none=>none
  | _=>none)else none
 | .builtin .append,[a,d],[h,y]=>match c.underlying y with
  |some (.int _)=>match c.underlying h with
   |some (.slice o)=>match c.info? o with
    |some b=>match b.zero with
     |some k=>if k.cells.size=b.size/\k.cells.toList.all (·.oneCell')=true/\0<b.size/\aQ a=true/\aQ d=true then some (.mG b.size b.bytes (k.cells.toList.map cS) a d)else none
     |none=>none
    |none=>none
   | _=>none
  | _=>none
 | .value (.func z),[a,d],_=>if AG c z=true/\aQ a=true/\aQ d=true then some (.mH a d)else none
 | _,_,_=>none
def wa (a:Program) (c:Env) (h:Oper):Option cb:=
 match h.op with
 | .slice k d aT aU b=>if c.vZ=true then(match a.underlying k with
  |some (.slice o)=>match kn a o with
   |some p=>if aQ d=true/\aT.all aQ=true/\aU.all aQ=true/\b.all aQ=true/\(b=none\/aU.isSome=true)then some (.lL p d aT aU b)else none
   |none=>none
  | _=>none)else none
 | .call r=>w9 a c r
 | _=>none
def wb (b:Program) (d:Env) (c:Oper):Option cb:=
 match wa b d c with
 |some a=>some a
 |none=>match w7 b c.op with
 |some a=>some a
 |none=>match w8 b d c with
 |some a=>some a
 |none=>w2 b d c
def Iq:Extern.allNextRows.lookup "slices.overlaps" =none:=by rfl
def Ir:Extern.allGenericRows.lookup "slices.overlaps" =none:=by rfl
def Is:Extern.allTypedRows.lookup "slices.overlaps" =some Extern.SlicesOverlaps.overlaps:=by rfl
section
variable  {o:Oper}{a:Act}   
theorem It {h:Env}{k:Option Nat}{d:TypeId} (y:o.op= .call {callee:= .builtin .append,args:= #[Z,e9],argTypes:= #[d,b2]}) (b:w5 m h k Z e9 d b2=some e3) (z:bK u a j) (C:Holds u f l) (D:G ⟨m,s⟩ e3 j f a7):bQ m s o a l u f a7:=by
 unfold w5 at b;split at b
 case h_2=>cases b
 rename_i E F;split at b
 case h_2=>cases b
 rename_i L P;split at b
 case h_2=>cases b
 rename_i S T;split at b
 case isFalse=>cases b
 rename_i p;obtain⟨r,V,W,e,g,i⟩:=p;obtain⟨c,n,q⟩: ∃c,m.underlying b2=some c/\((∃x,c= .slice x)\/c= .string):=by unfold AD at r;grind
 split at b
 case isFalse=>cases b
 obtain rfl:=a4L b;grind[Ao,List.all_eq_true]
theorem Iu {z:Env}{C:Option Nat}{d:Call} (h:o.op= .call d) (b:w6 m z C d=some e3) (k:bK u a j) (p:Holds u f l) (r:G ⟨m,s⟩ e3 j f a7):bQ m s o a l u f a7:=by
 obtain⟨L,D,E⟩:=d;unfold w6 at b;split at b
 .rename_i F c;simp only at c;subst c;split at b
  case isFalse=>cases b
  rename_i P;obtain rfl:=a4L b;exact HU (.tmp F) D E h rfl (by grind) k p r
 .rename_i S T V W c x y;simp only at c x y;subst c;obtain rfl:=iS x;obtain rfl:=iS y;exact It h b k p r
 .cases b
theorem Iv {z:Env} (b:w8 m z o=some e3) (k:bK u a j) (p:Holds u f l) (r:G ⟨m,s⟩ e3 j f a7):bQ m s o a l u f a7:=by
 unfold w8 at b;split at b
 .rename_i D first E c
  split at b
  case isFalse=>cases b
  rename_i d;obtain rfl:=a4L b;grind[HT,List.all_eq_true]
 .rename_i x h c;split at b
  case h_2=>cases b
  rename_i C y;split at b
  case isFalse=>cases b
  rename_i d;obtain rfl:=a4L b;exact HV x h c C y (Ip d.1) d.2 k p r
 .rename_i h c;split at b
  case isFalse=>cases b
  rename_i d;obtain rfl:=a4L b;exact HW h c d k p r
 .rename_i x h c;split at b
  case h_2=>cases b
  rename_i y;split at b
  case isFalse=>cases b
  rename_i d;obtain rfl:=a4L b;exact HX x h c y d k p r
 .rename_i h c;split at b
  case isFalse=>cases b
  rename_i d;obtain rfl:=a4L b;exact HY h c d k p r
 .rename_i F c;exact Iu c b k p r
 .cases b
theorem Iw (b:w7 m o.op=some e3) (C:bK u a j) (r:Holds u f l) (x:G ⟨m,s⟩ e3 j f a7):bQ m s o a l u f a7:=by
 have lE: ∀mt d h v,(o.op= .mapUpdate mt d h v\/o.op= .insert mt d h v)->(match m.underlying mt with
  |some (.map k _)=>match flatK m 20 k with
   |some p=>if rB m k p=true/\aQ d=true/\aQ h=true/\aQ v=true then some (.lK (mJ p) d h v)else none
   |none=>none
  | _=>none)=some e3->bQ m s o a l u f a7:=by
  intro mt d h v E b;split at b
  case h_2=>cases b
  rename_i k y hm;split at b
  case h_2=>cases b
  rename_i p z;split at b
  case isFalse=>cases b
  rename_i c;obtain rfl:=a4L b;exact I8 mt k y d h v E hm (AF z c.1) c.2.1 c.2.2.1 c.2.2.2 C r x
 generalize D:o.op=S at b;unfold w7 at b;split at b
 .obtain rfl:=a4L b;exact I6 _ D r x
 .split at b
  case h_2=>cases b
  rename_i k y hm;split at b
  case h_2=>cases b
  rename_i p T z F;split at b
  case h_2=>cases b
  rename_i L P;split at b
  case isFalse=>cases b
  rename_i c;obtain rfl:=a4L b;exact I7 _ k y _ _ _ D hm (AF z c.1) F P (aY.ofConst u L c.2.1) c.2.2.1 c.2.2.2 C r x
 .simp_all
 .simp_all
 .cases b
theorem Ix {g:Env}{F:Call} (L:o.op= .call F) (b:w9 m g F=some e3) (P:bK u a j) (S:Holds u f l) (T:G ⟨m,s⟩ e3 j f a7):bQ m s o a l u f a7:=by
 obtain⟨k4,k5,i⟩:=F;unfold w9 at b;split at b
 .rename_i r k c d h;simp only at c d h;subst c;obtain rfl:=q8 d;obtain rfl:=q8 h;split at b
  case h_2=>cases b
  rename_i x y;split at b
  case isFalse=>cases b
  rename_i p;obtain rfl:=a4L b;exact I9 k r L x y p P S T
 .rename_i r k c d h;simp only at c d h;subst c;obtain rfl:=q8 d;obtain rfl:=q8 h;split at b
  case h_2=>cases b
  rename_i x y;split at b
  case h_2=>cases b
  rename_i n q;split at b
  case h_2=>cases b
  rename_i t v;split at b
  case isFalse=>cases b
  rename_i p;obtain rfl:=a4L b;grind[Ic,List.all_eq_true]
 .rename_i r C k W c d h;simp only at c d h;subst c;obtain rfl:=iS d;obtain rfl:=iS h;split at b
  case isFalse=>cases b
  split at b
  case h_2=>cases b
  rename_i x y;split at b
  case h_2=>cases b
  rename_i w A;split at b
  case isFalse=>cases b
  rename_i p;obtain rfl:=a4L b;exact Ig k W r C L x y w A p.1 p.2 P S T
 .rename_i r C k k6 c d h;simp only at c d h;subst c;obtain rfl:=iS d;obtain rfl:=iS h;split at b
  case h_2=>cases b
  rename_i k7 k8;split at b
  case h_2=>cases b
  rename_i x y;split at b
  case h_2=>cases b
  rename_i n q;split at b
  case h_2=>cases b
  rename_i t v;split at b
  case isFalse=>cases b
  rename_i p;obtain rfl:=a4L b;grind[Ii,List.all_eq_true]
 .rename_i B r C c d;simp only at c d;subst c;obtain rfl:=iS d;split at b
  case isFalse=>cases b
  rename_i p;obtain rfl:=a4L b;obtain⟨z,H,I⟩:=p;unfold AG at z;split at z
  case h_2=>cases z
  rename_i D K;simp only[a4Q,beq_iff_eq,Option.isNone_iff_eq_none,a6t]at z;obtain⟨⟨⟨⟨⟨⟨⟨e,M⟩,N⟩,O⟩,Q⟩,X⟩,Y⟩,E⟩:=z;split at E
  case h_2=>cases E
  rename_i k W Z;simp only[a4Q,beq_iff_eq]at E;obtain⟨rfl,V⟩:=E;split at V
  case h_2=>cases V
  rename_i x y;obtain⟨j9,k0⟩:=a5z.1 V;have k1:=iS Z;have k2:Extern.findNext D=none:=by simp[Extern.findNext,e,O,Iq]
  have k3:Extern.find D=some (Extern.SlicesOverlaps.overlaps #[k,k] D.resultTypes):=by simp[Extern.find,e,Q,X,Y,Ir,Is,k1]
  exact Ih B D r C i L K N (by rw[M];rfl) k2 k _ k3 x y j9.size (by rw[k0];rfl) H I P S T
 .cases b
def Iy {r:Env} (b:wa m r o=some e3) (h:bK u a j) (k:Holds u f l) (p:G ⟨m,s⟩ e3 j f a7):bQ m s o a l u f a7:=by
 unfold wa at b;split at b
 .rename_i x y z C D d;split at b
  case isFalse=>cases b
  split at b
  case h_2=>cases b
  rename_i E F;split at b
  case h_2=>cases b
  rename_i L P;split at b
  case isFalse=>cases b
  rename_i c;obtain rfl:=a4L b;exact Ib x y z C D d c.2.2.2.2 E F L P c.1 c.2.1 c.2.2.1 c.2.2.2.1 h k p
 .rename_i S d;exact Ix d b h k p
 .cases b
def Iz {r:Env} (b:wb m r o=some e3) (d:bK u a j) (h:Holds u f l) (k:G ⟨m,s⟩ e3 j f a7):bQ m s o a l u f a7:=by
 unfold wb at b;split at b
 .rename_i p c;obtain rfl:=a4L b;exact Iy c d h k
 split at b
 .rename_i p c;obtain rfl:=a4L b;exact Iw c d h k
 .split at b
  .rename_i p c;obtain rfl:=a4L b;exact Iv c d h k
  .exact Io b d h k
end
structure c7 where
 dst:Option Nat
 op:cb
 guard:Option (Nat×Bool)
def E (h:Ctx) (c:c7) (d:Fr) (a:U) (b:R->U->Prop):Prop:=
 match c.guard with
 |none=>G h c.op d a b
 |some (k,want)=>match d k with
  | .v (.bool o)=>if o=want then G h c.op d a b else b (.aI []) a
  | .aI []=>b (.aI []) a
  | _=>False
def T (c:Ctx) (a:c7) (d:Fr->U->Prop) (b:Fr) (h:U):Prop:=E c a b h λk o=>d (dk b a.dst k) o
def iT (b:Ctx):List c7->(Fr->U->Prop)->Fr->U->Prop
 | [],a=>a
 |c::d,a=>T b c (iT b d a)
variable{K:Ctx}
theorem mM {b:c7} (c: ∀d h,s d h->a7 d h) (a:E K b j f s):E K b j f a7:=by
 unfold E at*;cases k:b.guard with
 |none=>rw[k]at a;exact Ab c a
 |some fC=>
  obtain⟨p,r⟩:=fC;rw[k]at a;simp only at a|-;split at a
  .split at a
   .next o=>rw[if_pos o];exact Ab c a
   simp_all
  .exact c _ _ a
  .omega
variable{j6:Fr -> U -> Prop}
def rC {b:c7}{c:Fr->U->Prop} (h: ∀j d,j6 j d->c j d) (a:T K b j6 j f):T K b c j f:=mM (λ_ _ a=>h _ _ a) a
def tmpsOf (a:List Operand):List Nat:=a.filterMap λ| .tmp b=>some b| _=>none
def cb.operands:cb->List Operand
 | .eX a| .q4 _ a| .mB a| .kj a| .mC a| .box _ a| .ke _ a| .q2 a| .q3 a| .mA _ a| .load _ _ a| .pX a| .kQ _ a| .len a| .q0 a| .un _ a| .iP _ a| .ext a _| .mD a| .mE _ _ a=> [a]
 | .pick d h k=> [d,h,k]
 | .alloc _ _| .kk=> []
 | .lJ _ _ _ a c=> [a,c]
 | .lK _ a c v=> [a,c,v]
 | .bG _ first cap=>first++cap
 | .iQ a args=>a::args
 | .store _ a b| .pY _ _ a b| .dG _ a b| .pZ _ _ _ a b| .lF a b| .bin _ a b| .eqv _ _ a b| .q1 _ a b| .app _ _ a b| .lI _ _ a b| .lH _ _ a b| .kh _ _ _ a b| .mz _ a b| .mF _ a b| .mG _ _ _ a b| .mH a b=> [a,b]
 | .lG _ o=>o.map λp=>p.2.2
 | .kf _ xs=>xs
 | .ki _ xs=>xs
 | .oQ _ a aT aU| .kg _ _ a aT aU _| .ju _ _ a aT aU=>a::(aT.toList++aU.toList)
 | .lL _ a aT aU r=>a::(aT.toList++(aU.toList++r.toList))
 | .fR _ args=>args
def c7.reads (a:c7):List Nat:=tmpsOf a.op.operands++(match a.guard with|some (b,_)=> [b]|none=> [])
def IA {a:Fr}{b:List Operand} (d: ∀c∈tmpsOf b,j c=a c) (h:Z∈b):al j Z=al a Z:=by
 cases Z<;>first
  |rfl
  |exact d _ (a8m.2 ⟨_,h,rfl⟩)
def AH {b c:Fr}{k:List R->Prop}: ∀(d:List (Nat×Nat×Operand)) (h:List R),(∀a∈d,al b a.2.2=al c a.2.2)->(kl b h d k↔kl c h d k)
 | [],_,_=>a7g
 |(off,cm,o)::r,h,p=>by
  have x:al b o=al c o:=p _ (a6G);simp only[kl,x];rw[AH r _ (λa y=>p a (a6h _ y))]
theorem oU {c:Fr}{a:Option Operand} (h: ∀b∈a.toList,al j b=al c b) (d:Nat):da j a d=da c a d:=by
 cases a with
 |none=>rfl
 |some b=>simp only[da,h b a9q]
theorem AI {k:Fr} (z: ∀r∈tmpsOf e3.operands,j r=k r) (x:U) (y:R->U->Prop):G K e3 j x y↔G K e3 k x y:=by
 have a: ∀d∈e3.operands,al j d=al k d:=λd C=>IA z C;cases e3<;>simp only[cb.operands,a5j,a6m,or_false,forall_eq_or_imp,forall_eq,a5a]at a<;>simp only[G]
 case lG D E=>exact AH E D (λF L=>a _ (a5h.2 ⟨F,L,rfl⟩))
 case kf h P=>rw[a6r a]
 case ki h P=>rw[a6r a]
 case fR S T=>rw[a6r a]
 case iQ d T=>rw[a.1,a6r a.2]
 case bG S first W=>grind[List.map_congr_left]
 case oQ h d o p=>simp only[a.1,oU (λb c=>a.2 b (.inl c)),oU (λb c=>a.2 b (.inr c))]
 case lL h d o p e=>simp only[rr,a.1,oU (λb c=>a.2 b (.inl c)),oU (λb c=>a.2 b (.inr (.inl c))),oU (λb c=>a.2 b (.inr (.inr c)))]
 case kg h V d o p f=>grind[oU]
 case ju h V d o p=>grind[oU]
 all_goals simp_all
def IB {a:c7}{h:Fr} (k: ∀b∈a.reads,j b=h b) (c:U) (d:R->U->Prop):E K a j c d↔E K a h c d:=by
 have o:=λb p=>k b (a6Y _ p);unfold E;cases r:a.guard with
 |none=>exact AI o c d
 |some fC=>
  obtain⟨x,z⟩:=fC;have y:=k x (a6T _ (by simp[r]));simp only[y];split
  .split
   .exact AI o c d
   .rfl
  .rfl
  .rfl
def IC (c:Fr) (a:Nat) (b:R):(dk c (some a) b) a=b:=by simp[dk,lE]
theorem tt (c:Fr) (a:Option Nat) (d:R) (b:Nat) (h:a≠some b):(dk c a d) b=c b:=by
 cases a with
 |none=>rfl
 |some a=>simp[dk,lE,a4U (λk=>h (by rw[k]):a≠b)]
theorem q9 (d:Fr) (a b:Option Nat) (h k:R) (o: ∀c,a=some c->b≠some c):dk (dk d a h) b k=dk (dk d b k) a h:=by
 cases a with
 |none=>rfl
 |some a=>
  cases b with
  |none=>rfl
  |some b=>have r:a≠b:=λp=>o a rfl (by rw[p]);funext c;simp only[dk,lE];grind
theorem kU {b:c7} (c:Option Nat) (p: ∀a,c=some a->a∉b.reads) (d:Fr) (o:R) (h:U) (k:R->U->Prop):E K b (dk d c o) h k↔E K b d h k:=
 IB (λa r=>tt d c o a (λx=>p a x r)) h k
theorem U.dX (a:U) (d:e≠i) (b c:br):(a.set e b).set i c=(a.set i c).set e b:=by grind[U.set]
theorem U.ID (a:U) (c:e≠i) (b:br):(a.set e b).del i=(a.del i).set e b:=by grind[U.set,U.del]
theorem U.tu (a:U) (b:Nat) (c:br) (d:a b=none):a.join (U.emp.set b c)=a.set b c:=by grind[U.join,U.set,U.emp]
theorem qa (c:U) (b:Nat) (d:br):c.pR (U.emp.set b d)↔c b=none:=by
 constructor
 .intro a;rcases a b with a|a
  .exact a
  .simp[U.set]at a
 .intro a h;grind[U.set,U.emp]
def rD (b:Nat) (c:br) (d:R->U->Prop):R->U->Prop:=λh k=> ∃a,d h a/\a b=none/\k=a.set b c
theorem rE (a:U) (c:br) (d:a e=none) (b:a.read i=some g):(a.set e c).read i=some g:=by
 have h:i≠e:=by rintro rfl;simp[U.read,d]at b
 simpa[U.read,U.ao _ _ h] using b
theorem AJ (a:U) (d:br) (h:a e=none) {b:Nat×List R} (c:bN a i n=some b):bN (a.set e d) i n=some b:=by
 unfold bN at c|-;split
 .exact c
 grind[rE];grind[rE];simp_all
theorem IE (a:U) (c:br) (h:a e=none) {d:Nat×List R} (b:mI a i n=some d):mI (a.set e c) i n=some d:=by
 unfold mI at b|-;split
 .exact b
 .rename_i k;split at b
  .simp_all
  .exact AJ a c h b
theorem IF (b:U) (c:br) (h:b e=none) (a:kR i g n b=some f):kR i g n (b.set e c)=some (f.set e c)/\f e=none:=by
 unfold kR at a|-;split at a
 .rename_i k o p r x;split at a
  case h_2=>cases a
  rename_i y d;have z:k≠e:=by rintro rfl;rw[h]at d;cases d
  split at a
  case isFalse=>cases a
  rename_i C;obtain rfl:=a4L a;simp_all [U.ao,U.dX,a4U]
 simp_all
 .cases a
theorem IG (c:U) (d:br) (h:c e=none) {o:R} (a:lM i n b3 c=some (o,f)):lM i n b3 (c.set e d)=some (o,f.set e d)/\f e=none:=by
 unfold lM at a|-;split at a
 case h_2=>cases a
 rename_i E F p;rw[AJ c d h p];simp only;split at a
 .rename_i k G r x y;split at a
  case h_2=>cases a
  rename_i z b;have C:k≠e:=by rintro rfl;rw[h]at b;cases b
  split at a
  case isFalse=>cases a
  rename_i D;simp only[a4X,a5W]at a;obtain⟨rfl,rfl⟩:=a;simp_all [U.ao,U.dX,a4U]
 .rename_i k r x y;split at a
  case h_2=>cases a
  rename_i z b;have C:k≠e:=by rintro rfl;rw[h]at b;cases b
  split at a
  case isFalse=>cases a
  rename_i D;simp only[a4X,a5W]at a;obtain⟨rfl,rfl⟩:=a;simp_all [U.ao,U.dX,a4U]
 simp_all
 .cases a
theorem IH (a:U) (c:br) (h:a e=none) {d:R} (k:kS n b3 a=some d):kS n b3 (a.set e c)=some d:=by
 have p: ∀b,km a b=true->km (a.set e c) b=true:=λb o=>by
  have r:b≠e:=by rintro rfl;simp[km,h]at o
  grind[km,U.ao]
 unfold kS at k|-;grind
variable{Y:br}
theorem AK (c:f e=none) (a:G K e3 j f s):G K e3 j (f.set e Y) (rD e Y s):=by
 have D: ∀x,s x f->rD e Y s x (f.set e Y):=λx g=>⟨f,g,c,rfl⟩;have l6: ∀(d) (E) (x),(f.set e Y) d=none->(f d=none->s x (f.set d E))->rD e Y s x ((f.set e Y).set d E):=λd E x S F=>by
  have b:e≠d:=by rintro rfl;simp[U.set]at S
  rw[U.ao _ _ (a4U b)]at S;exact⟨_,F S,by rw[U.ao _ _ b];exact c,U.dX f b Y E⟩
 cases e3<;>simp only[G]at a|-
 case fR l7 O=>
  have:=hC.frame a ((qa f e Y).2 c);rw[U.tu f e Y c]at this;refine this.mono (λx Q ⟨p,i,V,l⟩=>⟨p,i,(qa p e Y).1 V,?_⟩) (λ_ _ a=>a);rw[l,U.tu p e Y ((qa p e Y).1 V)]
 case iQ o O=>
  split at a
  case h_2=>omega
  refine⟨a.1,?_⟩;have:=hC.frame a.2 ((qa f e Y).2 c);rw[U.tu f e Y c]at this;refine this.mono (λx Q ⟨p,i,V,l⟩=>⟨p,i,(qa p e Y).1 V,?_⟩) (λ_ _ a=>a);rw[l,U.tu p e Y ((qa p e Y).1 V)]
 case mD o=>grind
 case lL=>grind
 case mE r m o=>
  split at a
  case h_2=>exact a.elim
  rename_i p n;obtain⟨q,t⟩:=IF f Y c n;rw[q];exact⟨p,a,t,rfl⟩
 case mF r o L=>
  split at a
  case h_2=>exact a.elim
  rename_i x p n;obtain⟨q,t⟩:=IG f Y c n;rw[q];exact⟨p,a,t,rfl⟩
 case mH o L=>
  grind[IH]
 case mG r bytes m o L=>
  grind[rE]
 case kk=>grind
 case lJ l8 X m o r=>
  split at a
  case h_2=>omega
  next d C z Z=>
  split at a
  case h_2=>exact a.elim
  next j9 k0 y=>
  have b:d≠e:=by rintro rfl;rw[c]at y;cases y
  grind[U.ao,dC]
 case lK X o r v=>
  split at a
  case h_2=>omega
  next d C z Z=>
  split at a
  case h_2=>exact a.elim
  next j9 k0 y=>
  have b:d≠e:=by rintro rfl;rw[c]at y;cases y
  rw[U.ao _ _ b,y];exact⟨a.1,a.2.1,_,a.2.2,by rw[U.ao _ _ (a4U b)];exact c,U.dX f (a4U b) Y _⟩
 case kj o=>grind
 case mB o=>
  split at a
  case h_2=>omega
  obtain⟨k1,S,F⟩:=a;refine⟨k1,λd E k2=> ?_,F⟩;have:=S d E k2;have b:d≠e:=by grind
  rw[U.ao _ _ b];exact this
 case mC o=>
  split at a
  case h_2=>omega
  next d W z=>
  refine⟨a.1,?_⟩;have F:=a.2;split at F
  case h_2=>trivial
  next l9 n0 y=>
  have b:d≠e:=by rintro rfl;rw[c]at y;cases y
  rw[U.ao _ _ b,y];simp only;split
  .next k3=>rw[if_pos k3]at F;exact⟨_,F,by rw[U.ao _ _ (a4U b)];exact c,U.dX f (a4U b) Y _⟩
  simp_all
 case lG k4 n1=>exact vL (λC h=>D _ h) _ _ a
 case alloc T k4=>grind
 case box T o=>simp_all
 case ke T o=>simp_all
 case kh r bytes m o L=>grind
 case lH=>grind
 case mA n2 o=>
  grind
 case ki r I=>
  grind
 case lI r bytes o L=>
  split at a
  case h_2=>exact a.elim
  rename_i n3 u k5;rw[IE f Y c k5];simp only;split at a;grind
  .next d P w A z=>
   split at a
   case h_3=>exact a.elim
   all_goals
   rename_i C h;have b:d≠e:=by rintro rfl;rw[c]at h;cases h
   rw[U.ao _ _ b,h];refine⟨a.1,a.2.1,a.2.2.1,a.2.2.2.1,?_⟩;have k:=a.2.2.2.2;split
   .next B=>rw[if_pos B]at k;exact⟨_,k,by rw[U.ao _ _ (a4U b)];exact c,U.dX f (a4U b) Y _⟩
   simp_all
  .next d W P w A z=>
   split at a
   case h_2=>exact a.elim
   rename_i C h;have b:d≠e:=by rintro rfl;rw[c]at h;cases h
   rw[U.ao _ _ b,h];refine⟨a.1,a.2.1,a.2.2.1,a.2.2.2.1,?_⟩;have k:=a.2.2.2.2;split
   .next B=>rw[if_pos B]at k;exact⟨_,k,by rw[U.ao _ _ (a4U b)];exact c,U.dX f (a4U b) Y _⟩
   simp_all
  .omega
 case ju r P o k6 k7=>
  split at a
  .next d W z=>
   split at a
   .refine⟨a.1,a.2.1,a.2.2.1,?_⟩;have k:=a.2.2.2;split at k
    .next C h=>
     have b:d≠e:=by rintro rfl;rw[c]at h;cases h
     grind[U.ao]
    .trivial
   .omega
  .omega
 case mz r o L=>
  split at a
  .next d W P w A u k8 z k9=>
   refine⟨a.1,a.2.1,?_⟩;have k:=a.2.2;split at k
   .next C h=>
    have b:d≠e:=by rintro rfl;rw[c]at h;cases h
    rw[U.ao _ _ b,h];exact⟨k.1,_,k.2,by rw[U.ao _ _ (a4U b)];exact c,U.dX f (a4U b) Y _⟩
   .trivial
  .next d P w A u k8 z k9=>
   refine⟨a.1,a.2.1,?_⟩;have k:=a.2.2;split at k
   .next C h=>
    have b:d≠e:=by rintro rfl;rw[c]at h;cases h
    rw[U.ao _ _ b,h];exact⟨k.1,_,k.2,by rw[U.ao _ _ (a4U b)];exact c,U.dX f (a4U b) Y _⟩
   .trivial
  .omega
 case kf r I=>
  grind
 case load n4 P o=>
  grind[rE]
 case store P o L=>
  split at a
  .next d W z=>
   split at a
   case h_2=>exact a.elim
   next h=>
    have b:d≠e:=by rintro rfl;rw[c]at h;cases h
    rw[U.ao _ _ b,h];exact⟨a.1,a.2.1,_,a.2.2,by rw[U.ao _ _ (a4U b)];exact c,U.dX f (a4U b) Y _⟩
  .omega
 case kg r P o k6 k7 n5=>
  split at a
  .next d W z=>
   split at a
   .refine⟨a.1,a.2.1,a.2.2.1,?_⟩;have k:=a.2.2.2;split at k
    .next C h=>
     have b:d≠e:=by rintro rfl;simp[U.read,c]at h
     rw[rE f Y c h];refine⟨k.1,?_⟩;have M:=k.2;split
     .next g=>rw[if_pos g]at M;exact⟨_,M,by rw[U.ao _ _ (a4U b)];exact c,U.dX f (a4U b) Y _⟩
     simp_all
    .trivial
   .omega
  .omega
 case app r bytes o L=>
  split at a<;>try exact a.elim
  rename_i I l0 u E _ _;refine⟨a.1,a.2.1,a.2.2.1,a.2.2.2.1,?_⟩;have k:=a.2.2.2.2;cases l0<;>simp only at k|-;grind;grind
  case buf l1 n9 _=>
   have b:l1≠e:=by rintro rfl;rw[c]at k;cases k.1
   refine⟨by rw[U.ao _ _ b];exact k.1,λN l2 l3=> ?_⟩;have H:N≠e:=by rintro rfl;grind[U.ai]
   have l4:=l3.imp id (λa=>by rwa[U.ao _ _ H]at a);refine⟨_,k.2 N l2 l4,by rw[U.ao _ _ (a4U H),U.eG _ (a4U b)];exact c,?_⟩;rw[U.ID f (a4U b) Y,U.dX _ (a4U H) Y]
 case pick=>grind
 case dG r o l5=>
  grind
 case lF o l5=>
  grind
 all_goals
  (repeat' split at a)<;>first
   |exact a.elim
   |exact D _ a
   |exact⟨a.1,D _ a.2⟩
   |exact⟨a.1,a.2.1,D _ a.2.2⟩
   |exact⟨a.1,a.2.1,a.2.2.1,D _ a.2.2.2⟩
   |exact⟨a.1,a.2.1,a.2.2.1,a.2.2.2.1,D _ a.2.2.2.2⟩
   |exact⟨a.1,a.2.1,a.2.2.1,a.2.2.2.1,a.2.2.2.2.1,D _ a.2.2.2.2.2⟩
theorem wc {b:c7} (c:f e=none) (a:E K b j f s):E K b j (f.set e Y) (rD e Y s):=by
 have k: ∀d,s d f->rD e Y s d (f.set e Y):=λd o=>⟨f,o,c,rfl⟩;unfold E at*;cases h:b.guard with
 |none=>rw[h]at a;exact AK c a
 |some fC=>
  obtain⟨r,x⟩:=fC;rw[h]at a;simp only at a|-;split at a
  .split at a
   .next p=>rw[if_pos p];exact AK c a
   simp_all
  .exact k _ a
  .omega
def mN:cb->Bool
 | .mE _ _ _| .mF _ _ _| .mG _ _ _ _ _| .mH _ _| .alloc _ _| .kk| .lJ _ _ _ _ _| .lK _ _ _ _| .kj _| .mC _| .mB _| .iQ _ _| .box _ _| .ke _ _| .load _ _ _| .store _ _ _| .kf _ _| .kg _ _ _ _ _ _| .ju _ _ _ _ _| .app _ _ _ _| .fR _ _| .kh _ _ _ _ _| .mz _ _ _| .mA _ _| .ki _ _| .lI _ _ _ _=>false
 | _=>true
def nQ:cb->Bool
 | .load _ _ _| .ju _ _ _ _ _=>true
 | _=>false
def kV:cb->Bool
 | .alloc _ _| .kk| .kj _| .box _ _| .ke _ _| .kf _ _| .ki _ _| .kh _ _ _ _ _=>true
 | _=>false
def AL {k:Fr}: ∀(o:List (Nat×Nat×Operand)) (b:List R) {r:List R->Prop},kl k b o r-> ∃c,∀a:List R->Prop,kl k b o a↔a c
 | [],b,_,_=>⟨b,λa=>a7g⟩
 |(off,cm,y)::c,b,_,d=>by
  obtain⟨x,p⟩:=AL c _ d.2.2;exact⟨x,λa=>⟨λh=>(p a).1 h.2.2,λh=>⟨d.1,d.2.1,(p a).2 h⟩⟩⟩
def AM (a:mN e3=true) (b:G K e3 j f s): ∃k,∀(c:U) (d:R->U->Prop),G K e3 j c d↔d k c:=by
 cases e3<;>simp only[mN,a5M]at a<;>simp only[G]at b|-
 case pick=>split at b;(exact⟨_,λc d=>a7g⟩);trivial
 case mD=>split at b;(exact⟨_,λc d=>a7g⟩);trivial
 case lL=>split at b;(exact⟨_,λc d=>a7g⟩);trivial
 case lG x y=>
  obtain⟨k,o⟩:=AL _ _ b;exact⟨.agg k,λc d=>o _⟩
 case lH=>split at b;(exact⟨_,λc d=>⟨λa=>a.2,λa=>⟨b.1,a⟩⟩⟩);trivial
 case dG z p r=>
  split at b
  .have h:=b.2;split at h
   .exact⟨_,λc d=>⟨λa=>a.2.2,λa=>⟨b.1,h.1,a⟩⟩⟩
   .trivial
  .exact⟨_,λc d=>⟨λa=>a.2.2.2,λa=>⟨b.1,b.2.1,b.2.2.1,a⟩⟩⟩
  .exact⟨_,λc d=>⟨λa=>a.2.2.2,λa=>⟨b.1,b.2.1,b.2.2.1,a⟩⟩⟩
  .trivial
 case lF p r=>
  split at b
  .have h:=b.2;split at h
   .exact⟨_,λc d=>⟨λa=>a.2,λa=>⟨b.1,a⟩⟩⟩
   .trivial
  .trivial
 all_goals
  (repeat' split at b)<;>first
   |exact b.elim
   |exact⟨_,λc d=>a7g⟩
   |exact⟨_,λc d=>⟨λa=>a.2,λa=>⟨b.1,a⟩⟩⟩
   |exact⟨_,λc d=>⟨λa=>a.2.2,λa=>⟨b.1,b.2.1,a⟩⟩⟩
   |exact⟨_,λc d=>⟨λa=>a.2.2.2,λa=>⟨b.1,b.2.1,b.2.2.1,a⟩⟩⟩
   |exact⟨_,λc d=>⟨λa=>a.2.2.2.2,λa=>⟨b.1,b.2.1,b.2.2.1,b.2.2.2.1,a⟩⟩⟩
   |exact⟨_,λc d=>⟨λa=>a.2.2.2.2.2,λa=>⟨b.1,b.2.1,b.2.2.1,b.2.2.2.1,b.2.2.2.2.1,a⟩⟩⟩
def AN (a:nQ e3=true) (b:G K e3 j f s): ∃h,∀(c:R->U->Prop),G K e3 j f c↔c h f:=by
 cases e3<;>simp only[nQ,a5M]at a<;>simp only[G]at b|-
 case load=>
  split at b
  .split at b
   .exact⟨_,λc=>⟨λa=>a.2,λa=>⟨b.1,a⟩⟩⟩
   .trivial
  .exact⟨_,λc=>⟨λa=>a.2,λa=>⟨b.1,a⟩⟩⟩
  .trivial
 case ju=>
  split at b
  .split at b
   .have d:=b.2.2.2;split at d
    .exact⟨_,λc=>⟨λa=>a.2.2.2.2,λa=>⟨b.1,b.2.1,b.2.2.1,d.1,a⟩⟩⟩
    .trivial
   .trivial
  .trivial
def AO (a:kV e3=true) (b:G K e3 j U.emp λ_ _=>True):
  (∃y,∀(c:U) (d:R->U->Prop),G K e3 j c d↔d y c)\/ ∃(z:Nat->R) (C:Nat->br),∀(c:U) (d:R->U->Prop),G K e3 j c d↔ ∀r,c r=none->d (z r) (c.set r (C r)):=by
 cases e3<;>simp only[kV,a5M]at a<;>simp only[G]at b|-
 case alloc T D=>exact .inr ⟨_,_,λc d=>a7g⟩
 case kk=>exact .inr ⟨_,λ_=> _,λc d=>a7g⟩
 case kj x=>split at b;(exact .inr ⟨_,λ_=> _,λc d=>a7g⟩);trivial
 case box T x=>exact .inr ⟨_,λ_=> _,λc d=>⟨λa=>a.2,λa=>⟨b.1,a⟩⟩⟩
 case ke T x=>exact .inr ⟨_,λ_=> _,λc d=>⟨λa=>a.2,λa=>⟨b.1,a⟩⟩⟩
 case kh k bytes E x F=>split at b;(exact .inr ⟨λo=> .an o _ _ k,λ_=> _,λc d=>⟨λa=>a.2.2.2.2,λa=>⟨b.1,b.2.1,b.2.2.1,b.2.2.2.1,a⟩⟩⟩);trivial
 case kf k h=>
  by_cases p:h.length=0
  .simp only[if_pos p]at b|-;exact .inl ⟨_,λc d=>⟨λa=>a.2,λa=>⟨b.1,a⟩⟩⟩
  .simp only[if_neg p]at b|-;exact .inr ⟨λo=> .J (h.map (al j)) (.buf o h.length),λ_=> .buf k h.length h.length,λc d=>⟨λa=>a.2,λa=>⟨b.1,a⟩⟩⟩
 case ki k h=>
  by_cases p:h.length=0
  .simp only[if_pos p]at b|-;exact .inl ⟨_,λc d=>⟨λa=>a.2,λa=>⟨b.1,a⟩⟩⟩
  .simp only[if_neg p]at b|-;exact .inr ⟨λo=> .an o h.length h.length k,λ_=> .cells (flat (h.map (al j))),λc d=>⟨λa=>a.2,λa=>⟨b.1,a⟩⟩⟩
theorem AP (a:kV e3=true) (b:G K e3 j f s):G K e3 j U.emp λ_ _=>True:=by
 cases e3<;>simp only[kV,a5M]at a<;>simp only[G]at b|-;simp
 case kk=>simp
 case kj c=>grind
 simp_all;simp_all
 case kh=>grind
 simp_all;simp_all
def Def (a:Ctx) (b:c7) (c:Fr):Prop:=E a b c U.emp λ_ _=>True
def we {b:c7} (k:mN b.op=true) (a:E K b j f s): ∃p,∀(c:U) (d:R->U->Prop),E K b j c d↔d p c:=by
 unfold E at*;cases o:b.guard with
 |none=>rw[o]at a;exact AM k a
 |some fC=>
  obtain⟨r,x⟩:=fC;rw[o]at a;simp only at a|-;split at a
  .split at a
   .next h=>simp only[if_pos h];exact AM k a
   .next h=>simp only[if_neg h];exact⟨_,λc d=>a7g⟩
  .exact⟨_,λc d=>a7g⟩
  .trivial
theorem tv {b:c7} (h:nQ b.op=true) (a:E K b j f s): ∃o,∀(c:R->U->Prop),E K b j f c↔c o f:=by
 unfold E at*;cases k:b.guard with
 |none=>rw[k]at a;exact AN h a
 |some fC=>
  obtain⟨p,r⟩:=fC;rw[k]at a;simp only at a|-;split at a
  .split at a
   .next d=>simp only[if_pos d];exact AN h a
   .next d=>simp only[if_neg d];exact⟨_,λc=>a7g⟩
  .exact⟨_,λc=>a7g⟩
  .trivial
theorem II {b:c7} (c:kV b.op=true) (a:E K b j f s):Def K b j:=by
 unfold Def;unfold E at*;cases d:b.guard with
 |none=>rw[d]at a;exact AP c a
 |some fC=>
  obtain⟨k,o⟩:=fC;rw[d]at a;simp only at a|-;split at a
  .split at a
   .next h=>rw[if_pos h];exact AP c a
   .simp_all
  .trivial
  .trivial
def AQ {d:c7} (o:kV d.op=true) (a:Def K d j):
  (∃r,∀(b:U) (c:R->U->Prop),E K d j b c↔c r b)\/ ∃(x:Nat->R) (y:Nat->br),∀(b:U) (c:R->U->Prop),E K d j b c↔ ∀h,b h=none->c (x h) (b.set h (y h)):=by
 unfold Def at a;unfold E at*;cases p:d.guard with
 |none=>rw[p]at a;exact AO o a
 |some fC=>
  obtain⟨z,C⟩:=fC;rw[p]at a;simp only at a|-;split at a
  .split at a
   .next k=>simp only[if_pos k];exact AO o a
   .next k=>simp only[if_neg k];exact .inl ⟨_,λb c=>a7g⟩
  .exact .inl ⟨_,λb c=>a7g⟩
  .trivial
structure di where
 i:Nat
 pre:List Nat
 jw:List Nat
section
variable (P:Ctx) (xs:Nat->c7)
def hh (a:Nat) (b:Fr) (c:U):Prop:=
 match(xs a).dst with
 |some d=>E P (xs a) b c λh _=>h=b d
 |none=>True
def can (c:Fr->U->Prop):List di->Fr->U->Prop
 | []=>c
 |a::o=>λd p=>(∀b∈a.pre,Def P (xs b) d)/\T P (xs a.i) (λh k=>(∀b∈a.jw,hh P xs b h k)/\can c o h k) d p
def clear (a:Option Nat) (b:List Nat):Bool:=match a with|some c=> !b.contains c|none=>true
def lP (a b:Option Nat):Bool:=match a,b with|some c,some d=>c !=d| _,_=>true
def indep (a b:di) (d:List Nat):Bool:=
  clear (xs a.i).dst (xs b.i).reads&&clear (xs b.i).dst (xs a.i).reads&&lP (xs a.i).dst (xs b.i).dst&&
  b.jw.all (λc=>c==a.i||d.contains c||(clear (xs a.i).dst (xs c).reads&&lP (xs a.i).dst (xs c).dst))&&
  ((a.pre.isEmpty&&a.jw.isEmpty&&(mN (xs a.i).op||(nQ (xs a.i).op&&((mN (xs b.i).op||nQ (xs b.i).op||kV (xs b.i).op)||(b.jw.contains a.i&&clear (xs a.i).dst (xs a.i).reads&&(xs a.i).dst.isSome)))))||
   (b.jw.isEmpty&&(mN (xs b.i).op||kV (xs b.i).op)&&a.pre.contains b.i&&a.pre.all (λc=>clear (xs b.i).dst (xs c).reads)&&
     a.jw.all (λc=>clear (xs b.i).dst (xs c).reads&&lP (xs b.i).dst (xs c).dst)))
variable {P xs}
theorem rF {b:Option Nat}{c:List Nat} (d:clear b c=true): ∀a,b=some a->a∉c:=by intro a h;subst h;simpa[clear] using d
theorem AR {a b:Option Nat} (d:lP a b=true): ∀c,a=some c->b≠some c:=by grind[lP]
theorem AS {a:Option Nat} (h:clear a (xs e).reads=true) (k:lP a (xs e).dst=true) (b:Fr) (d:R) (c:U):hh P xs e (dk b a d) c↔hh P xs e b c:=by
 unfold hh;cases o:(xs e).dst with
 |none=>rfl
 |some p=>grind[kU,rF,tt,AR]
theorem IJ (b:f i=none) (a:hh P xs e j f):hh P xs e j (f.set i Y):=by
 unfold hh at*;cases c:(xs e).dst with
 |none=>trivial
 |some h=>rw[c]at a;exact mM (λk o ⟨p,d,_,_⟩=>d) (wc b a)
def Pass (a:Nat->c7) (b:di):List di->Prop
 | []=>True
 |d::c=>indep a d b (c.map (·.i))=true/\Pass a b c
theorem AT {C:Fr->U->Prop} (h:di) (e:List di): ∀(p:List di),Pass xs h p->(p.map (·.i)).Nodup-> ∀(k:Fr) (o:U),can P xs C (p++h::e) k o->
  T P (xs h.i) (λS d=>(∀a∈h.jw,a∉p.map (·.i)->hh P xs a S d)/\can P xs C (p++e) S d) k o
 | [],_,_,k,o,q=>rC (λS d D=>⟨λa y _=>D.1 a y,D.2⟩) q.2
 |r::p,hk,n3,k,o,q=>by
  have A:=hk.1;have Z:(p.map (·.i)).Nodup:=by simp_all
  have j9:r.i∉p.map (·.i):=by simp_all
  have ih:=AT (C:=C) h e p hk.2 Z;obtain⟨k0,B⟩:=q;simp only[indep,a4Q]at A;obtain⟨⟨⟨⟨k1,k2⟩,a3⟩,a4⟩,H⟩:=A;have i:=rF k1;have c2:=rF k2;have aH:=AR a3;have n4: ∀a∈h.jw,a≠r.i->a∉p.map (·.i)->clear (xs r.i).dst (xs a).reads=true/\lP (xs r.i).dst (xs a).dst=true:=λa y n5 n9=>by
   grind
  have W:T P (xs r.i) (λS d=>(∀a∈r.jw,hh P xs a S d)/\T P (xs h.i) (λI K=>(∀a∈h.jw,a∉p.map (·.i)->hh P xs a I K)/\can P xs C (p++e) I K) S d) k o:=
   rC (λS d D=>⟨D.1,ih S d D.2⟩) B
  clear B ih;simp only[a6w,a4Q]at H;rcases H with ⟨⟨k3,k4⟩,k5⟩|⟨⟨⟨⟨k6,k7⟩,k8⟩,a00⟩,a01⟩
  .
   have k9:=a8x.1 k3;have a02:=a8x.1 k4;have j: ∀(x:R) (b:R) (d:U),(∀G,E P (xs r.i) k d G↔G x d)->
     ((∀a∈h.jw,a∉p.map (·.i)->hh P xs a (dk (dk k (xs r.i).dst x) (xs h.i).dst b) d)/\can P xs C (p++e) (dk (dk k (xs r.i).dst x) (xs h.i).dst b) d)->
     (∀a∈h.jw,a∉(r::p).map (·.i)->hh P xs a (dk k (xs h.i).dst b) d)/\can P xs C (r::p++e) (dk k (xs h.i).dst b) d:=λx b d V g=>by
    rw[q9 k _ _ x b aH]at g;refine⟨λa y l0=> ?_,?_⟩
    .simp only[a5k,a5j,not_or]at l0;grind[AS]
    .refine⟨by rw[k9];simp,?_⟩;simp_all [T,kU]
   rcases k5 with l1|⟨l2,l3⟩
   .obtain⟨x,V⟩:=we l1 W;have s:=(V o _).1 W;have c:=s.2;unfold T at c|-;rw[kU _ i]at c;exact mM (λb d g=>j x b d (λG=>V d G) g) c
   .obtain⟨x,V⟩:=tv l2 W;have s:=(V _).1 W;have c:=s.2;unfold T at c|-;rw[kU _ i]at c;rcases l3 with t|⟨⟨l4,l5⟩,l6⟩
    .rcases t with t|M
     case inr=>
      rcases AQ M (II M c)with ⟨b,z⟩|⟨f,l,z⟩
      .rw[z]at c|-;exact j x b o V c
      .rw[z]at c|-;intro F m;refine j x (f F) _ ?_ (c F m);have l7:E P (xs r.i) k o λu _=>u=x:=(V _).2 rfl;have a03:=mM (λ_ _ ⟨_,D,_,_⟩=>D) (wc (Y:=l F) m l7);grind[tv]
     have L: ∃b,∀G:R->U->Prop,E P (xs h.i) k o G↔G b o:=by
      rcases t with L|L
      .obtain⟨b,z⟩:=we L c;exact⟨b,λG=>z o G⟩
      .exact tv L c
     obtain⟨b,z⟩:=L;rw[z]at c|-;exact j x b o V c
    .refine mM (λb d g=> ?_) c;have l8:=g.1 r.i (by simpa using l4) j9;obtain⟨a04,N⟩:=a5z.1 l6;have a05:E P (xs r.i) k d λu _=>u=x:=by have:=l8;rw[q9 k _ _ x b aH]at this;unfold hh at this;rw[N]at this;simp only at this;rw[IC,<-N,kU _ (rF l5),kU _ c2]at this;exact this
     grind[tv]
  .
   have O:=a8x.1 k6;have Q:=k0 h.i (by simpa using k8);have l9:(∃x,∀(o:U) (C:R->U->Prop),E P (xs h.i) k o C↔C x o)\/ ∃(f:Nat->R) (l:Nat->br),∀(o:U) (C:R->U->Prop),E P (xs h.i) k o C↔ ∀F,o F=none->C (f F) (o.set F (l F)):=by
    rcases k7 with L|L
    .exact .inl (we L Q)
    .exact AQ L Q
   have X: ∀b,∀a∈r.pre,Def P (xs a) (dk k (xs h.i).dst b):=λb a y=>by
    grind[Def,kU,rF,List.all_eq_true]
   have a06: ∀a∈r.jw,∀(w) (b) (n),hh P xs a w n->hh P xs a (dk w (xs h.i).dst b) n:=λa y w b n D=>by
    simp_all [a4Q,AS]
   unfold T at W;rcases l9 with ⟨b,z⟩|⟨f,l,z⟩
   .unfold T;rw[z];refine⟨λa y=>(by rw[O]at y;cases y),X b,?_⟩;unfold T;rw[kU _ c2];refine mM (λv n0 D=> ?_) W;have c:=D.2;rw[kU _ i,z,q9 k _ _ v b aH]at c;refine⟨λa y=> ?_,c.2⟩;grind[q9]
   .unfold T;rw[z];intro F m;refine⟨λa y=>(by rw[O]at y;cases y),X (f F),?_⟩;unfold T;rw[kU _ c2];refine mM (λv n n1=> ?_) (wc m W);obtain⟨n0,D,n2,rfl⟩:=n1;have c:=D.2;rw[kU _ i,z]at c;have Y:=c F n2;rw[q9 k _ _ v (f F) aH]at Y;refine⟨λa y=> ?_,Y.2⟩;grind[q9,IJ]
def tw (a:Nat->List Nat):Nat->List Nat->Nat->List Nat
 |0,acc,_=>acc
 |d+1,acc,b=>tw a d (acc++ [(a b).foldl (λh c=>h|||2^c|||acc.getD c 0) 0]) (b+1)
def dep (a:List Nat) (b c:Nat):Bool:=(a.getD c 0).testBit b
def ko (c:Nat->c7) (d:List Nat) (a:di):List Nat->List di->Bool
 | _,[]=>true
 |h,b::k=>(dep d a.i b.i||indep c a b h)&&ko c d a (h++ [b.i]) k
def mO (a:Nat->c7) (b:List Nat):List di->Bool
 | []=>true
 |d::c=>ko a b d [] c&&mO a b c
def iU (a:Array Oper) (b:Nat):List Nat:=
 match a[b]? with
 |some c=>(c.after.toList.filter λd=>Region.binds .any d).map (·.on)
 |none=> []
def tx (k:Ctx) (o:Nat->c7) (b:Array Oper) (h:Fr->U->Prop):Nat->Array Bool->Fr->U->Prop
 |0,a,c,d=>Region.ready .any b a= []/\h c d
 |fuel+1,a,c,d=>(Region.ready .any b a= []->h c d)/\ ∀p∈Region.ready .any b a,T k (o p) (tx k o b h fuel (a.setIfInBounds p true)) c d
def AU (b:Array Oper) (c:Array Bool):Prop:= ∀a,a<b.size->c.getD a true=true-> ∀d∈iU b a,c.getD d false=true
theorem wg {a:Array Oper}:i∈iU a e↔ ∃b,a[e]? =some b/\ ∃c∈b.after,Region.binds .any c=true/\c.on=i:=by unfold iU;grind
theorem wh {a:Array Oper}{b:Array Bool}:e∈Region.ready .any a b↔b.getD e true=false/\e<a.size/\ ∀d∈iU a e,b.getD d false=true:=by
 rw[mem_ready];constructor
 .rintro⟨c,z,x,h⟩;refine⟨c,(a6c.1 x).1,λd y=> ?_⟩;obtain⟨C,D,k,o,p,rfl⟩:=wg.1 y;simp_all
 .rintro⟨c,r,h⟩;exact⟨c,a[e],a6U r,λk o p=>h _ (wg.2 ⟨_,a6U r,k,o,p,rfl⟩)⟩
theorem IK (c:List Nat) (h:List Nat) (d:Nat): ∀a,(c.foldl (λa b=>a|||2^b|||h.getD b 0) a).testBit d=true->a.testBit d=true\/ ∃b∈c,d=b\/(h.getD b 0).testBit d=true:=by
 induction c with
 |nil=>intro a k;exact .inl k
 |cons o c ih=>grind
def Bits (h:Nat->List Nat) (d:List Nat):Prop:= ∀a b,dep d b a=true-> ∃c∈h a,b=c\/(dep d b c=true/\c<a)
theorem AV {h:Nat->List Nat} (F: ∀b a,a∈h b->a<b): ∀(x:Nat) (c:List Nat) (d:Nat),c.length=d->Bits h c->Bits h (tw h x c d)
 |0,c,d,_,y=>y
 |x+1,c,d,z,y=>by
  refine AV F x _ (d+1) (by simp[z]) λb G k=> ?_;have C: ∀b,b<d->(c++ [(h d).foldl (λo a=>o|||2^a|||c.getD a 0) 0]).getD b 0=c.getD b 0:=λb p=>by
   grind
  unfold dep at k|-;rcases a8t b d with p|p|p
  .rw[C b p]at k;obtain⟨a,D,r⟩:=y b G k;refine⟨a,D,r.imp id λE=>⟨?_,E.2⟩⟩;rw[C a a9p];exact E.1
  .subst p;have L:(c++ [(h b).foldl (λo a=>o|||2^a|||c.getD a 0) 0]).getD b 0=(h b).foldl (λo a=>o|||2^a|||c.getD a 0) 0:=by rw[<-z];simp
   rw[L]at k;rcases IK _ _ _ _ k with r|⟨a,D,r⟩
   .simp at r
   grind
  grind
theorem IL {h:Array Oper}{d:Array Bool}{x:List Nat} (y:Bits (iU h) x) (z:AU h d) (L:d.size=h.size): ∀(k a b:Nat),b<=k->dep x a b=true->(∀c∈iU h b,d.getD c false=true)->d.getD a false=true:=by
 intro k
 induction k with
 |zero=>
  intro a b C r o;obtain⟨c,p,rfl|⟨_,D⟩⟩:=y b a r
  .exact o _ p
  .omega
 |succ k ih=>
  intro a b C r o;obtain⟨c,p,rfl|⟨E,D⟩⟩:=y b a r
  .exact o _ p
  .have F:=o c p;have G:c<d.size:=by grind
   refine ih a c a9p E (z c a9p ?_);simpa[G] using F
def AW {k:List Nat}{c d:di}{o:List di}: ∀ {h:List di}{b:List Nat},ko xs k c b (h++d::o)=true->dep k c.i d.i=true\/indep xs c d (b++h.map (·.i))=true
 | [],b,a=>by
  simp only[a5f,ko,a4Q,a6w]at a;simpa using a.1
 |p::h,b,a=>by
  simp only[a6a,ko,a4Q]at a;have:=AW a.2;simpa using this
theorem AX {d:List Nat}{b:di}{k:List di}: ∀ {a:List di},mO xs d (a++b::k)=true->(∀h∈a,dep d h.i b.i=false)->Pass xs b a
 | [],_,_=>trivial
 |h::a,c,o=>by
  simp only[a6a,mO,a4Q]at c;refine⟨?_,AX c.2 (λp r=>o p (a6h _ r))⟩;have:=AW c.1;simp_all
theorem IM {a c:di}{d h:List Nat} (k:indep xs a c d=true) (o: ∀b,b∈d->b∈h\/(clear (xs a.i).dst (xs b).reads=true/\lP (xs a.i).dst (xs b).dst=true)):indep xs a c h=true:=by simp only[indep,a4Q]at k|-;grind
theorem AY {o:List Nat}{c:di}: ∀ {d:List di}{h k:List Nat},ko xs o c h d=true->(∀a,a∈h->a∈k\/(clear (xs c.i).dst (xs a).reads=true/\lP (xs c.i).dst (xs a).dst=true))->ko xs o c k d=true
 | [],_,_,_,_=>rfl
 |p::d,h,k,b,hm=>by
  simp only[ko,a4Q,a6w]at b|-;refine⟨b.1.imp id (λb=>IM b hm),AY b.2 λa r=> ?_⟩;grind
theorem AZ {k:List Nat}{b d:di}{o:List di} (p:clear (xs b.i).dst (xs d.i).reads=true/\lP (xs b.i).dst (xs d.i).dst=true): ∀ {h:List di}{c:List Nat},ko xs k b c (h++d::o)=true->ko xs k b c (h++o)=true
 | [],c,a=>by
  simp only[a5f,ko,a4Q]at a|-;refine AY a.2 λr x=> ?_;grind
 |r::h,c,a=>by
  simp only[a6a,ko,a4Q]at a|-;exact⟨a.1,AZ p a.2⟩
def B0 {d:List Nat}{h:di}{k:List di}: ∀ {b:List di},mO xs d (b++h::k)=true->Pass xs h b->mO xs d (b++k)=true
 | [],a,_=>by simp only[a5f,mO,a4Q]at a|-;exact a.2
 |p::b,a,o=>by
  simp only[a6a,mO,a4Q]at a|-;have c:=o.1;simp only[indep,a4Q]at c;exact⟨AZ ⟨c.1.1.1.1,c.1.1.2⟩ a.1,B0 a.2 o.2⟩
theorem IN {k:Array Oper}{V:List Nat} (q:Bits (iU k) V) (s: ∀a c,c∈iU k a->c<a): ∀(y:Nat) (b:Array Bool) (d:List di),b.size=k.size->d.length<=y->
  (∀a,a∈d.map (·.i)↔(a<k.size/\b.getD a true=false))->(d.map (·.i)).Nodup->mO xs V d=true->AU k b-> ∀z C,can P xs j6 d z C->tx P xs k j6 y b z C:=by
 have t: ∀(b:Array Bool) (d:List di),b.size=k.size->(∀a,a∈d.map (·.i)↔(a<k.size/\b.getD a true=false))->Region.ready .any k b= []->d= []:=λb d D r W=>by
  cases d with
  |nil=>rfl
  |cons h X=>
   exfalso;have u: ∀G a,a<=G->a<k.size->b.getD a true=false-> ∃c,c∈Region.ready .any k b:=by
    intro G
    induction G with
    |zero=>intro a e o p;refine⟨a,wh.2 ⟨p,o,λc x=> ?_⟩⟩;have:=s a c x;omega
    |succ G ih=>
     intro a e o p;by_cases v: ∀c∈iU k a,b.getD c false=true
     .exact⟨a,wh.2 ⟨p,o,v⟩⟩
     grind
   obtain⟨o,p⟩:=(r h.i).1 a9q;obtain⟨c,x⟩:=u h.i h.i (a5s _) o p;rw[W]at x;cases x
 intro y
 induction y with
 |zero=>intro b d D g r _ _ _ z C L;have:d= []:=a4R a9p;subst this;refine⟨?_,L⟩;simp_all [Region.ready]
 |succ y ih=>
  intro b d D g r w i j z C L;refine⟨λW=> ?_,λa e=> ?_⟩
  .have:=t b d D r W;subst this;exact L
  .obtain⟨o,p,l⟩:=wh.1 e;have A:=(r a).2 ⟨p,o⟩;obtain⟨h,B,rfl⟩:=a5h.1 A;obtain⟨E,S,rfl⟩:=a7q B;have H:(E.map (·.i)++h.i::S.map (·.i)).Nodup:=by simpa using w
   have I:(E.map (·.i)).Nodup:=(List.nodup_append.1 H).1;have m:=AX i λF f=>by
    cases K:dep V F.i h.i with
    |false=>rfl
    |true=>exfalso;have Y:=IL q j D h.i F.i h.i (a5s _) K l;grind
   have M:=AT h S E m I z C L;refine rC (λN O Q=> ?_) M;refine ih (b.setIfInBounds h.i true) (E++S) (by simp[D]) (by simp at g|-;omega) (λc=> ?_) ?_ (B0 i m) ?_ N O Q.2
   .have Z:h.i∉(E++S).map (·.i):=by grind
    by_cases T:h.i=c;simp_all
    .rw[getD_set_ne true T,<-r c];grind
   grind
   .intro c x n F f;by_cases T:h.i=c
    .subst T;exact getD_set_true (l F f)
    .rw[getD_set_ne true T]at n;exact getD_set_true (j c x n F f)
end
inductive gb where
 |norm
 |exit (id:Nat)
 |ret
inductive dH where
 |skip
 |plain (ops:List c7)
 |draw (ops:List c7) (order:List di)
 |seq (a b:dH)
 |cond (c:Operand) (a b:dH)
 |block (id:Nat) (a:dH)
 |loop (a:dH)
 |exit (id:Nat)
 |ret
 |refuse
def nth (a:List c7) (b:Nat):c7:=a.getD b {dst:=none,op:= .eX (.const (.bool true)),guard:=none}
def eN (a:Fr->U->Prop) (b:gb->Fr->U->Prop):gb->Fr->U->Prop
 | .norm=>a
 |c=>b c
def kW (id:Nat) (a:gb->Fr->U->Prop):gb->Fr->U->Prop
 | .exit b=>if b=id then a .norm else a (.exit b)
 |c=>a c
def bS (c:Ctx):dH->(gb->Fr->U->Prop)->Fr->U->Prop
 | .skip,a=>a .norm
 | .plain ops,a=>iT c ops (a .norm)
 | .draw ops order,a=>can c (nth ops) (a .norm) order
 | .seq h k,a=>bS c h (eN (bS c k a) a)
 | .cond z h k,a=>λb d=>match al b z with
  | .v (.bool p)=>(p=true->bS c h a b d)/\(p=false->bS c k a b d)
  | _=>False
 | .block id h,a=>bS c h (kW id a)
 | .loop h,a=>λb d=> ∃(o:Fr->U->Prop) (r:Fr->U->Nat),o b d/\ ∀b d,o b d->bS c h (eN (λx y=>o x y/\r x y<r b d) a) b d
 | .exit id,a=>a (.exit id)
 | .ret,a=>a .ret
 | .refuse,_=>λ_ _=>False
def wi (a:Array Oper) (b:Oper):Option (Option (Nat×Bool)):=
 match b.guard with
 |none=>some none
 |some (c,want)=>match(a[c]?).bind (·.dst)with
  |some d=>some (some (d,want))
  |none=>none
def B1 (a:Nat):Option Nat->Bool
 |some b=>decide (b<a)
 |none=>true
def wj (a:List Nat):Option Nat->Bool
 |some b=> !a.contains b
 |none=>true
def qb (c:Program) (b:Env) (d:Nat) (h:Array Oper) (a:Oper):Option c7:=
 match wb c b a,wi h a with
 |some k,some o=>if B1 d a.dst=true/\wj b.pins a.dst=true then some {dst:=a.dst,op:=k,guard:=o}else none
 | _,_=>none
def fs {a b:Type} (c:a->Option b):List a->Option (List b)
 | []=>some []
 |d::h=>match c d,fs c h with
  |some k,some o=>some (k::o)
  | _,_=>none
def wk (b:Nat->List Nat) (c:List Nat) (d:Nat->Bool) (left:List Nat):Option Nat:=left.find? λa=>(b a).all (λh=>c.contains h)&&d a
def B2 (b:Nat->List Nat) (c:Nat->c7):Nat->List Nat->List Nat->List Nat
 |0,_,_=> []
 |fuel+1,done,left=>
  match(wk b done (λa=>mN (c a).op||nQ (c a).op) left).or ((wk b done (λa=> !kV (c a).op) left).or (wk b done (λ_=>true) left))with
  |some a=>a::B2 b c fuel (a::done) (left.filter (·!=a))
  |none=> []
def B3 (a:c7):Bool:=mN a.op||nQ a.op
def marks (a:Nat->c7) (d:Nat->Nat->Bool):List Nat->List Nat->List di
 | _,[]=> []
 |ahead,b::h=>
  let k:=if B3 (a b)then []else h.filter λc=>(kV (a c).op||mN (a c).op)&& !d b c
  let o:=if B3 (a b)||kV (a b).op then []else ahead.filter λc=>nQ (a c).op&& !d c b
  ⟨b,k,o⟩::marks a d (ahead++ [b]) h
def B4 (a:Array Oper) (b:Nat->c7):List di:=
 marks b (dep (tw (iU a) a.size [] 0)) [] (B2 (iU a) b a.size [] (List.range a.size))
def wm (a:Array Oper) (d:Nat->c7) (b:List di):Bool:=
 (List.range a.size).all (λc=>(iU a c).all (λh=>decide (h<c)))&&decide (b.length<=a.size)&&(List.range a.size).all (λc=>(b.map (·.i)).contains c)&&b.all (λk=>decide (k.i<a.size))&&
  decide ((b.map (·.i)).Nodup)&&mO d (tw (iU a) a.size [] 0) b
def tz:Code->List Oper
 | .region _ ops _=>ops.toList
 | .seq a b| .cond _ a b=>tz a++tz b
 | .block _ a| .loop a=>tz a
 | _=> []
def rG (a:List Nat):Operand->Bool
 | .tmp b=>a.contains b
 | _=>false
def derive (a:List Nat):List Oper->List Nat
 | []=>a
 |d::h=>match d.op,d.dst with
  | .fieldAddr _ b _,some c| .indexAddr _ b _,some c| .nilCheck b,some c=>derive (if rG a b then c::a else a) h
  | _,_=>derive a h
def IP (a:List Nat) (b:Oper):Bool:=
 match b.op with
 | .fieldAddr _ _ _| .indexAddr _ _ _| .nilCheck _| .load _ _| .slice _ _ _ _ _=>false
 |op=>op.operands.toList.any (rG a)
def IQ (a:List Nat) (b:Oper):Bool:=
 match b.op with
 | .slice _ c _ _ _=>rG a c
 | _=>false
def IS (a:List Nat) (h:Oper):List Nat:=
 let p (a:List Nat) (b:Operand):List Nat:=match b with| .tmp k=>if a.contains k then a else k::a| _=>a
 let c (b:Operand):List Nat:=match h.dst with
  |some d=>if a.contains d then p a b else if rG a b then(if a.contains d then a else d::a)else a
  |none=>a
 match h.op with
 | .move b| .assign b=>c b
 | .slice _ b _ _ _=>c b
 | .call o=>match o.callee,o.args.toList with
  | .builtin .append,[b,_]=>c b
  | _,_=>a
 | _=>a
def wo (b:List Oper):Nat->List Nat->List Nat
 |0,a=>a
 |d+1,a=>let c:=b.foldl IS a;if c.length=a.length then a else wo b d c
def B5 (c:Program) (a:List Oper):List Nat:=
 a.filterMap λb=>match b.op,b.dst with
  | .indexAddr d (.tmp h) _,some k=>if !(match c.underlying d with|some (.slice _)=>true| _=>false)then none else let o:=derive [k] a;if a.any (λp=>match p.op with| .store _ r _=>rG o r| _=>false)then some h else none
  | _,_=>none
def IT (b:Program) (c:List Nat) (a:Oper):Bool:=
 match a.op,a.dst with
 | .convert st _ _,some d=>(match b.underlying st with|some .string=>true| _=>false)&&c.contains d
 | _,_=>false
def IU (d:Program) (b:Code):Env:=
 let a:=tz b
 let h:=(a.filterMap λc=>match c.op with| .box _ _=>c.dst| _=>none).filter λo=>let k:=derive [o] a;a.any (IQ k)&& !a.any (IP k)
 {jt:=h,Ax:=derive h a,wr:=a.filterMap λc=>match c.op with| .call b=>(match b.callee,b.args.toList with| .builtin .copy,.tmp p:: _=>some p| _,_=>none)| _=>none,tr:=wo a 40 (B5 d a),ty:=false,lO:=a.any (IT d (wo a 40 (B5 d a)))}
def gM (b:Program) (a:Env) (c:Nat):Code->Option dH
 | .skip=>some .skip
 | .region _ ops false=>match fs (qb b a c ops) ops.toList with
  |some xs=>some (.plain xs)
  |none=>if a.Ay=true then some .refuse else none
 | .region _ ops true=>match fs (qb b a c ops) ops.toList with
  |some xs=>if wm ops (nth xs) (B4 ops (nth xs))=true then some (.draw xs (B4 ops (nth xs)))else none
  |none=>none
 | .seq d h=>match gM b a c d,gM b a c h with
  |some k,some o=>some (.seq k o)
  | _,_=>none
 | .cond p d h=>match gM b a c d,gM b a c h with
  |some k,some o=>if aQ p=true then some (.cond p k o)else none
  | _,_=>none
 | .block id d=>(gM b a c d).map (.block id)
 | .loop d=>(gM b a c d).map .loop
 | .exit id=>some (.exit id)
 | .ret=>some .ret
 | .refuse _=>some .refuse
 | _=>none
def oV (a:List Deferred×List (Nat×Value)) (b:Act):Prop:=b.defers=a.1/\ ∀c∈a.2,b.tmps.getD c.1 undef=c.2
theorem oV.put {d:List Deferred×List (Nat×Value)}{a:Act} (h:oV d a) {b:Option Nat}{v:Value}{k:List Nat} (p: ∀c∈d.2,c.1∈k) (r:wj k b=true):oV d (a.put b v):=by
 refine⟨by rw[<-h.1];cases b<;>rfl,λc o=> ?_⟩;cases b with
 |none=>exact h.2 c o
 |some b=>
  have x:c.1≠b:=by rintro rfl;grind[wj,Bool.not_eq_true',decide_eq_false_iff_not]
  rw[<-h.2 c o];simp_all [Act.put,a4U]
def hE (c:List Deferred×List (Nat×Value)) (d:Nat) (h:bl) (k:U) (o:World) (p:Fr) (r:U) (a:Act) (x:World):Prop:=
 a.tmps.size=d/\oV c a/\ ∃b,bK b a p/\Step h k o b r x
def post (h:List Deferred×List (Nat×Value)) (D:R->U->Prop) (r:Nat) (k:bl) (o:U) (p:World) (x:gb->Fr->U->Prop):Exit->Act->World->Prop
 | .normal,b,d=> ∃a c,hE h r k o p a c b d/\x .norm a c
 | .exit id,b,d=> ∃a c,hE h r k o p a c b d/\x (.exit id) a c
 | .ret,b,d=> ∃a c,hE h r k o p a c b d/\x .ret a c
 | .panic E,b,d=>oV h b/\ ∃v z y C,E= [{v,recovered:=false}]/\Step k o p y C d/\aY y v z/\up D z C/\ ∃a,bK y b a
 | _,_,_=>False
variable{b5:FuncId}
section
variable  {env:Env}    {D:List Deferred×List (Nat×Value)}
def size_put (a:Act) (b:Option Nat) (v:Value):(a.put b v).tmps.size=a.tmps.size:=by cases b<;>simp[Act.put]
theorem B6 {c o:Type}{p:c->Option o}: ∀ {d:List c}{b:List o},fs p d=some b->d.length=b.length/\ ∀(r:Nat) (h:c),d[r]? =some h-> ∃k,b[r]? =some k/\p h=some k
 | [],b,a=>by simp only[fs,a4X]at a;simp_all
 |h::y,b,a=>by
  simp only[fs]at a;split at a
  case h_2=>cases a
  rename_i k z C x;obtain rfl:=a4L a;obtain⟨E,F⟩:=B6 x;grind
theorem IV {h:Array Oper}{o:Oper}{z:Option (Nat×Bool)} (c:wi h o=some z) {a:Act} (E:bK u a j):
  match z with
  |none=>Region.wanted o (yielded h a.tmps)=true
  |some (b,C)=>(∀p,j b= .v (.bool p)->Region.wanted o (yielded h a.tmps)=(p==C))/\(j b= .aI []->Region.wanted o (yielded h a.tmps)=false):=by
 unfold wi at c;split at c
 .rename_i x;obtain rfl:=a4L c;simp[Region.wanted,x]
 .rename_i F C x;split at c
  case h_2=>cases c
  rename_i b G;obtain rfl:=a4L c;have d:=E b;refine⟨λp y=> ?_,λy=> ?_⟩
  .rw[y]at d;have k:=d.dQ;have S:a.tmps[b]? =some (.bool p):=by
    rw[a5J]at k;cases r:a.tmps[b]? with
    |none=>rw[r]at k;cases k
    |some L=>rw[r]at k;simpa using k
   grind[yielded,Region.wanted]
  .rw[y]at d;have P:yielded h a.tmps F=none:=by
    unfold yielded;rw[G];simp only[Option.bind_some];cases r:a.tmps[b]? with
    |none=>rfl
    |some L=>rw[a5J,r]at d;simp only[a6H]at d;cases d;rfl
   simp[Region.wanted,x,P]
theorem B7 (L: ∀A∈D.2,A.1∈env.pins) {P:Array Oper}{b:Oper}{S:c7} (p:qb m env e P b=some S) {d:Act} (B:hE D e u f l j t d h7) (H:T ⟨m,s⟩ S j6 j t) (x:Exit->Act->World->Prop) (I: ∀v k o a h,(∃j,bK o d j)->Step u f l o a h->aY o v k->up s k a->x (.panic [{v,recovered:=false}]) d h):
  if Region.wanted b (yielded P d.tmps)then b.wp m d h7 (λy h=> ∃c a,hE D e u f l c a y h/\j6 c a) x else∃c a,hE D e u f l c a (d.put b.dst undef) h7/\j6 c a:=by
 obtain⟨V,W,g,r,z⟩:=B;unfold qb at p;split at p
 case h_2=>cases p
 rename_i K j9 M N;split at p
 case isFalse=>cases p
 rename_i i;obtain rfl:=a4L p;have n: ∀C,b.dst=some C->C<d.tmps.size:=λC k0=>by grind[B1]
 have k1:=IV N r;have k2:G ⟨m,s⟩ K j t (λk a=>j6 (dk j b.dst k) a)->b.wp m d h7 (λy h=> ∃c a,hE D e u f l c a y h/\j6 c a) x:=λO=>by
  have:=Iz M r z.holds O x (λv k o a h q Q X=>I v k o a h ⟨j,r.mono q.le⟩ (z.trans q) Q X);refine Oper.wp_mono (λy h Y=> ?_) this;obtain⟨v,o,a,k,rfl,w,Z,F⟩:=Y;exact⟨dk j b.dst k,a,⟨by rw[size_put];exact V,W.put L i.2,o,(r.mono w.le).put b.dst n Z,z.trans w⟩,F⟩
 have k3:j6 (dk j b.dst (.aI [])) t-> ∃c a,hE D e u f l c a (d.put b.dst undef) h7/\j6 c a:=λF=>
  ⟨dk j b.dst (.aI []),t,⟨by rw[size_put];exact V,W.put L i.2,g,r.put b.dst n (aY.undef g),z⟩,F⟩
 unfold T E at H;grind
theorem B8 (F: ∀T∈D.2,T.1∈env.pins) {G:Array Oper}{o:Exit->Act->World->Prop}{L:Fr->U->Prop} (P: ∀b c a d,hE D e u f l b c a d->L b c->o .normal a d) (S: ∀a v p k r x,(oV D a/\ ∃b,bK k a b)->Step u f l k r x->aY k v p->up s p r->o (.panic [{v,recovered:=false}]) a x): ∀(y:List Oper) (z:List c7),fs (qb m env e G) y=some z->
  ∀(b:Fr) (c:U) (a:Act) (d:World),hE D e u f l b c a d->iT ⟨m,s⟩ z L b c->wpList m G o y a d
 | [],z,h,b,c,a,d,C,E=>by
  simp only[fs,a4X]at h;subst h;exact P b c a d C E
 |n::y,z,h,b,c,a,d,C,E=>by
  simp only[fs]at h;split at h
  case h_2=>cases h
  rename_i q V W g;obtain rfl:=a4L h;have ih:=B8 F P S y V g;have:=B7 F W C E o (λv p k r x i=>S a v p k r x ⟨C.2.1,i⟩);simp only[wpList];split
  .rename_i j;rw[if_pos j]at this;grind[Oper.wp_mono]
  grind
def wq (G: ∀w∈D.2,w.1∈env.pins) {y:Array Oper}{z:Exit->Act->World->Prop}{j:Fr->U->Prop} (C: ∀b d a c,hE D e u f l b d a c->j b d->z .normal a c) (L: ∀a v E o h k,(oV D a/\ ∃b,bK o a b)->Step u f l o h k->aY o v E->up s E h->z (.panic [{v,recovered:=false}]) a k) {P:List c7} (S:fs (qb m env e y) y.toList=some P):
  ∀(p:Nat) (F:Array Bool) (b:Fr) (d:U) (a:Act) (c:World),hE D e u f l b d a c->tx ⟨m,s⟩ (nth P) y j p F b d->wpAny m .any y z p F a c
 |0,F,b,d,a,c,r,x=>⟨x.1,C b d a c r x.2⟩
 |p+1,F,b,d,a,c,r,x=>by
  refine⟨λA=>C b d a c r (x.1 A),λT n=> ?_⟩;have q:=x.2 T n;obtain⟨_,B,t,_⟩:=mem_ready.1 n;obtain⟨H,I,K⟩:=(B6 S).2 T B (by simpa using t);have M:nth P T=H:=by simp[nth,I]
  rw[M]at q;have:=B7 G K r q z (λv E o h k N=>L a v E o h k ⟨r.2.1,N⟩);unfold wpOp;simp only[t];split
  .rename_i V;rw[if_pos V]at this;exact .inl (Oper.wp_mono (λO k ⟨W,h,g,i⟩=>wq G C L S p _ W h O k g i) this)
  .rename_i V;rw[if_neg V]at this;obtain⟨W,h,g,i⟩:=this;exact wq G C L S p _ W h _ c g i
theorem IW {a:Array Oper}{d:Nat->c7}{h:List di} (c:wm a d h=true) (p:can K d j6 h j f):tx K d a j6 a.size (Array.replicate a.size false) j f:=by
 simp only[wm,a4Q,a5e,decide_eq_true_eq,a6e]at c;obtain⟨⟨⟨⟨⟨E,F⟩,G⟩,L⟩,x⟩,y⟩:=c;have r: ∀b k,k∈iU a b->k<b:=λb k P=>by
  grind[wg,Array.getElem?_eq_some_iff]
 refine IN (AV r a.size [] 0 rfl (λb z c=>by simp[dep]at c)) r a.size _ h a9q a9p (λb=> ?_) x y (λb o C=> ?_) j f p
 .constructor
  .intro o;obtain⟨z,p,rfl⟩:=a5h.1 o;simp_all
  simp_all
 .simp[o]at C
def oW (L:m.follows .mixedOrders=true) (G: ∀k2∈D.2,k2.1∈env.pins): ∀(r:Code) (x:dH),gM m env e r=some x-> ∀(p:gb->Fr->U->Prop) (b:Fr) (c:U) (d:Act) (k:World),hE D e u f l b c d k->bS ⟨m,s⟩ x p b c->r.wp m (post D s e u f l p) d k
 | .skip,x,a,p,b,c,d,k,h,bW=>by
  simp only[gM,a4X]at a;subst a;exact wp_skip ⟨b,c,h,bW⟩
 | .region id ops k3,x,a,p,b,c,d,k,h,bW=>by
  cases k3 with
  |false=>
   simp only[gM]at a;split at a
   case h_2=>
    split at a
    .obtain rfl:=a4L a;trivial
    .cases a
   rename_i Y n;obtain rfl:=a4L a;refine wp_region_list ?_;exact B8 G (λb c d k h y=>⟨b,c,h,y⟩) (λd v q t z E F P w A=>⟨F.1,v,q,t,z,rfl,P,w,A,F.2⟩) ops.toList Y n b c d k h bW
  |true=>
   simp only[gM]at a;split at a
   case h_2=>cases a
   rename_i Y n;split at a
   case isFalse=>cases a
   rename_i k4;obtain rfl:=a4L a;refine wp_region_any L ?_;obtain⟨k5,k6,k7,k8,Z⟩:=h;exact wq G (λb c d k h y=>⟨b,c,h,y⟩) (λd v q t z E F P w A=>⟨F.1,v,q,t,z,rfl,P,w,A,F.2⟩) n ops.size _ b c d _ ⟨k5,k6,k7,k8,Z.trans (Step.drew Z.holds)⟩ (IW k4 bW)
 | .seq c1 c2,x,a,p,b,c,d,k,h,bW=>by
  simp only[gM]at a;split at a
  case h_2=>cases a
  rename_i cd ca F P;obtain rfl:=a4L a;refine wp_seq (wp_mono (oW L G c1 cd F _ b c d k h bW) λC S E o=> ?_);cases C with
  |normal=>obtain⟨T,z,V,y⟩:=o;exact oW L G c2 ca P p T z S E V y
  |exit id=>exact o
  |ret=>exact o
  |goto j9=>exact o
  |panic B=>exact o
  |outgrown=>exact o
 | .cond r c1 c2,x,a,p,b,c,d,k,h,bW=>by
  simp only[gM]at a;split at a
  case h_2=>cases a
  rename_i cd ca F P;split at a
  case isFalse=>cases a
  rename_i k9;obtain rfl:=a4L a;simp only[bS]at bW;split at bW
  case h_2=>trivial
  rename_i n2 l0;have k0:=(h.2.2.choose_spec.1).al r k9;rw[l0]at k0;refine wp_cond_split k0.dQ (λH=> ?_) (λH=> ?_)
  .exact oW L G c1 cd F p b c d k h (bW.1 H)
  .exact oW L G c2 ca P p b c d k h (bW.2 H)
 | .block id r,x,a,p,b,c,d,k,h,bW=>by
  simp only[gM]at a;obtain⟨I,K,rfl⟩:=a7s.1 a;refine wp_block (wp_mono (oW L G r I K _ b c d k h bW) λC S E o=> ?_);cases C with
  |normal=>exact o
  |exit n3=>
   obtain⟨T,z,V,y⟩:=o;simp only[Exit.inBlock];simp only[kW]at y;split
   .rename_i M;rw[if_pos M]at y;exact⟨T,z,V,y⟩
   .rename_i M;rw[if_neg M]at y;exact⟨T,z,V,y⟩
  |ret=>exact o
  |goto j9=>exact o
  |panic B=>exact o
  |outgrown=>exact o
 | .loop r,x,a,p,b,c,d,k,h,bW=>by
  simp only[gM]at a;obtain⟨I,K,rfl⟩:=a7s.1 a;obtain⟨l1,k1,N,l2⟩:=bW;intro O Q X;have l3: ∀g b c d k,k1 b c=g->l1 b c->hE D e u f l b c d k->
    ∃C S E,post D s e u f l p C S E/\Arrives m (lone (O.at d (.code r:: .inLoop r::Q)) X k) O Q X C S E:=by
   intro g
   induction g using Nat.strongRecOn with
   | _ g ih=>
    intro b c d k l4 N h;obtain⟨C,i,j,o,W⟩:=oW L G r I K _ b c d k h (l2 b c N) O (.inLoop r::Q) X;cases C with
    |normal=>obtain⟨T,z,V,l5,l6⟩:=o;obtain⟨l7,l8,l9,n0,n1⟩:=ih (k1 T z) (l4▸l6) T z i j rfl l5 V;exact⟨l7,l8,l9,n0,.of_steps (Steps.trans W (.one step_inLoop)) n1⟩
    |exit id=>exact⟨.exit id,i,j,o,.pass rfl (λ_ _=> .inl a9q) W⟩
    |goto j9=>trivial
    |ret=>exact⟨.ret,i,j,o,.pass rfl (λ_ _=> .inl a9q) W⟩
    |panic B=>exact⟨.panic B,i,j,o,.pass rfl (λ_ _=> .inl a9q) W⟩
    |outgrown=>trivial
  obtain⟨C,S,E,o,W⟩:=l3 _ b c d k rfl N h;exact⟨C,S,E,o,.of_steps (.one step_loop) W⟩
 | .exit id,x,a,p,b,c,d,k,h,bW=>by
  simp only[gM,a4X]at a;subst a;exact wp_exit ⟨b,c,h,bW⟩
 | .ret,x,a,p,b,c,d,k,h,bW=>by
  simp only[gM,a4X]at a;subst a;exact wp_ret ⟨b,c,h,bW⟩
 | .refuse n4,x,a,p,b,c,d,k,h,bW=>by
  simp only[gM,a4X]at a;subst a;trivial
structure ar where
 ntmps:Nat
 nparams:Nat
 code:dH
 results:List (Nat×Option (Bool×Nat))
def qc (b:Program):ResultVar->Option (Nat×Option (Bool×Nat))
 | .tmp a=>some (a,none)
 | .cell d a=>match b.underlying a,kn b a with
  |some c,some e=>if c.isRow=true\/e=1 then some (d,some (c.isRow,e))else none
  | _,_=>none
def Env.all (a:Env) (c:Nat) (b:Nat):Env:=
 match c with
 |1=> {a with tr:=List.range b}
 |2=> {a with ty:=true}
 |5=> {a with Ay:=true}
 |6=> {a with tr:=List.range b,vZ:=true}
 | _=>a
def dt (a:Program) (c:Nat) (d:FuncId):Option ar:=
 match a.funcs[d]? with
 |some fn=>match fn.body with
  |some b=>match gM a ((IU a b).all c fn.ntmps) fn.ntmps b,fs (qc a) fn.results.toList with
   |some h,some rs=>if fn.params.size<=fn.ntmps then some ⟨fn.ntmps,fn.params.size,h,rs⟩else none
   | _,_=>none
  |none=>none
 |none=>none
def gd (b:Fr) (c:U):Nat×Option (Bool×Nat)->Option R
 |(a,none)=>some (b a)
 |(a,some (agg,e))=>match b a with
  | .ptr d off=>match c.read d with
   |some cs=>if off+e<=cs.length then some (aX agg e (cs.drop off))else none
   |none=>none
  | _=>none
def iV (a:Fr) (b:U) (c:List (Nat×Option (Bool×Nat))):Option R:=
 match fs (gd a b) c with
 |some [d]=>some d
 |some h=>some (.aI h)
 |none=>none
def qd (d:ar) (h:R->U->Prop):gb->Fr->U->Prop
 | .exit _,_,_=>False
 | _,k,a=> ∃b c,iV k a d.results=some b/\c.sub a/\h b c
def lQ (a:List R):Fr:=λb=>a.getD b (.aI [])
def rH (b:Array Value):ResultVar->Sem Value
 | .tmp a=>pure (b.getD a undef)
 | .cell c a=>do loadVar a (<-asAddr (b.getD c undef))
theorem IX {o:Act}{p:ResultVar}{k:Nat×Option (Bool×Nat)} (z:aY u (o.tmps.getD k.1 undef) (j k.1)) (P:Holds u f l) (d:qc m p=some k) (b:gd j f k=some n):
  ∃v,(rH o.tmps p).run m l= .ok v l/\aY u v n:=by
 cases p with
 |tmp r=>simp only[qc,a4X]at d;subst d;simp only[gd,a4X]at b;subst b;exact⟨_,rfl,z⟩
 |cell C r=>
  simp only[qc]at d;split at d
  case h_2=>cases d
  rename_i x e E S;split at d
  case isFalse=>cases d
  rename_i V;obtain rfl:=a4L d;simp only[gd]at b;split at b
  case h_2=>cases b
  rename_i h a W;split at b
  case h_2=>cases b
  rename_i I g;split at b
  case isFalse=>cases b
  rename_i i;obtain rfl:=a4L b;have F:aY u (o.tmps.getD C undef) (j C):=z;rw[W]at F;have q:=F.mK;obtain⟨s,c,T,K,t,G⟩:=P.read g;have M:=G.1;cases y:x.isRow with
  |true=>
   have w:l.rangeAt h a ((c.toList.drop a).take e):=by intro N v O;grind[cell_of_row]
   have A:((c.toList.drop a).take e).length=e:=a9r;have L:=run_loadVar_mid l h a r ((c.toList.drop a).take e) x w E y (by rw[A];exact S);refine⟨.agg ((c.toList.drop a).take e).toArray,by simp only[rH,Sem.run_bind,q,asAddr,Sem.run_pure,Result.andThen_ok,L],?_⟩;rw[show((c.toList.drop a).take e).toArray=c.extract a (a+e) by grind];exact aY.aX G s a e i
  |false=>
   obtain rfl:=w3 V y;have B:a<c.size:=a9p;have H:l.cell? ⟨h,a,none⟩=some (c.getD a undef):=by rw[cell_of_row l h a c T _ t];simp[B]
   have L:=vO l r x ⟨h,a,none⟩ _ E y H;grind[undef,rH,Sem.run_bind,asAddr,Sem.run_pure,Result.andThen_ok,aY.vN]
theorem B9 {p:bl}{E:Fr}{F:U}{G:Act}{r:World} (L:Holds p F r): ∀(k:List ResultVar) (c:List (Nat×Option (Bool×Nat))) (d:List R),(∀o∈c,aY p (G.tmps.getD o.1 undef) (E o.1))->fs (qc m) k=some c->fs (gd E F) c=some d->
  ∃h:List Value,(k.mapM (rH G.tmps)).run m r= .ok h r/\h.length=d.length/\ ∀(x:Nat) (y:Value) (z:R),h[x]? =some y->d[x]? =some z->aY p y z
 | [],c,d,C,a,b=>by
  simp only[fs,a4X]at a;subst a;simp only[fs,a4X]at b;simp_all
 |j::k,c,d,C,a,b=>by
  simp only[fs]at a;split at a
  case h_2=>cases a
  rename_i o P S T;obtain rfl:=a4L a;simp only[fs]at b;split at b
  case h_2=>cases b
  rename_i l V W e;obtain rfl:=a4L b;obtain⟨v,n,q⟩:=IX (C o a9q) L S W;obtain⟨h,s,f,t⟩:=B9 L k P V (λg i=>C g (by simp[i])) T e;refine⟨v::h,?_,by simp[f],λx y z u w=> ?_⟩;simp_all;grind
theorem IY {k:Act}{c:Func}{o:List (Nat×Option (Bool×Nat))} (L: ∀F∈o,aY u (k.tmps.getD F.1 undef) (j F.1)) (P:Holds u f l) (S:fs (qc m) c.results.toList=some o) (p:iV j f o=some n):
  ∃v,(results c k.tmps).run m l= .ok v l/\aY u v n:=by
 unfold iV at p;have G: ∀d,fs (gd j f) o=some d-> ∃a:Array Value,(results c k.tmps).run m l= .ok (if T:a.size=1 then a[0]else .tuple a) l/\a.toList.length=d.length/\ ∀(x) (y) (z),a.toList[x]? =some y->d[x]? =some z->aY u y z:=λd r=>by
  obtain⟨a,b,C,h⟩:=B9 P c.results.toList o d L S r;refine⟨a.toArray,?_,by trivial,λx y z e V=>h x y z (by trivial) V⟩;have W:results c k.tmps=(do let a <-c.results.mapM (rH k.tmps);pure (if T:a.size=1 then a[0]else .tuple a)):=rfl;rw[W,Sem.run_bind,Array.mapM_eq_mapM_toList,Sem.run_map];rw[b];rfl
 split at p
 .rename_i g r;obtain rfl:=a4L p;obtain⟨a,b,C,h⟩:=G _ r;have E:a.size=1:=by trivial
  rw[dif_pos E]at b;refine⟨_,b,h 0 _ _ ?_ rfl⟩;simp
 .rename_i d i r;obtain rfl:=a4L p;obtain⟨a,b,C,h⟩:=G _ r;have E:a.size≠1:=by grind[List.length_eq_one_iff]
  rw[dif_neg E]at b;exact⟨_,b,.aI _ _ (bq.dP.2 ⟨C,h⟩).1 (bq.dP.2 ⟨C,h⟩).2⟩
 .cases p
theorem IZ (A:m.follows .mixedOrders=true) {C:ar} (b:dt m e b5=some C) (B:g.length<=C.ntmps) (q:bS ⟨m,a7⟩ C.code (qd C s) (lQ g) f):hC m b5 g f s (up a7):=by
 intro h r o t H;unfold dt at b;split at b
 case h_2=>cases b
 rename_i p I;split at b
 case h_2=>cases b
 rename_i K M;split at b
 case h_2=>cases b
 rename_i N O Q X;split at b
 case isFalse=>cases b
 rename_i k3;obtain rfl:=a4L b;simp only at B q;refine calls_of_wp I M ?_;have u:=t.1;have Y:hE ([],[]) p.ntmps o f r (lQ g) f {tmps:=h++Array.replicate (p.ntmps - h.size) undef,defers:= []} r:=by
  refine⟨a9r,⟨rfl,λS T=>by simp at T⟩,o,λc=> ?_,.refl H⟩;by_cases E:c<g.length
  .have V:lQ g c=g[c]:=by simp[lQ,E]
   rw[V];have:=t.2 c g[c] (a4M E);have W:(h++Array.replicate (p.ntmps - h.size) undef).getD c undef=h.getD c undef:=by simp[a8T,u,E]
   rw[W];exact this
  .have V:lQ g c= .aI []:=by simp[lQ,E]
   rw[V];have W:(h++Array.replicate (p.ntmps - h.size) undef).getD c undef=undef:=by simp only[a5J,a8T,u];grind
   rw[W];exact aY.undef o
 refine wp_mono (oW A (λS T=>by simp at T) K N Q _ _ _ _ _ Y q) λZ i x F=> ?_;have w:(∃G y,hE ([],[]) p.ntmps o f r G y i x/\ ∃a L,iV G y O=some a/\L.sub y/\s a L)->
   i.defers= []/\ ∃v,(results p i.tmps).run m x= .ok v x/\((∃z a d k,Ending.returned v= .returned z/\Step o f r d k x/\aY d z a/\s a k)\/(∃z a d k,Ending.returned v= .panicked [{v:=z,recovered:=false}]/\Step o f r d k x/\aY d z a/\up a7 a k)):=by
  rintro⟨G,y,⟨_,j,d,j9,P⟩,a,L,k0,k1,l⟩;obtain⟨v,k2,n⟩:=IY (λS _=>j9 S.1) P.holds X k0;exact⟨j.1,v,k2,.inl ⟨v,a,d,L,rfl,P.drop k1,n,l⟩⟩
 cases Z with
 |normal=>exact w F
 |ret=>exact w F
 |exit id=>obtain⟨G,y,_,k4⟩:=F;trivial
 |goto k5=>trivial
 |panic k6=>obtain⟨j,v,a,d,k,rfl,P,n,l,_⟩:=F;exact⟨j.1,.inr ⟨v,a,d,k,rfl,P,n,l⟩⟩
 |outgrown=>trivial
def J0 (b:m.follows .mixedOrders=true) {a:ar} (c:dt m e b5=some a) (d:g.length<=a.ntmps) (h:bS (Ctx.of m) a.code (qd a s) (lQ g) f):AC m b5 g f s:=
 (IZ b c d h).H5
end
abbrev aF (a:Nat):Operand:= .tmp a
abbrev lR (a:Int):Operand:= .const (.int .i64 a)
abbrev qe:Operand:= .const (.bool false)
abbrev J1:Operand:= .const (.slice none 0 0)
abbrev bD (a:Nat) (b:cb):c7:=⟨some a,b,none⟩
abbrev on (a:cb):c7:=⟨none,a,none⟩
abbrev eZ (a:Nat) (b:Bool) (c:Nat) (d:cb):c7:=⟨some c,d,some (a,b)⟩
abbrev aB (a b:Nat):c7:=⟨some a,.eX (.tmp b),none⟩
abbrev cF (a:Nat) (b:BinOp) (c d:Nat):c7:=⟨some a,.bin b (.tmp c) (.tmp d),none⟩
abbrev ft (a:Nat) (b:BinOp) (c:Nat) (d:Int):c7:=⟨some a,.bin b (.tmp c) (.const (.int .i64 d)),none⟩
abbrev oX (a b:Nat):c7:=⟨some a,.len (.tmp b),none⟩
abbrev bf (a:Nat):di:=⟨a,[],[]⟩
end Go.bz
set_option maxRecDepth 100000
namespace Go.Proofs.YtlgnfcaolejgeaaGreat
open Go Go.bz
theorem hm:Tryz.prog.follows .mixedOrders=true:=a9u
abbrev iq:=List R
def J2:Nat->Operand
 |0=>(.const (.int .i64 0))
 |1=>(.const (.bool false))
 |2=>(.const (.int .i64 1))
 |3=>(.const (.slice none 0 0))
 |4=>(.const (.bool true))
 |5=>(.const (.pointer none))
 |6=>(.const (.int .i64 8))
 | _=>(.const (.int .i64 4))
def J3:Nat->Operand
 |0=>(.const (.int .i64 2))
 |1=>(.const (.int .u8 2))
 |2=>(.const (.int .u8 3))
 |3=>(.const (.int .u8 1))
 |4=>(.const (.int .i64 3))
 |5=>(.const (.int .i64 (-1)))
 |6=>(.const (.int .i64 64))
 | _=>(.const (.int .i64 21))
def J4:Nat->Operand
 |0=>(.const (.int .u8 0))
 |1=>(.const (.int .u64 0))
 |2=>(.const (.int .i64 16))
 |3=>(.const (.int .i64 1048576))
 |4=>(.const (.int .i64 6))
 |5=>(.const (.int .i64 9))
 |6=>(.const (.string ⟨#[116]⟩))
 | _=>(.const (.int .i64 7))
def J5:Nat->Operand
 |0=>(.const (.int .u64 8))
 |1=>(.const (.int .u64 32))
 |2=>(.const (.int .i64 10))
 |3=>(.const (.int .u64 9223372036854775808))
 |4=>(.const (.int .i64 5))
 |5=>(.const (.int .i64 56))
 |6=>(.const (.int .u64 16))
 | _=>(.const (.int .u64 256))
def J6:Nat->Operand
 |0=>(.const (.int .u8 4))
 |1=>(.const (.int .i64 256))
 |2=>(.const (.int .i64 100))
 |3=>(.const (.string ⟨#[99,97,110,110,111,116,32,98,101,32,110,101,103,97,116,105,118,101]⟩))
 |4=>(.const (.int .i64 32))
 |5=>(.const (.int .u64 4294967295))
 |6=>(.const (.int .i64 40))
 | _=>(.const (.int .i64 20))
def J7:Nat->Operand
 |0=>(.const (.string ⟨#[105,100]⟩))
 |1=>(.const (.int .u8 67))
 |2=>(.func 237)
 |3=>(.const (.int .u8 80))
 |4=>(.const (.int .u8 128))
 |5=>(.const (.int .u64 24))
 |6=>(.const (.int .u32 1779033703))
 | _=>(.const (.int .u32 3144134277))
def J8:Nat->Operand
 |0=>(.const (.int .u32 1013904242))
 |1=>(.const (.int .u32 2773480762))
 |2=>(.const (.int .u32 1359893119))
 |3=>(.const (.int .u32 2600822924))
 |4=>(.const (.int .u32 528734635))
 |5=>(.const (.int .u32 1541459225))
 |6=>(.const (.int .u32 256))
 | _=>(.const (.int .u32 1116352408))
def J9:Nat->Operand
 |0=>(.const (.int .u32 1899447441))
 |1=>(.const (.int .u32 3049323471))
 |2=>(.const (.int .u32 3921009573))
 |3=>(.const (.int .u32 961987163))
 |4=>(.const (.int .u32 1508970993))
 |5=>(.const (.int .u32 2453635748))
 |6=>(.const (.int .u32 2870763221))
 | _=>(.const (.int .u32 3624381080))
def Ja:Nat->Operand
 |0=>(.const (.int .u32 310598401))
 |1=>(.const (.int .u32 607225278))
 |2=>(.const (.int .u32 1426881987))
 |3=>(.const (.int .u32 1925078388))
 |4=>(.const (.int .u32 2162078206))
 |5=>(.const (.int .u32 2614888103))
 |6=>(.const (.int .u32 3248222580))
 | _=>(.const (.int .u32 3835390401))
def Jb:Nat->Operand
 |0=>(.const (.int .u32 4022224774))
 |1=>(.const (.int .u32 264347078))
 |2=>(.const (.int .u32 604807628))
 |3=>(.const (.int .u32 770255983))
 |4=>(.const (.int .u32 1249150122))
 |5=>(.const (.int .u32 1555081692))
 |6=>(.const (.int .u32 1996064986))
 | _=>(.const (.int .u32 2554220882))
def Jc:Nat->Operand
 |0=>(.const (.int .u32 2821834349))
 |1=>(.const (.int .u32 2952996808))
 |2=>(.const (.int .u32 3210313671))
 |3=>(.const (.int .u32 3336571891))
 |4=>(.const (.int .u32 3584528711))
 |5=>(.const (.int .u32 113926993))
 |6=>(.const (.int .u32 338241895))
 | _=>(.const (.int .u32 666307205))
def Jd:Nat->Operand
 |0=>(.const (.int .u32 773529912))
 |1=>(.const (.int .u32 1294757372))
 |2=>(.const (.int .u32 1396182291))
 |3=>(.const (.int .u32 1695183700))
 |4=>(.const (.int .u32 1986661051))
 |5=>(.const (.int .u32 2177026350))
 |6=>(.const (.int .u32 2456956037))
 | _=>(.const (.int .u32 2730485921))
def Je:Nat->Operand
 |0=>(.const (.int .u32 2820302411))
 |1=>(.const (.int .u32 3259730800))
 |2=>(.const (.int .u32 3345764771))
 |3=>(.const (.int .u32 3516065817))
 |4=>(.const (.int .u32 3600352804))
 |5=>(.const (.int .u32 4094571909))
 |6=>(.const (.int .u32 275423344))
 | _=>(.const (.int .u32 430227734))
def Jf:Nat->Operand
 |0=>(.const (.int .u32 506948616))
 |1=>(.const (.int .u32 659060556))
 |2=>(.const (.int .u32 883997877))
 |3=>(.const (.int .u32 958139571))
 |4=>(.const (.int .u32 1322822218))
 |5=>(.const (.int .u32 1537002063))
 |6=>(.const (.int .u32 1747873779))
 | _=>(.const (.int .u32 1955562222))
def Jg:Nat->Operand
 |0=>(.const (.int .u32 2024104815))
 |1=>(.const (.int .u32 2227730452))
 |2=>(.const (.int .u32 2361852424))
 |3=>(.const (.int .u32 2428436474))
 |4=>(.const (.int .u32 2756734187))
 |5=>(.const (.int .u32 3204031479))
 |6=>(.const (.int .u32 3329325298))
 | _=>(.const (.int .u64 1))
def Jh:Nat->Operand
 |0=>(.const (.int .i64 15))
 |1=>(.const (.int .u64 2))
 |2=>(.const (.int .u32 0))
 |3=>(.const (.string ⟨#[108,101,110,32,111,117,116,32,111,102,32,114,97,110,103,101]⟩))
 |4=>(.const (.string ⟨#[97]⟩))
 |5=>(.const (.int .i64 300))
 |6=>(.const (.int .i64 50))
 | _=>(.func 47)
def Ji:Nat->Operand
 |0=>(.func 48)
 |1=>(.func 49)
 |2=>(.func 50)
 |3=>(.func 71)
 |4=>(.const (.int .i64 (-9223372036854775808)))
 |5=>(.const (.int .i64 9223372036854775807))
 |6=>(.func 84)
 | _=>(.func 85)
def Jj:Nat->Operand
 |0=>(.func 86)
 |1=>(.func 87)
 |2=>(.func 119)
 |3=>(.const (.int .i64 1000))
 |4=>(.const (.int .u64 9223372036854775807))
 |5=>(.const (.string ⟨#[116,104,101,32,114,101,115,117,108,116,32,111,102,32,40,108,101,110,40,120,41,32,42,32,99,111,117,110,116,41,32,111,118,101,114,102,108,111,119,115]⟩))
 |6=>(.const (.int .i32 97))
 | _=>(.const (.int .i32 122))
def Jk:Nat->Operand
 |0=>(.const (.int .i32 48))
 |1=>(.const (.int .i32 57))
 |2=>(.const (.int .i32 95))
 |3=>(.const (.int .u8 97))
 |4=>(.const (.int .u8 122))
 |5=>(.const (.int .u8 48))
 |6=>(.const (.int .u8 57))
 | _=>(.const (.int .u8 95))
def Jl:Nat->Operand
 |0=>(.const (.int .i64 17))
 |1=>(.const (.int .i64 22))
 |2=>(.const (.int .i64 65536))
 |3=>(.const (.int .u64 18446744073709551615))
 |4=>(.func 227)
 |5=>(.const (.int .i64 255))
 |6=>(.const (.int .i64 24))
 | _=>(.func 287)
def Jm:Nat->Operand
 |0=>(.func 288)
 |1=>(.const (.string ⟨#[]⟩))
 |2=>(.const (.int .u64 4294967296))
 |3=>(.const (.int .u64 65536))
 |4=>(.const (.int .i64 (-6)))
 |5=>(.const (.int .i64 (-11)))
 |6=>(.const (.int .i64 (-25)))
 | _=>(.const (.int .i64 (-2)))
def Jn:Nat->Operand
 |0=>(.const (.int .i64 (-13)))
 |1=>(.const (.int .i64 (-22)))
 |2=>(.const (.int .u64 7))
 |3=>(.const (.int .u64 18))
 |4=>(.const (.int .u32 8))
 |5=>(.const (.int .u64 17))
 |6=>(.const (.int .u64 19))
 | _=>(.const (.int .u32 1024))
def Jo:Nat->Operand
 |0=>(.const (.int .u32 4294967295))
 |1=>(.const (.int .u64 6))
 |2=>(.const (.int .u64 11))
 |3=>(.const (.int .u64 25))
 |4=>(.const (.int .u64 13))
 |5=>(.const (.int .u64 22))
 |6=>(.const .nilFunc)
 | _=>(.const (.int .i64 (-7)))
def Jp:Nat->Operand
 |0=>(.const (.int .i64 (-18)))
 |1=>(.const (.int .u64 3))
 |2=>(.const (.int .i64 (-17)))
 |3=>(.const (.int .i64 (-19)))
 |4=>(.const (.int .u64 10))
 |5=>(.const (.int .u64 31))
 | _=>(.const (.int .i64 63))
def Jq (a:Nat):Operand:=
 match a/8%8 with
 |0=>J2 (a%8)
 |1=>J3 (a%8)
 |2=>J4 (a%8)
 |3=>J5 (a%8)
 |4=>J6 (a%8)
 |5=>J7 (a%8)
 |6=>J8 (a%8)
 | _=>J9 (a%8)
def Jr (a:Nat):Operand:=
 match a/8%8 with
 |0=>Ja (a%8)
 |1=>Jb (a%8)
 |2=>Jc (a%8)
 |3=>Jd (a%8)
 |4=>Je (a%8)
 |5=>Jf (a%8)
 |6=>Jg (a%8)
 | _=>Jh (a%8)
def Js (a:Nat):Operand:=
 match a/8%8 with
 |0=>Ji (a%8)
 |1=>Jj (a%8)
 |2=>Jk (a%8)
 |3=>Jl (a%8)
 |4=>Jm (a%8)
 |5=>Jn (a%8)
 |6=>Jo (a%8)
 | _=>Jp (a%8)
def Ba (a:Nat):Operand:=
 match a/64 with
 |0=>Jq a
 |1=>Jr a
 | _=>Js a
def Jt:Nat->cb
 |0=>(.eqv true [(32,(.int .u8))] (.tmp 74) (.tmp 76))
 |1=> .kk
 |2=>(.ke 87 (.tmp 0))
 |3=>(.ju 1 32 (.tmp 5) none none)
 |4=>(.eqv true [(2,(.int .u64))] (.tmp 36) (.tmp 37))
 |5=>(.kj (.tmp 6))
 |6=>(.mC (.tmp 7))
 | _=>(.lF (.tmp 13) (.tmp 14))
def Ju:Nat->cb
 |0=>(.eqv false [(32,(.int .u8))] (.tmp 6) (.tmp 8))
 |1=>(.eqv false [(2,(.int .u64))] (.tmp 6) (.tmp 7))
 |2=>(.lJ true [(32,(.int .u8))] (.J [] .nil) (.tmp 12) (.tmp 13))
 |3=>(.ke 77 (.tmp 1))
 |4=>(.ju 1 32 (.tmp 3) none none)
 |5=>(.kg 1 32 (.tmp 59) none none true)
 |6=>(.pZ false 1 8 (.tmp 50) (.tmp 51))
 | _=>(.kg 1 32 (.tmp 3) none none false)
def Jv:Nat->cb
 |0=>(.mz 1 (.tmp 11) (.tmp 12))
 |1=>(.lF (.const (.string ⟨#[0,1,2,2,3,3,3,3,4,4,4,4,4,4,4,4,5,5,5,5,5,5,5,5,5,5,5,5,5,5,5,5,6,6,6,6,6,6,6,6,6,6,6,6,6,6,6,6,6,6,6,6,6,6,6,6,6,6,6,6,6,6,6,6,7,7,7,7,7,7,7,7,7,7,7,7,7,7,7,7,7,7,7,7,7,7,7,7,7,7,7,7,7,7,7,7,7,7,7,7,7,7,7,7,7,7,7,7,7,7,7,7,7,7,7,7,7,7,7,7,7,7,7,7,7,7,7,7,8,8,8,8,8,8,8,8,8,8,8,8,8,8,8,8,8,8,8,8,8,8,8,8,8,8,8,8,8,8,8,8,8,8,8,8,8,8,8,8,8,8,8,8,8,8,8,8,8,8,8,8,8,8,8,8,8,8,8,8,8,8,8,8,8,8,8,8,8,8,8,8,8,8,8,8,8,8,8,8,8,8,8,8,8,8,8,8,8,8,8,8,8,8,8,8,8,8,8,8,8,8,8,8,8,8,8,8,8,8,8,8,8,8,8,8,8,8,8,8,8,8,8,8,8,8,8,8]⟩)) (.tmp 21))
 |2=>(.lJ true [(32,(.int .u8))] (.J [] .nil) (.tmp 14) (.tmp 15))
 | _=>(.lK [(32,(.int .u8))] (.tmp 25) (.tmp 26) (.tmp 28))
def Jw (a:Nat):cb:=
 match a/8 with
 |0=>Jt (a%8)
 |1=>Ju (a%8)
 | _=>Jv (a%8)
def Jx (a:Nat):Nat:=if 96<a then a - 97 else if 64<a then a - 39 else if 47<a then a+4 else a+26
def Jy (a:List iq) (b:Nat):iq:=a.getD b []
variable{b0:Type}
section
def cT (k:List Nat) (b:Nat->List Nat->b0):b0:=
 match k with
 |c::a=>if c<69 then b c a else if c=69 then(match a with|d::h::a=>b (d*71+h) a| _=>b 0 [])else(match a with|d::h::o::a=>b ((d*71+h)*71+o) a| _=>b 0 [])
 | []=>b 0 []
def Jz (a b:Nat) (c:Operand->List Nat->b0) (d:List Nat):b0:=
 match a - b with
 |h=>c (.tmp h) d
def bJ (h:Nat) (k:List Nat) (b:Operand->List Nat->b0):b0:=
 match k with
 |c::a=>if c<20 then b (.tmp c) a else if c<36 then Jz h (c - 20) b a else if c<70 then b (Ba (c - 36)) a else cT a λd a=>if d<1000 then b (.tmp d) a else b (Ba (d - 1000)) a
 | []=>b J1 []
def iW (b:List Nat) (a:Nat->List Nat->b0):b0:=
 match b with
 |c::d=>a c d
 | []=>a 0 []
def wu (a:List Nat) (b:Bool->List Nat->b0):b0:=iW a λc a=>if c=0 then b false a else b true a
def rI (b:List iq) (a:List Nat) (c:iq->List Nat->b0):b0:=iW a λd a=>c (Jy b d) a
def oY {c:Type} (d:List Nat->(c->List Nat->b0)->b0):Nat->List Nat->(List c->List Nat->b0)->b0
 |0,a,b=>b [] a
 |h+1,a,b=>d a λk a=>oY d h a λo a=>b (k::o) a
def qf (b:Nat) (a:List Nat) (c:List Operand->List Nat->b0):b0:=iW a λd a=>oY (bJ b) d a c
def rJ (c:Nat) (a:List Nat) (b:Option Operand->List Nat->b0):b0:=iW a λd a=>if d=0 then b none a else bJ c a λh a=>b (some h) a
def JA (b:Nat) (a:List Nat) (c:Nat×Nat×Operand->List Nat->b0):b0:=cT a λd a=>cT a λh a=>bJ b a λk a=>c (d,h,k) a
def JB (b:Nat) (a:List Nat) (c:List (Nat×Nat×Operand)->List Nat->b0):b0:=iW a λd a=>oY (JA b) d a c
def JC (a:List Nat) (b:UnOp->List Nat->b0):b0:=iW a λc a=>b (match c with|0=> .neg|1=> .xor|2=> .not| _=> .plus) a
def Bb (a:List Nat) (b:IntKind->List Nat->b0):b0:=iW a λc a=>b (match c with|0=> .i8|1=> .i16|2=> .i32|3=> .i64|4=> .u8|5=> .u16|6=> .u32| _=> .u64) a
def JD (a:List Nat) (b:di->List Nat->b0):b0:=cT a λc a=>iW a λd a=>oY cT d a λh a=>iW a λk a=>oY cT k a λo a=>b ⟨c,h,o⟩ a
def JE (a:List Nat) (b:Nat×Option (Bool×Nat)->List Nat->b0):b0:=cT a λc a=>iW a λd a=>if d=0 then b (c,none) a else cT a λh a=>b (c,some (if d=1 then false else true,h)) a
end
def JF (k:List iq) (c:Nat):Nat->List Nat->cb×List Nat
 |0=>λa=>bJ c a λb a=>(.eX b,a)
 |1=>λa=>bJ c a λb a=>(.load false 1 b,a)
 |2=>λa=>cT a λb a=>bJ c a λd a=>(.kQ b d,a)
 |3=>λa=>cT a λb a=>qf c a λd a=>(.fR b d,a)
 |4=>λa=>cT a λb a=>bJ c a λd a=>(.load true b d,a)
 |5=>λa=>cT a λb a=>bJ c a λd a=>bJ c a λh a=>(.store b d h,a)
 |6=>λa=>bJ c a λb a=>(.len b,a)
 | _=>λa=>cT a λb a=>bJ c a λd a=>bJ c a λh a=>(.dG b d h,a)
def JG (h:List iq) (d:Nat):Nat->List Nat->cb×List Nat
 |0=>λa=>bJ d a λb a=>cT a λc a=>(.ext b c,a)
 |1=>λa=>bJ d a λb a=>bJ d a λc a=>(.bin .add b c,a)
 |2=>λa=>bJ d a λb a=>(.pX b,a)
 |3=>λa=>bJ d a λb a=>bJ d a λc a=>bJ d a λk a=>(.pick b c k,a)
 |4=>λa=>cT a λb a=>bJ d a λc a=>(.box b c,a)
 |5=>λa=>bJ d a λb a=>bJ d a λc a=>(.bin .lss b c,a)
 |6=>λa=>bJ d a λb a=>bJ d a λc a=>(.bin .eql b c,a)
 | _=>λa=>cT a λb a=>rI h a λc a=>(.alloc b c,a)
def JH (o:List iq) (d:Nat):Nat->List Nat->cb×List Nat
 |0=>λa=>rI o a λb a=>JB d a λc a=>(.lG b c,a)
 |1=>λa=>JC a λb a=>bJ d a λc a=>(.un b c,a)
 |2=>λa=>bJ d a λb a=>bJ d a λc a=>(.bin .neq b c,a)
 |3=>λa=>cT a λb a=>bJ d a λc a=>rJ d a λh a=>rJ d a λk a=>rJ d a λp a=>(.lL b c h k p,a)
 |4=>λa=>cT a λb a=>qf d a λc a=>(.kf b c,a)
 |5=>λa=>Bb a λb a=>bJ d a λc a=>(.iP b c,a)
 |6=>λa=>cT a λb a=>cT a λc a=>bJ d a λh a=>bJ d a λk a=>(.app b c h k,a)
 | _=>λa=>cT a λb a=>cT a λc a=>bJ d a λh a=>bJ d a λk a=>(.lI b c h k,a)
def JI (o:List iq) (b:Nat):Nat->List Nat->cb×List Nat
 |0=>λa=>bJ b a λc a=>bJ b a λd a=>(.bin .gtr c d,a)
 |1=>λa=>cT a λc a=>cT a λd a=>bJ b a λh a=>bJ b a λk a=>(.pY c d h k,a)
 |2=>λa=>bJ b a λc a=>bJ b a λd a=>(.bin .sub c d,a)
 |3=>λa=>cT a λc a=>qf b a λd a=>(.ki c d,a)
 |4=>λa=>bJ b a λc a=>bJ b a λd a=>(.bin .geq c d,a)
 |5=>λa=>bJ b a λc a=>bJ b a λd a=>(.bin .xor c d,a)
 |6=>λa=>bJ b a λc a=>bJ b a λd a=>(.bin .mul c d,a)
 | _=>λa=>cT a λc a=>bJ b a λd a=>rJ b a λh a=>rJ b a λk a=>(.oQ c d h k,a)
def JJ (k:List iq) (b:Nat):Nat->List Nat->cb×List Nat
 |0=>λa=>bJ b a λc a=>bJ b a λd a=>(.bin .shr c d,a)
 |1=>λa=>cT a λc a=>bJ b a λd a=>bJ b a λh a=>(.mF c d h,a)
 |2=>λa=>bJ b a λc a=>bJ b a λd a=>(.bin .leq c d,a)
 |3=>λa=>cT a λc a=>qf b a λd a=>qf b a λh a=>(.bG c d h,a)
 |4=>λa=>bJ b a λc a=>bJ b a λd a=>(.bin .rem c d,a)
 |5=>λa=>bJ b a λc a=>qf b a λd a=>(.iQ c d,a)
 |6=>λa=>bJ b a λc a=>bJ b a λd a=>(.bin .quo c d,a)
 | _=>λa=>bJ b a λc a=>bJ b a λd a=>(.bin .and c d,a)
def JK (o:List iq) (c:Nat):Nat->List Nat->cb×List Nat
 |0=>λa=>wu a λb a=>bJ c a λd a=>bJ c a λh a=>(.q1 b d h,a)
 |1=>λa=>wu a λb a=>Bb a λd a=>bJ c a λh a=>bJ c a λk a=>(.lH b d h k,a)
 |2=>λa=>bJ c a λb a=>(.q0 b,a)
 |3=>λa=>wu a λb a=>bJ c a λd a=>(.mA b d,a)
 |4=>λa=>bJ c a λb a=>bJ c a λd a=>(.bin .shl b d,a)
 |5=>λa=>bJ c a λb a=>bJ c a λd a=>(.bin .or b d,a)
 |6=>λa=>bJ c a λb a=>(.mD b,a)
 | _=>λa=>cT a λb a=>bJ c a λd a=>(.q4 b d,a)
def JL (k:List iq) (c:Nat):Nat->List Nat->cb×List Nat
 |0=>λa=>bJ c a λb a=>(.mB b,a)
 |1=>λa=>bJ c a λb a=>(.q2 b,a)
 |2=>λa=>cT a λb a=>cT a λd a=>rI k a λh a=>bJ c a λo a=>bJ c a λp a=>(.mG b d h o p,a)
 |3=>λa=>bJ c a λb a=>bJ c a λd a=>(.mH b d,a)
 |4=>λa=>bJ c a λb a=>(.q3 b,a)
 |5=>λa=>cT a λb a=>rI k a λd a=>bJ c a λh a=>(.mE b d h,a)
 |6=>λa=>cT a λb a=>cT a λd a=>rI k a λh a=>bJ c a λo a=>bJ c a λp a=>(.kh b d h o p,a)
 | _=>λa=>cT a λr a=>(Jw r,a)
def Bc (b:List iq) (c:Nat) (a:Nat):List Nat->cb×List Nat:=
 match a/8 with
 |0=>JF b c (a%8)
 |1=>JG b c (a%8)
 |2=>JH b c (a%8)
 |3=>JI b c (a%8)
 |4=>JJ b c (a%8)
 |5=>JK b c (a%8)
 | _=>JL b c (a%8)
def nR (c:List iq):Nat->Nat->Option (Nat×Bool)->List Nat->List c7×Nat×List Nat
 |0,b,_,a=>([],b,a)
 |p+1,b,d,a=>iW a λh a=>
  if h<56 then match Bc c b h a with|(r,a)=>match nR c p (b+1) d a with|(k,o,a)=>(⟨some (b+1),r,d⟩::k,o,a)
  else if h=56 then cT a λx a=>iW a λh a=>match Bc c b h a with|(r,a)=>match x with
   |0=>match nR c p b d a with|(k,o,a)=>(⟨none,r,d⟩::k,o,a)
   |x+1=>match nR c p x d a with|(k,o,a)=>(⟨some x,r,d⟩::k,o,a)
  else if h=57 then([],b,a)
  else cT a λy a=>nR c p b (if y=0 then none else some (y/2 - 1,if y%2=1 then true else false)) a
def nS (c:List iq):Nat->Nat->List Nat->dH×Nat×List Nat
 |0,b,a=>(.skip,b,a)
 |d+1,b,a=>iW a λr a=>match r with
  |0=>(.skip,b,a)
  |1=>match nR c d b none a with|(h,b,a)=>(.plain h,b,a)
  |2=>match nR c d b none a with|(h,b,a)=>(.draw h ((List.range h.length).map bf),b,a)
  |3=>match nS c d b a with|(k,b,a)=>match nS c d b a with|(o,b,a)=>(.seq k o,b,a)
  |4=>bJ b a λx a=>match nS c d b a with|(k,b,a)=>match nS c d b a with|(o,b,a)=>(.cond x k o,b,a)
  |5=>cT a λp a=>match nS c d b a with|(k,b,a)=>(.block p k,b,a)
  |6=>match nS c d b a with|(k,b,a)=>(.loop k,b,a)
  |7=>cT a λp a=>(.exit p,b,a)
  |8=>(.ret,b,a)
  |9=>(.refuse,b,a)
  |10=>match nR c d b none a with|(h,b,a)=>cT a λy a=>oY JD y a λz a=>(.draw h z,b,a)
  | _=>match nR c d b none a with|(h,b,a)=>match nS c d b a with|(o,b,a)=>(.seq (.plain h) o,b,a)
def JM (h:List iq) (b:List Char):ar:=
 cT (b.map λc=>Jx c.toNat) λk a=>cT a λd a=>iW a λb a=>oY JE b a λo a=>match nS h 999 d a with|(c,_,_)=>⟨k,d,c,o⟩
abbrev av (a b:Nat) (c:ar):Prop:=dt Tryz.prog a b=some c
variable{e i v O b8 j0:Nat}
def aw {a:ar} (b:dt Tryz.prog e i=some a:=by kernel_rfl):av e i a:=b
abbrev ax (m:String) {a:List Char}{b:List R->List R->List R->List R->List R->List R->List R->List R->List R->List R->List R->List R->List R->List R->List R->List R->List R->List R->List R->List R->List R->List R->List R->List R->List R->List R->List R->ar} (_:String.ofList a=m:=by rfl) (_: ∀c d h k o p r x y z C D E F G L P S T V W e f g i j l:List R,JM [c,d,h,k,o,p,r,x,y,z,C,D,E,F,G,L,P,S,T,V,W,e,f,g,i,j,l] a=b c d h k o p r x y z C D E F G L P S T V W e f g i j l:=by intros;conv=>lhs;cbv):ar:=
 b (((List.replicate 32 (.v (.int .u8 0))):List R)++([(.J [] .nil),(.J [] .nil)]:List R)++([(.v (.int .i64 0)),(.v (.int .i64 0))]:List R)++([(.J [] .nil)]:List R)) [(.J [] .nil),(.J [] .nil)] [(.v (.int .u8 0)),(.J [] .nil),(.J [] .nil)] (([(.v (.string ⟨#[]⟩))]:List R)++([(.J [] .nil)]:List R)++((List.replicate 32 (.v (.int .u8 0))):List R)++([(.J [] .nil),(.J [] .nil)]:List R)++([(.v (.int .i64 0)),(.v (.int .i64 0))]:List R)++([(.J [] .nil)]:List R)++((List.replicate 32 (.v (.int .u8 0))):List R)++([(.J [] .nil),(.J [] .nil)]:List R)++([(.v (.int .i64 0)),(.v (.int .i64 0))]:List R)++([(.J [] .nil)]:List R)) (List.replicate 32 (.v (.int .u8 0))) [(.v (.int .u64 0)),(.v (.int .u64 0))] [(.J [] .nil),(.v (.bool false))] [(.v (.bool false)),(.J [] .nil),(.J [] .nil)] [(.v (.int .u8 0)),(.v (.string ⟨#[]⟩)),(.J [] .nil),(.J [] .nil)] [(.J [] .nil),(.v (.int .i64 0))] [(.v (.pointer none)),(.v (.int .i64 0))] (List.replicate 8 (.v (.int .u32 0))) (List.replicate 64 (.v (.int .u32 0))) [(.J [] .nil)] [(.J [] .nil),(.v (.bool false)),(.v (.pointer none)),(.v (.pointer none))] [(.v (.pointer none)),(.J [] .nil)] [(.v (.string ⟨#[]⟩)),(.J [] .nil),(.J [] .nil),(.v (.pointer none)),(.v (.pointer none))] (List.replicate 5 (.v .nilFunc)) (((List.replicate 32 (.v (.int .u8 0))):List R)++([(.J [] .nil),(.J [] .nil)]:List R)++([(.v (.int .i64 0)),(.v (.int .i64 0))]:List R)++([(.J [] .nil)]:List R)++([(.v (.int .u64 0)),(.v (.int .u64 0))]:List R)++([(.v (.int .i64 0)),(.v (.int .i64 0))]:List R)) [(.v (.int .i64 0))] [(.J [] .nil),(.J [] .nil),(.v (.int .u8 0)),(.v (.int .i64 0)),(.J [] .nil),(.v (.int .i64 0)),(.v (.bool false))] [(.v (.int .u8 0)),(.v (.int .i64 0)),(.J [] .nil)] [(.v (.pointer none)),(.J [] .nil),(.J [] .nil),(.v (.int .u8 0)),(.v (.int .i64 0)),(.J [] .nil),(.v (.int .i64 0)),(.v (.bool false)),(.v (.int .i64 0)),(.J [] .nil),(.v (.int .i64 0)),(.v (.int .i64 0)),(.v (.int .i64 0)),(.J [] .nil)] [(.v (.map none)),(.J [] .nil),(.J [] .nil),(.v (.bool false))] (((List.replicate 8 (.v (.int .u32 0))):List R)++([(.J [] .nil)]:List R)++([(.v (.int .u64 0))]:List R)) [(.v (.int .u8 0))] [(.v (.int .u32 0))]
def JN:ar:=ax "+b5cbeal4faL5dl4rdiarcq5erl4faL5iadl4taadjbsat6QabQuyu,+oO6alxOu5eul4faO5ial4Baadkbu4Aau4Diuaixb4gava,D5dl4FafOauP5eul4faO5ial4IafdAbuafdybudKcwu4Hau4NiuaiAb4iava,N5l4QafdybudKcPu4Pau4Tiuaiyb4kava,T5l4WafdAbuafdybuabqdbabuu+bfbuw+bf+d?xudKcAu4Vau45iuaiEb4mava,55dl47aisuKau6+bZahOauP6alwOuau6+b7aksuM6alwOuau6+b?amsuM6alwOuau6+ceahdEbuafdEbu3a6alzOuau6+csahdybuagdzbudxcwurcu6alAOu5eul4faL5iadl4oaK5fagdl4+branagkucaubugunzu5euahadfbl4+bBahagkucaubuanhbvubukucaubudBcEu4+bAau4+bNiuaiHb4pava,+bN5l4+bPapsuKau6+dpaoagkucaubuanhbvubukuccubudCcEurcu6alHOu5eul4faL5iab4+byanjuM4oau5l4faO5i"
def JO:av 0 7 JN:=aw
def wv:ar:=ax "+bnabaal4baL5l4ndDa4cam5dl4oabOanP5eol4baL5ial4qabubb,+p7qidabVbb6cbqducpr4das5l4uabubcM<qidabUbb6dbuductu4eau5l4yabubcM4qidabUbb6dbuducwu4fau5l4CabubdSWRqidabUbb6dbuducwu4gau5l4GabubcM4qidab*bb6dbuducwu4hau5l4LabdBcu64Kau4Niuaixb4iava,N5l4PabqicabTbb6ducvu4kau5l4TabdBcu64Sau4Viuaixb4lava,V5l4XacouKau6+bGadouK6alwuLau6+bOaeouQ6alwuLau6+bWafou46alwuLau6+b4agou56alwuLau6+b<aiouK6alwuLau6+cbahubcM<ubbudCcwu6alyuLau6+cnajouK6alwuLau6+cvalouW6alwuL4bau5i"
def JP:av 0 8 wv:=aw
def JQ:ar:=ax "7bbcalaL5dl4gaagfyg,+p85ehl4daO5iadlaK5fagdl4jadaagjnik5elahadfbdl4paaadheopcbqbrQsyt,+oOau6Saaadhevuccubuguyu,+oT6alBOuau6:aaadhevucdubuguyu,+p96alBOu5eul4daO5ial4faK5fcgdl4OaeaaadhevuccubugunAu5euahcdfdl4YaaadhevuccubuaehbvubuQuyu,+oO5eul4daO5iab4WaejuM4fau5b4nadjmM4ean5l4daL5i"
def JR:av 0 9 JQ:=aw
def JS:ar:=ax "KbccadalaPaP5l4idDaqnam2i4fahaj5dlaK5fagdl4lagaaglnkman6Fagnp,+oS6aloqL5erahadfbl4vaeaaaghevueeuducyu5bafaaaghevueeudvcyu5b4tagjsM4hat5dl4Haedwbu5eul4daPaP5ial4Jaeaf4dava,J5i"
def JT:av 0 10 JS:=aw
def JU:ar:=ax "=ddgahaial4haNaLaK5l4raakqcbrbsabdLctu4qau4xipaipb4kp+bsd4af+bfj,wa,x5dl4zakrcu5eul4haNaLaW5ial4Be+bfjdNbudObu4mpAb4afcl,C5dk4EcalbucblbuacachbyK4afbuwhbxK4afbuw5kaaabaacaadaaeaafaagaahabdiaajaadk4NaakucaubuccjeLueclqucacufbMe+bfjdNbudMeAywu4Mau4YiuaiGbiHc4npNj4afcm,Xa,Ya,Z5taaabaacaadaaeaafaagaahaaiaajbpddfgkbpalaamaanaaoaapaaqaaraasaadl41aosuKau6+bNcambuguouK6alyOu5eulao4haNaLa,85ial4:cambuhbuKbu4hauaOaK5i"
def JV:av 0 12 JU:=aw
def JW:ar:=ax "Ccbeal4faK5dlaK5fagdlafaakhcaibjgkngl5emahadfbl4qaakpcaqbrafhbstbukucaubuabovu5eulaf4fau5iab4oafjnM4gao5l4faX5i"
def JX:av 0 13 JW:=aw
def JY:ar:=ax "Acbeal4faL5dl4haaggabgishj5ekl4faL5iadlaK5fagdl4mafaagmnln5eoahadfbdc4saaafhbrsbtabafhbvubusyu5eul4faL5iab4qafjpM4gaq5l4faO5i"
def JZ:av 0 14 JY:=aw
def K0:ar:=ax "rcbealm<baK5dl4heeddUbgrch5eil4faM5ial4kqrebb,+p:cb,+p;db,+p<eb,+p=4gp+bJr4afffj5dc4lcadbkzbfflbmaaeedLncop4faq5i"
def K1:av 0 20 K0:=aw
def K2:ar:=ax "+edcbealm<baK5dl4teeddZbsrct5eul4faM5ial4waacbdbudncwu4gau5dl4AcadbuouV5eudlafCuK5eul4faR5iadl4Faakucaubuguyu75eul4fa:5ial4haN5laL5dk4LcbdbuubaccdbuwbqwuqqcabybbumYu4jau5jaaabaadaaeaacaafabbgaahaaiaadlaK5fagdl4Tajaakucaubugunzu5euahadfbddc42ahrcuau6+bQaikucaubuaakucaubuajhbvubukucaubunEu6alJuL5eulagaiubbuwbiwu4hau5baO5ab4+bgagaakucaubuajhbvubuubbuwbiCu4hau5b40ajjuM4kau5dl4+bqahrcu5eubagaiubbuwbiwu4hau5al4+bwaaagkvcau4afbuw5l4faK5iadl4+bAafnuK5eul4faW5iadl4+bCcadbuouT5eul4laN5dlaK5fcgdl4+bFalaakucaubugunzu5euahcdfdl4+bOalafsvu5eubakaakucaubualhbvubuubbuwbiCu4lau5ab4+bMaljuM4mau5l4+b1aaakkvcau4afbuw5l4faK5ial4+b5aakucaubuafhbvubu4nau5ddc4+b<cddbuguamkucbubugujuMsAu5eul4fa45ial4oaN5laL5dlaK5fegdl4+cdapamkuccubugunzu5euahedffddc4+cmamkuccubuaphbvubuhbuKbucddbuhbuKbuoyu5eudlcadbuouU5eul4faQ5iadc4+cDamkuccubuaphbvubucddbudocwu5eul4paO5hfaab4+cNanamkuccubuaphbvubuubbuwbyCu4oau5b4+ckapjuM4qau5dc4+cXamkucaubuamkucbubuqqcabybbumYu4rau5dl4+c7cadbuou*5eudlaorcu5eul4fa55ial4+c<aqankvccu4afbuw5dc4+c+aqamkucdubucddbud0cwu4+c*au4+dgiuaiDbkDcdu4afbux5c4+dlaqamkuceubucddbud1cwu4+dkau4+dtiuaiDbkDceu4afbux5laqqvaanubacddbuwbiwuubbuwbyzudScBukDccu4afbuw5dc4+dKaqamkucdubucddbud2dwuK4+dJau4+dSiuaiDbkDcdu4afbux5c4+dXaqamkuceubucddbud3cwu4+dWau4+d5iuaiDbkDceu4afbux5lBbaaakucaubuxbiyu4sau5l4+d?arafaqhbwv4afbuv5laaarkvcau4afbuw5l4faK5i"
def K3:av 0 21 K2:=aw
def K4:ar:=ax "obbcalaL5l4iaadAbhd4bi4haj4ligaigbigc4eakalam5l4oaf4dan5i"
def K5:av 0 22 K4:=aw
def K6:ar:=ax "Bcbeal4faL5dl4haaggabgishj5ekl4faL5iadlaK5fagdl4mafaagmnln5eoahadfbdc4saaafh+bfrse+bftabafh+bfvue+bfud5cyurcu5eul4faL5iab4qafjpM4gaq5l4faO5i"
def K7:av 1 23 K6:=aw
def K8:ar:=ax "vbbcalaN5l4jaakicbjbkd6bl4iam4oihaihb4eanao5l4radd7bq4qar4tipaipb4gasat5l4vaf4dau5i"
def K9:av 0 24 K8:=aw
def Ka:ar:=ax "TbbcalaN5laN5dlaK5fagdl4haeaakhcaibjgkngl5emahadfbl4qaakpcaqbraehbstbu4gau5k4xadafkucaubuafkucbubuafkucdubud8buafkuceubud9buqdeabIbbEcLzNLuu+bfbuw+bf+d?,wu4eau5xaaabaacaadaaeaafaagaahaaiaajaakaalaamaaoaapaaqaaraanadeirsaceitaauaavaawaab4oaejnM4fao5l4Tad4dau5i"
def Kb:av 0 25 Ka:=aw
def Kc:ar:=ax "hbbcalaP5laakdcaebf4dag5i"
def Kd:av 0 26 Kc:=aw
def Ke:ar:=ax "Ecceafal4faNaK5l4kaakjcbkblabdLcmn4jao4qiiaiib4hp+bsd4af+bfgpaq5dl4sahrcr5esl4faNaW5iadk4uaaktcaubuccgeLue+bfgdNbud:dywuiuaivb4fava,D5naaabaacaadaaeaafaagaahacdfiaajaakaalaamaai"
def Kf:av 0 27 Ke:=aw
def Kg:ar:=ax "Bcbeal4faL5dl4haaggabgishj5ekl4faL5iadlaK5fagdl4mafaagmnln5eoahadfbdc4saaafhbrsbtabafhbvubudocyurcu5eul4faL5iab4qafjpM4gaq5l4faO5i"
def Kh:av 0 28 Kg:=aw
def Ki:ar:=ax "eabaal4baP5ld;aqpbabbm+bxc4bad5i"
def Kj:av 0 29 Ki:=aw
def Kk:ar:=ax "gbbccGlp+bge5laadGbdd<be4afGcf5i"
def Kl:av 0 30 Kk:=aw
def Km:ar:=ax "obbcalaN5l4haakgcbhbid6bj4gak4mifaifb4ealam5l4oad4dan5i"
def Kn:av 0 32 Km:=aw
def Ko:ar:=ax "Fcceafal4faPaK5l4labd6bk4kal4nijaijb4haman5dl4pahsoKap6IaaOarP6alqOs5etl4faPaM5ial4wagd7bu4vau4yiuaixb4jav4ia,y5dl4AahsuK5eul4faPaM5ial4Caaaiqpcabvbbum+bxu4fauaK5i"
def wx:av 0 36 Ko:=aw
def Kp:ar:=ax "vccec+bffal4fp+bsdaL5dl4jaagiaK5faglnkj5delahadfblh+bfike+bfm4ip+bsd4af+bfhn5l4pcahboabopq5erle+bfh4af+bfes4gaO5iab4ujkM4lat5l4vqda4af+bfeu4gaL5i"
def Kq:av 0 37 Kp:=aw
def Kr:ar:=ax "+bQediccjakalm+bqbmEc4jpNjaKaK5dl4uehgadd*cturcu5eulqja4afciu4kaKaM5ial4zaaehgadqwdabwbhvibum+b4u4mau5dl4EaleLfd+a+cvu5fagdlalkucnubuguyuK5euahafblalkucnubud+a,cu,+p>5lalkucnubuhPuKcaueLu4np+bqa4afLm,X5l4ZalalkucnubutPubMaakzcnu4afbuw5dlaleLmd+bbcvu5euhbal4;aaeLmadd+bcdwvu4:au4?iuaizb4op+b+c4afdn,>a,?5dl4+a+aosuK5eulqja4afciu4kaKaZ5ial4+bbalkuclubujuMkyclu4afbuw5dlcbnbuguaK5fcglnuv5deuahcdfdlhcxvecu4rp+ccg4afcq,+bn5b4+bpalecqd+bdcvu5bjAM4+blau5l4+btccnbuguaK5feglnuv5deuahedfflhLxveLu4tp+bqa4afLs,+by5b4+bAaleLsd+a+cvu5bjAM4+bwau5dk4+bEalkucjubualkuckubuqjcabybbualkuclubu4afciy4kauaK5qaaabaacaadaaeaafaagaahaaiaajaakaalaamaanabmoaapaai"
def Ks:av 6 38 Kr:=aw
def Kt:ar:=ax "hbbcal4cm+bsaaK5lcbbbdgejfM4dag5i"
def Ku:av 0 39 Kt:=aw
def Kv:ar:=ax "rbbccclpAb5dlaandMae6maaygQ6alfOh5eilqba4afccj5ialubb,+p?aad+becklubb,+p*aad+becnoqbcabmbbp4afccq5i"
def Kw:av 0 40 Kv:=aw
def Kx:ar:=ax "Qcbeal4dmAa4faL5dl4habngMah6sabyjQ6aliOkal6Acacbngoabspq6almOras6Ocbcbuguabsvu6altOu5eul4faL5iadlaK5fagdl4Bafabnvu5euahadfbdc4Gcacbuafhbvubucbcbuafhbvubuyzu5eul4faL5iab4EafjuM4gau5l4faO5i"
def Ky:av 0 41 Kx:=aw
def Kz:ar:=ax "+bgcbeal4dmCa4faL5dlabnfMag6qabyiQ6alhOj5ekl4faL5iadl4mcacblom05enlcbcboopKaq6LcccbsgtouK6alruL4fau5iadl4ycacbuouVau62cacbuouT6alxOu5eulcbcbuyuKau6+a,cbcbuouKau6+bicacbuouT6+a,lxuL6alCOuau6+bucbcbuabAuMIwu6alzuLau6+bIcccbuguouK6alyuL4fau5ial46cacbuouUau6+b0cbcbuouK6alxuLau6+b:abyuM6alwuLau6+b,cccbuguabAuMowu6alAuL4fau5i"
def KA:av 0 42 Kz:=aw
def KB:ar:=ax "+blcbeal4dmCa4faN5laN5dlaK5fagdl4lagabglnkm5enahadfbdc4redcabaghbrsbtgudQcqurcuau6YabaghbvubuguabhbuKbugusyu6alEOu5eul4faN5iab4pagjoM4hap5dlaK5fcgdl4Lahabgunwu5euahcdfdl4jaN5laK5dfegddc4Rajafgunwuau6+byedcabahhbvubuafajhbvubud+bfdCyurcu6alFuL5euahefflaiafajhbvubuubbuwbyzu4jau5b4?ajjuM4kau5l4+a+aiabahhbvubuubbuwbyzu4jau5l4+bfaiafajFbvbuawbyxu4jau5b4+bkai4gau5b4PahjuM4iau5l4+blaf4fau5i"
def KC:av 0 44 KB:=aw
def KD:ar:=ax "ibbcalaN5dlaaRad5eel4daN5ial4gB+bfaaax+bf+d?fg4dah5i"
def KE:av 6 45 KD:=aw
def KF:ar:=ax "Zbbcal4cm<aaL5dlcbbbdd+bgbercf5egl4daL5iadl4icabbh5fal4loiV4kak5ejl4mccbbld+bhbman6FcdbbpgqorK6alosL4dat5il4woiT4vau5eul4xccbbuguouKau63cdbbuguouK6alyuL4dau5idl4IoiU4Hau5euab4Joi*4Hau5eul4KccbbuguouKau6+bkcdbbuguCuS6alyuLau6+bwcdbbuguIuQ6alyuL4dau5ial4daL5i"
def KG:av 0 46 KF:=aw
def KH:ar:=ax "Ccbealm<baK5dk4jaakicbjbkcbdbmccdbod+bjbpqdcabnbbqd+biclr4ias4uihaihb4gata,u5qaaabaacaadaaeaafaagaahaaiacdfjaakaalaamaanaaoaapaadl4wagouK5eubaaafkvcbu4afbuw5alag4fau5i"
def KI:av 0 47 KH:=aw
def KJ:ar:=ax "ycbealm<baK5dc4jaakicbjbkcbdbmd+bkcln4iao4qihaihb4gapaq5dl4sagorK5esbaaafktcbu4afbuw5alag4fau5i"
def KK:av 0 48 KJ:=aw
def KL:ar:=ax "Pcbealm<baK5l4laaeedd+blckl4kam4oijaijb4gp+bsd4af+bffnao5dl4qagspK5eqlag4far5iadc4uaacbdbucddbuhbuKbudmdtyu4tau4Cisaisbisc4iawa,C4ha,D5dfal4GagsuK4Fau5eul4Iag4fau5il4Kai4Jau5eul4faQ5ial4Laae+bffcddbud+bmfxwu,+p+,+p,4fau5i"
def KM:av 0 49 KL:=aw
def KN:ar:=ax "vcbealm<baK5l4jaaeedd+blcij4iak4mihaihb4gp+bsd4af+bfflam5dl4oagsnK5eolag4fap5ial4raae+bffcddbsd+bmfqrt,+qa,+qb4fau5i"
def KO:av 0 50 KN:=aw
def KP:ar:=ax "+bGbbcal4cm<aaL5dl4gcbbbfd+brbgrch5eil4daL5iadl4kcabbjokV5eldl4eaK5fagdl4nadccbbngonmp5eqahadfbdl4uccbbtadhbvubud+brburcuau62ccbbuadhbvubuou,+oU6alAOu5eul4daL5ial4faK5fcgdl4Jaeadnvu5euahcdfddc4Occbbuaehbvubuccbbuadhbvubuozu5eul4daL5iab4MaejuM4fau5b4sadjrM4eas5l4ZccbbuguyuKau6+bOccbbugunuQ6alyuLau6+b0cdbbuguouK6alyuL4dau5iadl4?cabbuouT5eulccbbugucdbbugujxuouK4dau5ial4+bhcabbuouUau6+cucabbuou*6alxOuau6+cFccbbuguouK6alyuLau6+cRcdbbuguyuM6alyuLau6+c3cdbbugunu56alyuL4dau5i"
def KQ:av 1 51 KP:=aw
def KR:ar:=ax "Dcceafal4faPaL5l4kaaabd+bsdjkK4jal4niiaiib4haman5dl4pahao6Hagd+btbqgrESsagd+bubuntu6alpuL5eubagd+btbud+bvcuK4hau5al4Cagah4fava,C5i"
def KS:av 0 52 KR:=aw
def KT:ar:=ax "Pcceafal4faPaL5dl4iaad+bxbhabd+bwcijrck5ellaa4famaL5ial4oaaabd+bycno4hap5dl4ragkqcbrbsgtouM5eulagkucbubuhbuKbu4fauaO5iaddc4DagkucbubuguagkucaubugujzuouK5eul4faPaO5ial4Pag4fauaO5i"
def KU:av 0 53 KT:=aw
def KV:ar:=ax "+bvdcgahal4haPaL5dl4laaOakP5ellabqocabmbbOm+cyn4haoaO5iadc4qaakpcaqbraaktcbubuaakuccubuaakucdubuqoeabsbbCcbydbum+cyu4jau5dl4Iaakucaubuabdocvu5eulaikucbu4afbuO5dkaiacd+bzcvuaakucbuburcu4haza,X5kaaabaadaaeaafaagaahaacabgiaajaaial4kaL5ddc4ZabaakucaubuacabguKwud+bAdCyu5eub4:aiaakuccubuabacjuMd2dxwu49au4+baiuaiEbkEccu4afbux4kaw5b4+bfaiaakucdubuabacjuMd2dxwu4+beau4+boiuaiEbkEcdu4afbux4kaw5l4+bsaiacd+bzcvuaj4hava,+bu5i"
def Be:av 0 54 KV:=aw
def KW:ar:=ax "vcceafal4faPaL5dlaaOagP5ehlabubbiqbbabjm+cwk4falaO5iadl4naad+bxbmabd+bwcno5eplaa4faqaL5ial4saaabd+bCcrsd+bBbt4fauaO5i"
def Bf:av 0 55 KW:=aw
def KX:ar:=ax "tbdcadaealaNaNaL5dkaakfcbgbhd+bDbiaakkcclbmd+bDbnaakpcdqbr4dajaoas5raaabaacaadaafaagaahaaiaakaalaamaanaaeacinjabnoaapaaqaai"
def KY:av 0 56 KX:=aw
def KZ:ar:=ax "2cbeal4dm+bsam+bsbaL5dl4hcacbgcadbishjak6ycbcbmgncbdbpgqsor6allOsat6QccceLuccdeLud+bEcwurcu6alAOuau66cNceLucNdeLud+bEcwurcu6alAOu5eul4faL5iadlaK5fagdl4Lafcbcbugunxu5euahadfbdc4Scbcbuafhbvubucbdbuafhbvubuszu5eul4faL5iab4QafjuM4gau5l4faO5i"
def L0:av 1 57 KZ:=aw
def L1:ar:=ax "9bccadalaNaK5dl4kaad+bFbjrck5ell4daNaM5ial4nqjam+cKm4fan5l4paeaagpveqd+bGcor5dlaagtaK5faglnuv5deuahadfblh+bftve+bfu4hp+bsd4af+bfg,y5l4Aaecagbu0ud+bHcxu5laecbgbuguveud+bGcyu5dlcbgbuguaK5fcglnuv5deuahcdfdlhbxvbu4jau5b4Saeai0ud+bHcwu5bjBM4Oau5l4XaeccgeLud+bIcwu5baecNgeLud+bIcwu5bj,vM4wau5l46aed+bJbuaed+bKbu4dawa,85i"
def L2:av 0 58 L1:=aw
def L3:ar:=ax "NbccadalaNaK5l4jaad+bLbi4faj5laN5dl4laed+bMbkvdlPadm5aK5faglnon5depahadfbbafaed+bNbru+bfbsw+bf+d?qt4gau5b4wjoM4pau5dl4xaed+bObusuK5eul4daNaZ5iadl4Bafd6bu4Aau4Diuaixb4hava,D5l4FahsuKau6>agaad+bPcvurcu6alyOu5eul4daNaZ5ial4Naf4dauaK5i"
def L4:av 0 59 L3:=aw
def L5:ar:=ax "pbbccLlp+bqa5dl4gaaOafP5eglqaa4afLch5ial4kaad+bRbjd+bQbk4jal4niiaiib4ep+bqa4afLdman5l4peLd4afLco5i"
def Bg:av 0 60 L5:=aw
def L6:ar:=ax "pbbccLlp+bqa5dl4gaaOafP5eglqaa4afLch5ial4kaad+bSbjd+bQbk4jal4niiaiib4ep+bqa4afLdman5l4peLd4afLco5i"
def Bh:av 0 61 L6:=aw
def L7:ar:=ax "Bdcgahalm+bqb4haNaK5dl4lacd+bTckNrcl5eml4haNaM5ial4paaacqkcabobbpeLed+bUcqr4oas4uinainb4jata,u5dl4wajsuK5eulaj4haNa,x5ial4zaid+bVcu,+qc5lai4hauaK5i"
def L8:av 6 62 L7:=aw
def L9:ar:=ax "eabaal4baP5l3bqxbabbm+cFc4bad5i"
def La:av 0 63 L9:=aw
def Lb:ar:=ax "gbbccGlp+bge5laad+bZbdd+bYbe4afGcf5i"
def Lc:av 0 64 Lb:=aw
def Ld:ar:=ax "6cbeal4dmEa4faL5dfal4habngMah6sabyjQ6aliOkal6Acacecnabd+b4coprcq6almOr4gas5efl4faL5il4vcgcbu4uau5etl4xcfcbuouKau61ccccaubuou06alyuLau6=ccccbubuouK6alyuLau6+bgcccccubuguouK6alzuL4fau5ial4Tccceduabd+b5cvuau6+bCcfcbuCuX6alxuLau6+bMcfcbuIu,+qd6alxuL4fau5i"
def Le:av 6 68 Ld:=aw
def Lf:ar:=ax "+bCcalm+bqb5ddc4iaakhcbicgjbkal6BcIdbnyoK6almpLaq6LaakscbtcauecucGdecud+b6cwu6alruL5eucaakuckubucIdbujwukAcku4afbuw5addcaakucbuehueLdd+b7cvurcu5euialaakucmubujuMkycmu4afbuw5dceLdaakucmubuqscaLyObu4fp+b;s4afPe,35ddk46aakucbucauecucGdecud+b8cwu45au4>iuaiDb4gpAb4afcf,=a,>5oaaabaacaadaaeaafaagaahblaiaajaakaalaamaanaal4*agau6+b*aakucbucguburcu6alAuL5euc4+bhaakucbuccueduecfd+b9cvu4+bgau4+boiuaiCbiDccLe4afcuxcNe4afbux5acaaaakucnubuePeBPbuxP+ckwukBcnu4afbuw5"
def Lg:av 6 69 Lf:=aw
def Lh:ar:=ax "Fcbeal4dm+b;am+b;baK5dl4hcLcecgcLdecid+b;chj4gak5fal4nafsmK4man5ell4paf4fao5il4rcNcbqcNdbssrt4qau5epdl4wcNcbucNdbunwu5eul4faX5ial4faM5ial4BcOcbucOdbuAwu4fau5i"
def Li:av 6 71 Lh:=aw
def Lj:ar:=ax ":cbealm+bqbaL5dc4haakgcbhcgibjrckal6BaakncbocfpbqCrK6almsLat6Raakucjubuguaakucbucfubuozu6alFuL4gau5dc4Iafau6+baaakucbucfubuouKau6+bnaakucbuehueLdaakucjubuaakucjubuguAuMhbAubud+b<dHGu6+bal,POu6al,IuL4fau5i"
def Lk:av 6 72 Lj:=aw
def Ll:ar:=ax "Wdcgcdhalm+bqb4hp+b+caK5l4paacaeeGpd+b=coq4oar4tinainb4jasat5dl4vajsuK5eulqca4afdgu4iaZ5ial4zaiacd+b>cvu4yau4Ciuaiyb4lp+b+c4afdk,B4ka,C5dl4EajsuK5eulqca4afdgu4iaZ5iadl4Iedkacd+b?cvu4Hau4Liuaiyb4mp+bqa4afLl,Ka,L5l4NamsuKau6+bleLleLed+b*cvurcu6alyOu5eulqca4afdgu4iaZ5ial4Wedk4afdgu4iaK5i"
def Lm:av 0 73 Ll:=aw
def Ln:ar:=ax "0calm+ccb5ddccbdbercfag6qaakicbjcakeclcadbnd+b+cmorcp6alhOq5eriadlaakscbtcgubu5eulaakuckubujuMkycku4afbuw5iakaaaakucbuccueduaakucjubucadbuBbbuxbyxud+cacCuaakucbuehud+b,cyuk,Ecju4afbuw5xaaabaacaadaaeaafaagaahaaiaajaakaalaapaaqaaraasaamaanacfsoabstaauaavaawaa"
def Lo:av 6 74 Ln:=aw
def Lp:ar:=ax "Wcbeal4faN5dl4kabnjK5ekbVj,+oP4aWl5al4oaagnvhoabvhqd+cbcpr4nas4uimaimb4gata,u5dl4wafyu1au6Wagyu,+qe6alwOu5eubVj,+qf4aWu5alagvdu2bituu4iau5l4GahaaHbvu4jau5dfagdl4Jaiahgunwu5euahafbcaiahaitbvbuaaahaitbvabuaHbxujBu4jau5l4Wah4fau5i"
def Lq:av 6 75 Lp:=aw
def Lr:ar:=ax "Xdbgal4emCa4haL5l4neddabd+cccmn4mao4qilailb4ip+b9f4afchpaq5l4teddacd+cccst4sau4wirairb4kp+b9f4afcj,va,w5dl4yaircuau60akrcu6alwOuau68abguacguswu6alzOu5eul4haL5iadl4Lechecj3e5eulechecjd+cdcvu4hau5iadc4RabhbuKbuachbuKbunxu4hau5i"
def Ls:av 0 76 Lr:=aw
def Lt:ar:=ax "SbbcalaL5dl4haa3f5fagl3giia5dejahafbliibiic4eakal5l4naeCm,+qgan6FaeIp,+qh6aloqL4gar5l4tafrcsat6RadouKau6Waenu,+qiau62aeyu,+qj6WlwOuau6;aesu,+qk6WlwuL6RlEOu6alIuL5eul4daL5ial4LaaQuCuMau6+bkaaQuIu26alxuL4dau5i"
def Lu:av 0 77 Lt:=aw
def Lv:ar:=ax "JbbcalaL5dl4gaagfaK5faglnhg5deiahadfblahhbfhbk4eajal5l4naed+bgbmrcnao6Gaeoq,+oU6alpOras6OaaadFbvabuaed+cecvu6altOu5eul4daL5iab4BjhM4iau5l4CaaguCuMau6;aaguIu76alxuL4dau5i"
def Lw:av 0 78 Lv:=aw
def Lx:ar:=ax "Jcceafalm+bsbaNaK5dl4jaad+bFbircjak6ye+bfdd+cfbmrcn6allOo5epl4faNaM5ial4saacadbsd+cgcrt4rau4wiqaiqb4hava,w5dfal4zah4yau5eul4faNaR5il4BaaguCuQ4Aau5eul4faNa:5iadk4EaadTbuage+bfdB+bfbud+chdxwu4fauaK5iaaacaadaabbebdeaafaagaahaai"
def Ly:av 6 79 Lx:=aw
def Lz:ar:=ax "ibbcalaN5dlaaRad5eel4daN5ial4gubaaawbqfg4dah5i"
def LA:av 0 80 Lz:=aw
def LB:ar:=ax "zcceafal4faNaK5dl4jaad+bFbircj5ekl4faNaM5ial4naaabd+cgcmn4mao4qilailb4hapaq5dl4sahrcr5esl4faNaW5ial4uaadTbtagagjuMd+cidxwu4fauaK5i"
def LC:av 0 81 LB:=aw
def LD:ar:=ax "Fccec+bffalm<bp+bsdaK5dk4kaakjcbkblcbdbndLcmo4jap4riiaiib4hp+bsd4af+bfgqar5naaabaacaadaaeaafaagbkahaaiaajaakaalaamaadfal4uahrct4tau5esl4we+bfg4af+bfeu4gaW5idk4ycddbugue+bfgdNbuswu4xau5haaabaacaadaaeabbfaagaaeul4Ee+bfg4af+bfeu4ga45ial4Fe+bfg4af+bfeu4gaK5i"
def LF:av 0 82 LD:=aw
def LG:ar:=ax "+a,fbkalm+bsb4laK5l4re+bfgdNbq4mar5dk4uadaakucaubuccgeLuacalLteywvu4tau4Eisaisb4np+bqa4afLm,Da,E5qaaabaacaadaaeaafaagaahaaiaajbnakaalaamaanaaoaapaadl4GansuK5eulan4lau5iadk4KaeaakucaubucNgeLuacalLCeywvu4Jau4UiuaiFb4pp+bqa4afLo,T4oa,U5qaaabaacaadaaeaafaagaahaaiaajbnakaalaamaanaaoaapaadl4WansuK5eulan4lau5iadk4ZeLmeLoccg4afLuwcNg4afLuw5gaaabaacaadabbeaafaadc44aakucbubue+bfgd+cjcvu43au4:iuaiBb4qav4oa,:5dl4<anouK5eubaaapkvcbu4afbuw5alan4lau5i"
def LH:av 0 83 LG:=aw
def LI:ar:=ax "yecicLjalm+bqb4jp+bqaaK5dladacubbld+bTckmrcn5eolqaa4afLip4kaM5ial4raaadqkcabqbbreLfacd+ckestuKiuaivb4afLiv4kau5i"
def LJ:av 0 84 LI:=aw
def LK:ar:=ax "UecicLjalm+bqb4jp+bqaaK5dl4oadacubbod+clcnprcq5erlqaa4afLis4kaM5ial4uaaadqkcabtbbu4lp+dok4afck,v5dl4xeLfd+cmbu5euleckacubbud+cncwuiuaivb4afLiv4kau5ial4GeckeLfacd+codwvu4Fau4Kiuaizb4mava,K5dl4MamsuK5eulqaaam4afLiv4kau5ial4Qeckald+cpcvuiuaivb4afLiv4kau5i"
def LL:av 0 85 LK:=aw
def LM:ar:=ax "TecicLjalm+bqb4jp+bqaaK5dl4nadacubbnd+bTcmorcp5eqlqaa4afLir4kaM5ial4taaadqkcabsbbt4lp+cZk4afck,u5l4xeckeLfacd+cqewvuK4wau4Biuaizb4afLfv4mau5dl4DalouKau6;cIfbuESucJfbunwu6alAuL5euleckeLfd+crdvuKiuaivb4afLiv4kau5ial4SeLfal4afLiv4kau5i"
def LN:av 0 86 LM:=aw
def LO:ar:=ax ">ecicLjalm+bqb4jp+bqaaK5dl4oadacubbod+clcnprcq5erlqaa4afLis4kaM5iadl4ueLfd+cmbt5eulqaa4afLiu4ka55ial4xaaadqkcabvbbu4lp+dok4afck,y5l4BeckeLfacd+csdwvu4Aau4Fiuaizb4mp+dvh4afdl,Ea,F5dfal4IamsuK4Hau5eul4Kqaaam4afLiv4kau5il4Ncalbuau6+bmcblbuguouK6alyuL4Mau5eul4Vqaa4afLiu4kaK5il4Xcalburcuau6+bIcclbuguouM6alyuL4Wau5eul46cclbuhLuKeLu4afLiu4kaK5ial4:eckedld+ctcvuiuaivb4afLiv4kau5i"
def LP:av 0 87 LO:=aw
def LQ:ar:=ax "YbbcalaL5dlaK5fagdl4iadaaQinhj5ekahadfbl4oaaad3h4fap5l4raeCq,+qlar6NaeIt,+qm6alsuL4gau5l4xaeCu,+qnau6ZaeIu,+qo6alwuL4hau5l4Dafrcuau6;adouKau6*agrcuau6+beaesu,+qp6*lwuL6;lAOu6alEuL5eul4daL5iab4madjlM4eam5l4RaaQuyuKau6+bwaaQunu,+qq6alxuL4dau5i"
def LR:av 1 88 LQ:=aw
def LS:ar:=ax "+bndcgahal4haPaL5dl4laaOakP5ell4haPaL5iadc4naakmcanboaakqcbrbsaakuccubuaakucdubuqoeabpbbtcbydbum+cyu4jau5dl4Faakucaubuabdocvu5eulaikucbu4afbuL5dcaiaakucbubu4haya,R5ial4kaL5ddc4TabaakucaubuacabguKwud+bAdCyu5eub44aiaakuccubuabacjuMd+bsdxwu43au4=iuaiEbkEccu4afbux4kaw5b4+a,aiaakucdubuabacjuMd+bsdxwu4+a+au4+biiuaiEbkEcdu4afbux4kaw5l4+bmaiaj4hava,+bm5i"
def Bi:av 0 89 LS:=aw
def LU:ar:=ax "DbbcalaN5dl4faaOaeP5efl4daN5iadk4haakgcchbid+btbjaaklcdmbnd+btbowbykp4eaq5maaabaacaadaafaagaahaaiaaeabijaakaalaadl4saakrcbsbt5eubadaakucaubuubbuwbyzu4eau5al4Dad4dau5i"
def Bj:av 0 90 LU:=aw
def LV:ar:=ax "rbbcalaK5dlaaOadP5eel4daK5iadk4gaakfccgbhd+bubijMjaaklcdmbnd+bubojkp4daq5naaabaacaadaagaahaaiaajaaeabjfaakaalaamaai"
def Bk:av 0 91 LV:=aw
def LW:ar:=ax "Ocbeal4faP5dl4iaaghoiK5ejl4faP5ial4laaabaahbmKbngoKlpd+cuckq4gar5l4tafgsMtS4hau5dk4wafaghbvubuafagFbvabuabjuMd+bvcwuafagjuMFbwbuaabjuMd+bvcwuqoeabHbbOcbBdbum+cyu4fau5uaaabaacaadaaeaafaagaahaaiaakaalaamaanaaoaapaajabdqabdraasaataai"
def wy:av 0 92 LW:=aw
def LX:ar:=ax "scbeal4faL5dlaK5fagdlafaaghngi5ejahadfbl4naaafhbmnboabdocpq5erl4faO5iab4lafjkM4gal5l4faL5i"
def LY:av 0 93 LX:=aw
def LZ:ar:=ax "HbbcalaN5dl4gaaOafP5egl4daN5ial4iubaaakicajbkwbyhl4eam5dlaK5fagdl4oaeaakocbpbqgrnns5etahadfbb4xadaakucbubuaehbvubud+bxbuwbyCu4eau5b4vaejuM4fau5l4Had4dau5i"
def wz:av 0 94 LZ:=aw
def M0:ar:=ax "+cxcbeal4faP5dl4paakocbpbqgrosK5etlqbam+cwu4gau5dlaK5fagdl4xagaakucaubugunzu5euahadfbl4Gaakucaubuaghbvubuabdocvurcu5eucafafkucaubuaakucaubuaghbvubuBbbuxbyCukHcau4afbuw5ab4EagjuM4hau5l46af4fau5ial47aaabd+cvcvu4iau5l4:Bbaaakucbubuxbiyu4jau5l4*aiahaakucbubuahhbvubuabd+bycvuhbED4afbuv5ddcaiahhbvubukucaubuguaiahhbvubukucbubugujCuyuM5eulaiqbbbbum+cwu4fau5ial4+bEahAuM4kau5dl4+bGahouK5eub4kaK5adc4+bIaiajhbvubuaiajjuMhbwubu4laza,+bP5laN5dl4+bRaakucbubuahhbvubukucbubuguouK5eukBbaakkucaubuxbyyualkucaubuxbyyud+cwbu4nau5nbaacaadaaeaagaahaaiaajaaaaafabjkaalaamaak4+b?Bbaakkucbubuxbiyualkucbubuxbiyud+cxbu4nau5nbaacaadaaeaagaahaaiaajaaaaafabjkaalaamaalaN5l4+cianaiajtbvabuaxbixu4oau5l4+cnanamxbivu4oau5l4+cqanaiajjuStbwbuaaxbiyuqbbbbum+cwu4fau5i"
def Bl:av 6 95 M0:=aw
def M1:ar:=ax "Dcbeal4faP5dk4haakgcchbid+bubjaaklcdmbnd+buboPbdkp4gaq5maaabaacaadaafaagaahaaiaaeabijaakaalaadl4safaad+bubsEStMuWjuMyru5eulaad+btbuabd+bvcvu4fau5ial4Daa4fau5i"
def M3:av 0 96 M1:=aw
def M4:ar:=ax "Ydbgal4haL5ddc4jaaachbijbkabachbmnboslp5eqdcaaachbrsbtabachbvubunyu4hau5iadlaK5fagdl4Bahaagunwu5euahadfbdc4Haaahhbvubuabahhbvubusyu5eudcaaahhbvubuabahhbvubunyu4hau5iab4FahjuM4iau5l4haL5i"
def M5:av 0 97 M4:=aw
def M6:ar:=ax "obbcalaP5dfagdlaagdyeM5efahafbbaad+cxbg4bah5dl4jaagiojK5ekl4daP5ial4maahblKbm4dan5i"
def M7:av 0 98 M6:=aw
def M8:ar:=ax "0cbeal4faN5dl4iaakhcbibjgkolK5emlaakncaobpabd+cycqrd+cwbs4fat5ial4vaaabd+cvcvu4gau5laN5l4yagaakucbubuafFbvabuwbiAu4hau5l4Gagaakucbubuafhbvubuabd+bCcvuwbiDu4hau5l4RagaakucbubuafjuMFbwbuawbiBud+cxbu4fau5i"
def Bm:av 0 99 M8:=aw
def M9:ar:=ax "ibbcalaN5dlaaRad5eel4daN5ial4gubaaawbbfg4dah5i"
def Ma:av 0 100 M9:=aw
def Mb:ar:=ax "Mcbeal4dm+bqam+bqbaL5lcaceGfcadeGh3iaj6xcIcblcIdbnomo6alkpLaq6LcJcbscJdbuotu6alruLau6ZcGcecucGdecud+czcwu6alzuLau6=cKcbucKdbudocwu6alzuL4fau5i"
def Mc:av 1 101 Mb:=aw
def Md:ar:=ax "IbbcalaL5dl4gaagfaK5faglnhg5deiahadfblahh+bffhe+bfk4fp+bsd4eaj4af+bfel5dc4ne+bfed+cfbmrcnao6GadyqKar6NaaadAuMh+bftucaubucaebuCwu6GlsuL6alpOu5eul4daL5iab4FjhM4iau5l4GaaguIuQ4dau5i"
def Me:av 0 102 Md:=aw
def Mf:ar:=ax "icab4faaabubbfd+cAdeOg5"
def Mg:av 0 103 Mf:=aw
def Mh:ar:=ax "rcadl4fabgeyf35eglaakhcbi4afbj:5ialaaabgld+cBckm5baaabd+cAdoOp5"
def Mi:av 0 104 Mh:=aw
def Mj:ar:=ax "Kcalm+bqb5l4haacadeGhd+cCcgi5laacIdbld+cBckm5laacJdbpd+cBcoq5lcGdcasbtcGdcbubucKdbuubdzwuguaK5faglnuv5deuahadfblhbxvbu4gau5b4Haaafd+cDcvu5bjAM4Dau5"
def Mk:av 0 105 Mj:=aw
def Ml:ar:=ax "nbbcalaN5dlaakdcbebfsgK5ehl4daN5ial4jaakicajbkd+cEbl4dam5i"
def Mm:av 0 106 Ml:=aw
def Mn:ar:=ax "hbbcalaK5laakdcbebf4dag5i"
def Mo:av 0 107 Mn:=aw
def Mp:ar:=ax "hbbcalaP5laad+cEbdqjbabem+dIf4dag5i"
def Mq:av 0 108 Mp:=aw
def Mr:ar:=ax "pbbcala05l4haad+cFcgM4gah4jifaifb4eaiaj5dl4laerck5ell4da05ial4nadhbmKbn4dao5i"
def Ms:av 0 109 Mr:=aw
def Mt:ar:=ax "Ebbcc+bflp+bsd5l4faad+cGce2Xfqdbabg4ep+bsd4af+bfdh5dl4jaad+bMbivdjPadkQaK5faglnml5denahadfbkcbdboaad+cGcq2Xrubbswbqptcbd4afbuv5jaaabaacaadabbeaafaagaahaaiaabjmM4nau5l4yaad+cHbuccd4afLuv5laad+cHbucNd4afLuv5le+bfd4af+bfcu5i"
def Mu:av 0 110 Mt:=aw
def Mv:ar:=ax "pbbcalaK5dlaakdcaebfggyhK5eibaad+cIcj,+qr5alaaklcbmbn4dao5i"
def Mw:av 0 111 Mv:=aw
def Mx:ar:=ax "Acbeal4faL5dl4haaggabgishj5ekl4faL5iadl4maaglaK5faglnnm5deoahadfblan4gap5dc4raaafhbqrbsabafhbvubustu5eul4faL5iab4AjnM4oau5l4faO5i"
def My:av 0 112 Mx:=aw
def Mz:ar:=ax "+bMbcccLdal4cm+b+ap+bqaaL5l4iedbd+cKbhd+cJbiqabaGj4fp+bqa4afLek5dlaK5fagdl4mafcbbbmgnnlo5epahadfbl4tcJebsjtMcJe4afbuv5lcbbbuafhcvucbubu5eulcIebujuMcIe4afbuv5ccGeecucbbbuafhcvucaubucbbbuafhcvucaubuqbcabAbbud+cLcHucGe4afcuv5ab4rafjqM4gar5dlaK5fcgdl4Yagccbbugunxu5euahcdfddc45cJebuccbbuaghLvucJubujAucJe4afbuv5dccIebuccbbuaghLvucIubujAucIe4afbuv5ccGeecuccbbuaghLvucGuecud+cLcAucGe4afcuv5b43agjuM4hau5dl4+bqcabbuouT5eubcbbbuhcuKcaubucKe4afbuv5adlcabbuouU5eubccbbuhLuKcKubucKe4afbuv5adlcJebuyu35eulqaa4afLcu4eaL5ial4+bMeLe4afLcu4eaO5i"
def MA:av 1 113 Mz:=aw
def MB:ar:=ax "zbbccdlp+b+c5dkaakdcaebfaakhcbibjqgcabgbbkucblaaknccobpd8bqaakscdtbud8buuLcruqcdabVbbmcbu4afdcu5xaaabaacaadaaeaafaagaahaaiaakaalaamaanaapaaqaaraasaaobjddhstbjcdhjbuauaavaawaai"
def MC:av 0 114 MB:=aw
def MD:ar:=ax "1bbccdlp+b+c5l4hqcbabT4ep+b+c4afddg5dlaK5fagdl4iaeaakicajbkglnhm5enahadfbc4rcbdbqaakscatbuaehbvubuqgcabubbOucbuwcGrucbd4afbuv5b4paejoM4fap5dlaK5fcgdl4Eafaakucbubugunzu5euahcdfdl4Ncad4afbuU5kccdbuaakucbubuafhbvubud9buuLbuwL+bXDuccd4afbuv5oaaabaacaadaaeaafaagaahaaiaajabbkaalaamaanaab4LafjuM4gau5l41edd4afdcu5i"
def Bn:av 0 115 MD:=aw
def ME:ar:=ax "rcbeal4dmda4faL5lbcCfMag6rbcIiQ6alhjLak6zabJ+cNabcd+cMcmnrco6allpL4faq5i"
def MF:av 0 116 ME:=aw
def MG:ar:=ax "2cceafal4dm+cZam+bqbaNaK5dl4pcIdboopK5eql4faNaK5ial4tecceLdd+cOcst4sau4wirairbirc4hp+ccg4afcg,va,wa,x5dl4zaisuK5eulai4faNa,A5ial4kaN5dl4Ccbgbu5eubajcagbuBbbuxbyxu4kau5adl4JahguaK5faglnuv5deuahadfblhLxveLu4mp+bqa4afLl,N5l4QecceLld+bUcvu4Pau4Tiuaiyb4nava,T5dl4VansuK5eulan4faNa,W5iab4Yajamxbyvu4kau5b41j,KM4Lau5l42aj4fauaK5i"
def MH:av 6 117 MG:=aw
def MI:ar:=ax "icbeal4faK5laaabd+bXcfg4fah5i"
def MJ:av 0 119 MI:=aw
def MK:ar:=ax "Kcbeal4faK5dl4kaagjaK5faglnlk5demahadfblalhbjlbo4ganap5dl4rafabgrCqs5etl4faM5ial4vabafhbvubu4iau5l4zagahd+cRcvu4jau5l4CaisuK5eulai4fau5iab4FjlM4mau5dl4Gaaguabgunwu5eul4faX5ial4faK5i"
def ML:av 0 120 MK:=aw
def MM:ar:=ax "kbbccGlp+bge5l4fd+cSa4eae5l4gadaad+cTcfg5ladd+cUbi4afGcj5i"
def MN:av 0 121 MM:=aw
def MO:ar:=ax "gbbcalaN5laaubbdd+cVc,+oVe4daf5i"
def MP:av 0 122 MO:=aw
def MQ:ar:=ax "gbbccGlp+bge5laad+cXad+cWcde4afGcf5i"
def MR:av 1 123 MQ:=aw
def MS:ar:=ax "pbbcalaN5laaMd,+qsKe+vefaaMh+Ki+vejaaKl+vemBbdgkn4dao5i"
def MT:av 1 125 MS:=aw
def MU:ar:=ax "xbbcalaN5l4gaagfvegBbbh4eai5dlaK5fagdl4kaeaagknjl5emahadfbb4qadaaaehbqrbsd+cZbtxbbpu4eau5b4oaejnM4fao5l4xad4dau5i"
def MV:av 1 126 MU:=aw
def MW:ar:=ax "Ccbeal4dmAa4faL5dlabnfMag6qabyiQ6alhOjak6ycacbmgnabsop6allOqar6Mcbcbtguabsvu6alsOu5eul4faL5ial4AabJ+c1abcd+c0cvu4fau5i"
def MX:av 0 127 MW:=aw
def MY:ar:=ax "+becbeal4dmCa4faL5dlabnfMag6qabyiQ6alhOj5ekl4faL5iadl4mcacbl5fal4pom04oao5enl4qcbcbpoqKar6NcccbtguouK6alsuL4fau5il4AomV4zau5eul4BcbcbuCuMau69cbcbuabnvu6alyuLau6+bccccbuguouK6alyuL4fau5il4RomT4Qau5eul4ScbcbuCuKau6+bycbcbuabnvu6alyuLau6+bKcccbuguouK6alyuL4fau5il48omU47au5eul49cbcbuouKau6+b6abCuS6alwuLau6+b>cccbuguabAuMowu6alAuL4fau5ial4faL5i"
def MZ:av 0 128 MY:=aw
def N0:ar:=ax "Bcbeal4dmEam+bqbaL5dlcIdbfogKah6scacecjcGdecld+c4ckmrcn6aliOo5epl4faL5iadl4rcgcbq5erlcacecscGdecud+b6cturcu4fau5ial4zcfcbusuK4fau5i"
def N1:av 6 130 N0:=aw
def N2:ar:=ax "1cceccfal4dmAamAbpAbaL5dl4jeccecdd+c4cijrck5ellqba4afcem4gaL5ial4oeccd+c5bn4hpAb4afcgo5dl4qcagbpgqaK5faglnsr5detahadfblas4iau5k4wcagbuahcbgbuahcacbuahhbvubucadbuahhbvubuPbdzucbcbuahhbvubucbdbuahhbvubuPadzuhb,w,x4afbuGhb,z,A4afbuw5GaaabaacaadaaeaafaagaahaaiaajaakaalaamaanaaoaapaaqaaraasaataauaavaawaaxaayaazaaAaaBaaCaaDabeEaaFaabjsM4tau5l41ecg4afceu4gaO5i"
def N3:av 0 131 N2:=aw
def N4:ar:=ax "9cdeccfagal4dmCamAbp+b9faKaK5dl4jecdcadbjgkd+b4cilrcman6Eedccadbqgrd+b5cpsrct6aloOu5eulqfa4afceu4gaKaM5ial4ycadbucbcbuhbwubud+c6bu4ip+b9f4afch,D5dl4Fcacbu5fal4IouT4Hau5eub4Jcbdbucbcbuhbwubud+c7bu4afchu5l4RoDU4Qau5euc4TcccbucadbuFbubMacbdbuFbubMaqbcabxbbud+c8cBu4Sau43iuaiFb4afchv5adkechcadbuhbuKbu4afcey4gauaK5iaaabaacaadaaeaafaccegaahaai"
def N5:av 0 132 N4:=aw
def N6:ar:=ax "Dcbeal4dm+b9am+b9baK5dfal4heccecd3j4gai5efl4faK5il4lcacbkcadbmnlnao6Gcacbqcadbsortau6Tcbcbucbdbunwu6GlzuL6alpOu4kau5ejl4faX5ial4faM5i"
def N7:av 0 134 N6:=aw
def N8:ar:=ax "zdbgal4emEam+bqb4haL5l4lcadeckcGeecmd+b8cln4kao4qijaijb4ipAb4afchpaq5l4saiar6Nccdedtechacd+c;dwvu6alsuL4hau5i"
def N9:av 6 135 N8:=aw
def Na:ar:=ax "vcceafalm+bgbaNaK5dc4kaakjcakbleGd3k4jao4qiiaiib4hapaq5dl4sahrcr5esl4faNa55ial4uagd+bDbt4fauaK5i"
def Nb:av 0 136 Na:=aw
def Nc:ar:=ax "+bdccecdfal4fp+b+caK5l4maad+bLbl4ham5l4oagd+bMbnqcbabo4ip+b+c4afdhp5dl4ragd+bMbqvdraK5faglnts5deuahadfblagd+c<bu4jau5k4ycbhbuagabd+c=cvuaiqgcabvbbuBcbuxcGAucbh4afbuv5laaabaacaadaafaaeabbgaahaaiaajaakaabjtM4uau5dl4Jagd+bMbuvduaK5fcglnuv5deuahcdfdkcchbuagabd+c>cvuBLbuxL+bXyucch4afbuv5jaaabaacaadaaeabbfaagaahaaiaabjDM4Mau5dl4Xagd+bObusuKau6+bHedhabd+c?cvurcu6alyOu5eulqca4afdeu4gaZ5iadl48edhabd+c*cvu47au4;iuaiyb4kava,;5l4=aksuKau6+b;ajaad+bPcvurcu6alyOu5eulqca4afdeu4gaZ5ial4+bdedh4afdeu4gaK5i"
def Nd:av 1 137 Nc:=aw
def Nf:ar:=ax "+bEccecLfal4dm+b+a4fp+bqaaK5l4pedcabd+c*cop4oaq4sinainb4haras5dl4uahstK5eulqaaah4afLev4gau5iadk4yagd+c+bucbcbuguqacaGxJbu4jp+bqa4afLi,C5iaaacaadaaeaabbgbdfaagaahaadl4EcbcbuguaK5faglnuv5deuahadfblhcxvecu4lp+ccg4afck,J5l4Lcbkbu5eulcIibujuMcIi4afbuv5kcGiecucakbud+dabud+c,cxucGi4afcuv5iaaabaacaadaaeabbfaagaahaaabj,GM4Hau5dl4ZcccbuguaK5fcglnuv5deuahcdfdlhLxveLu4np+bqa4afLm,45l46cIibucImbujwucIi4afbuv5lcJibucJmbujwucJi4afbuv5bcGiecucGmecud+c,cwucGi4afcuv5bj,1M42au5dl4+bgcJibuyu35eulqaa4afLeu4gaM5iadl4+bkcacbu5fel4+bnouT4+bmau5eub4+bocbcbuhcuKcaubud+dbbucKi4afbuv5l4+bwoDU4+bvau5eub4+bxcccbuhLuKcKubud+dbbucKi4afbuv5aleLi4afLeu4gaK5i"
def Ng:av 0 138 Nf:=aw
def Nh:ar:=ax "Mcbeal4dm+bqam+bqbaL5lcaceGfcadeGh3iaj6xcIcblcIdbnomo6alkpLaq6LcJcbscJdbuotu6alruLau6ZcGcecucGdecud+dccwu6alzuLau6=cKcbucKdbud+ddcwu6alzuL4fau5i"
def Ni:av 0 139 Nh:=aw
def Nj:ar:=ax "pcbeal4dmAamybaL5leccbdggd+b4cfhai6vbdgkJ+deaccdd+c0clm6aljnL4fao5i"
def Nk:av 0 140 Nj:=aw
def Nl:ar:=ax "ucbealmEbaN5dlcfdbfCgKah6taagjcfdblykm6alinL5eolaacfdbqtbpabra4fas5ial4uaa4fat5i"
def Nn:av 6 141 Nl:=aw
def No:ar:=ax "Mcbeal4dmCa4faN5laN5dl4jabgiaK5faglnkj5delahadfblhbikbm4ian5dl4pedcahgpd+b5coqrcras6OahguabhbuKbugusyu6altOu5eul4faN5iab4Dafahd+dbbuBbbuxbyxu4gau5b4IjkM4lau5l4JafJ+dgabcd+dfcvu5laf4fau5i"
def Np:av 6 142 No:=aw
def Nq:ar:=ax "Ecceafal4fa1a15deLl4maavglabvgnd+dicmo4lap4rikaikb4haqar5l4tagvhsahvhu4fata,v5ial4yaaabd+djcvu4xau4Biuaiyb4java,B5l4Daiaj4fava,D5i"
def Nr:av 0 143 Nq:=aw
def Ns:ar:=ax "Lcceccfal4dmCa4fp+b9faL5dl4iedcabgidQchjrck5ellqfa4afcem4gaL5iadl4ocacbnooU5epdcabFbqbMacccbsd+dkcrtiuaivb4afcev4gau5ial4yabcbcbuhbwubuvhuju;4hau5dl4FcacbuouT5eubagA,+qtu4hau5al4Kagqfbbbu4afceu4gaO5i"
def Nt:av 0 144 Ns:=aw
def Nu:ar:=ax "ucbeal4dm+b9am+b9baL5dlcacbfcadbhsgi5ejlcacbkcadbmnln4fao5ial4qcbcbpcbdbrnqs4fat5i"
def Nv:av 1 145 Nu:=aw
def Nw:ar:=ax "jcbeal4faL5laaabd+dlcfgChK4fai5i"
def Nx:av 0 146 Nw:=aw
def Ny:ar:=ax ";bbcal4cm+bsaaL5l4fe+bfbdNbe4eaf5dfal4icabbhcbbbjqidabVbbicbkdUblrcm4han5egl4daL5il4qccbeLpadd+dmcqrrcsat6QcNbeLuadd+dmcvurcu6alzOuau64ccbcIubucNbcIubusxu6alBOuau6+bdccbcKubuguyuK6alzOu4pau5eol4daL5ial4ScNbeLud+cmbuau6+bxcNbcKubuguadovuau6+bMcNbcJubucNbcIubuoxu6+bxlBuL6alJOu4dau5i"
def Nz:av 0 147 Ny:=aw
def NA:ar:=ax "lcceafal4faKaL5laaabd+dndgh,+quiiaiib4fajak5i"
def NB:av 0 148 NA:=aw
def NC:ar:=ax "+bydbgal4haN5l4laaabt+bfkblaa5lacgn4iao5dl4qahopK5eqlaa4har5ial4taags4jat5dl4vabaiovu5eulaaacx+bf+d?vu4hau5iadl4BaiahjvuaaUuywu5eulaaabt+bfvabuaaiahjvuabAvuY+bf+d?dzu4kau5l4Qajabt+bfvbuaaacH+bfvu5dcajabahjvut+bfxbuaaaaabt+bfvbuaaH+bfxu5laj4hau5ial45aaaiahjvut+bfxabua4bau5dl4:acaaabahjvut+bfxbuaaZzurcu5eudcaaabahjvut+bfxbuaaaaabt+bfvbuaaH+bfxu5laaabt+bfvbuaaacH+bfvu5laa4hau5ial4+boaaait+bfvbuaaacH+bfvu5laaabt+bfvbuaaahd+dqcvu5laa4hau5i"
def Bo:av 6 149 NC:=aw
def ND:ar:=ax "Hdbgal4haN5l4jaaabacaaglt+bfibjbkbm5dlabacoop5eqlaa4har5ial4taags4iat5dc4vaaabt+bfvabuaaaact+bfvbuaax+bf+d?xu4bau5l4Caaaaguaht+bfxbvbua4a1+bfdu5laa4hau5i"
def NF:av 6 150 ND:=aw
def NG:ar:=ax "Hcceafalm+bsbaNaK5dl4kaad+bFbjrckal6Ae+bfdd+cfbnrco6almOp5eql4faNaM5ial4taacadbtd+cgcsu4sau4xirairb4hava,x5dl4zahrcu5eul4faNaW5ial4BaadTbu4jau5l4Daiage+bfdh+bfwv4af+bfuv5lai4fauaK5i"
def NH:av 0 151 NG:=aw
def NI:ar:=ax "+bTecicLjal4fm+cZam+bqb4jp+bqaaK5dl4peLfd+cmbo5epleceacqgcabrbbOeLfeLfd+dreqstuiuaivb4afLiv4kau5ial4AeceeLfd+cOcvu4zau4Diuaiybizc4lp+ccg4afck,Ca,Da,E5dfal46amsuK45au5eul48qaaam4afLiv4kau5il4;cakbuacd+ddcvuau6+b<cbkbu6alwuL4:au5eul4+baqaa4afLiu4kaQ5il4+bccakbuacd+ddcvu4+bbau5eub4+bgcbk4afbuO5l4Geceaccakbuadd+dseyxvu4oau5dc4NalanecealanhLvueLuacadjuMd+ckeBxwu4Mau4YiuaiGbhLGF4afLuw4nav5l41amsuK5eulqaaam4afLiv4kau5iadc4+bieceeckalhLuKeLualhLuMeLud+dreBAxu4+bhau4+briuaiEb4afLfv4nau5ddc4+btamouKau6+cRalhLuKcJubualhLuMcJubuPbdyucJfbuESuMuWjuMyzu6alJuL5euleceeLfadd+crdwvuiuaivb4afLiv4kau5ial4+bSeLfam4afLiv4kau5i"
def NJ:av 0 152 NI:=aw
def NK:ar:=ax "rcbeal4dmda4faL5lbcCfMag6rbcIiQ6alhjLak6zabJ+dtabcd+cMcmnrco6allpL4faq5i"
def NL:av 0 153 NK:=aw
def NM:ar:=ax "gbbcal4cm+bqaaL5leLbqaad+b*cde4daf5i"
def NN:av 0 154 NM:=aw
def NO:ar:=ax "GccecLfal4dm+doa4fp+bqaaK5l4kqcbabT4hp+b+c4afdgj5dl4labgkaK5faglnml5denahadfblhbkmbo4jap5b4rcbgbqaiqgcabsbbOucbtwcGrucbg4afbuv5bjmM4nau5l4zcacbuedgcbcbud+dudxwuiuaivb4afLev4gau5i"
def NP:av 0 155 NO:=aw
def NQ:ar:=ax "+bddcgahal4em+doam+bqb4haNaK5l4qecdeLed+dvcpq4par4tioaiob4jp+b+c4afdisat5dl4vajsuK5eulaj4haNa,w5iadl4ycaibuouT5eul4Cedid+dxbuacd+dwdvu,+oW4Bau4Giuaizb4lava,G5dl4Ial5eul4haNaQ5iadk4Jedid+dxbuakacBbbud+dAdxwuecdJ+cnbuad+dzcwuiuaivb4hava,S5naaacaadaagaahaabbebgeaafabgiaajaakaalaamaaial4Uediacd+dBcvu4nau5dc4YecdccibuamhLvueLuacd+codAvu4Xau46iuaiDb4oav4ka,65dl48ajsuK5eulaj4haNa,95iadk4;ccibuamamjuMand+dDeyxvuecdJ+dEbuad+dCcwuiuaivb4hava,+bc5oaaabaacaadaaeaafaahaaiaagabhjaakaalaamaanaai"
def NR:av 1 156 NQ:=aw
def NS:ar:=ax "IccecLfal4dm+doa4fp+bqaaK5dfagdl4jabgiyjM5ekahafbdk4nababgnd+dHbod+dGcmpeccJ+dEbrad+dFcqs4mat4vilailb4hava,v5naaabaacaafaagaadabfeabfhaaiaajaakaalaamaadl4xahsuK5eulqaaah4afLev4gau5iab4Bag4cau5dl4CabguouK5eulqaa4afLeu4gaK5ial4GabhLuKeLu4afLeu4gaK5i"
def NT:av 0 157 NS:=aw
def NU:ar:=ax "+blecicLjal4fm+cZam+bqb4jp+bqaaK5dl4peLfd+cmbo5epleLf4afLiq4ka55ial4teceeLfd+cOcst4sau4wirairbirc4lp+ccg4afck,va,wa,x5dfal4ZamsuK4Yau5eul41qaaam4afLiv4kau5il44cakbuacd+ddcvuau6+bYcbkburcu6alxuL43au5eul4=qaa4afLiu4ka55il4?cakbuacd+ddcvu4>au5eub4+bacbk4afbuL5l4zeceaccakbuadd+dseyxvu4oau5dc4GalanecealanhLvueLuacadjuMd+cqeBxwu4Fau4RiuaiGbhLGF4afLuw4nav5l4UamsuK5eulqaaam4afLiv4kau5iadc4+bbeceeckalhLuKeLualhLuMeLud+dreBAxuiuaivb4afLiv4kau5i"
def NV:av 0 158 NU:=aw
def NW:ar:=ax "AdcgcLhal4em+cZam+bqb4hp+bqaaK5l4mecdeLed+bUclm4lan4pikaikb4jaoap5dl4rajsqK5erlqaaaj4afLgs4iat5ial4vecdaiacd+dIdwvuiuaivb4afLgv4iau5i"
def NX:av 0 159 NW:=aw
def NY:ar:=ax "+bgdcgcdhal4em+doam+bqb4hp+dvhaK5l4recdeLed+dvcqr4qas4uipaipb4jp+b+c4afdita,u5dl4wajsuK5eulqhaaj4afdgv4iau5ial4Aedid+dJbu4lp+dvh4afdk,A5dl4Ccakbu5eul4Fcbkbuacd+dwdvu,+oW4Eau4Jiuaizb4mava,J5dl4Lamrcu5eulqha4afdgu4ia55ial4OcbkbualaljuMd+dKdxwucbk4afbuv5ledk4afdgu4iaK5ial4Wediacd+dBcvu4oau5dk40ecdcckbuanhLvueLuacd+csdAvu4Zau48iuaiDb4pp+dvh4afdo,74ka,85oaaabaacaadaaeaafaagaahblaiaajaakaalaamaanaadl4:ajsuK5eulqhaaj4afdgv4iau5ial4?ecdcckbuanedod+dLeywvu4>au4+bciuaiBbcck4afbuw4kav5l4+bfedkaj4afdgv4iau5i"
def NZ:av 1 160 NY:=aw
def O0:ar:=ax "uccecLfal4dm+doam+dvbp+bqaaK5dlcadbg5ehlecccbdbjd+cncikilailb4afLem4gan5ial4peccccdbpd+dEcoqirairb4afLes4gat5i"
def O1:av 0 161 O0:=aw
def O2:ar:=ax "1cbeal4faN5laN5dlaK5fagdl4kagaagknjl5emahadfbl4iaN5laK5dfcgddc4qaiafgqnpras6Pafaihbvubuaaaghbvubuabd+bAdzvu6altuL5euahcfdlahafaihbvubuubbuwbyzu4iau5b4NaijuM4jau5l4Pahaaaghbvubuubbuwbyzu4iau5b4WahafaiFbvbuawbyxu4gau5b4oagjnM4hao5l41af4fau5i"
def O3:av 0 162 O2:=aw
def O4:ar:=ax "Dcbeal4faK5laK5dlaK5fagdlagaakicbjbkglnhm5enahadfbl4rabaakrcbsbtaghbvubud+dNbud+dMcqurcu5eubag4gau5ab4pagjoM4hap5l4Daf4fau5i"
def O5:av 0 163 O4:=aw
def O6:ar:=ax "NbbcalaN5laN5laK5l4iaaghd+dObi4gaj5dlaK5fagdl4lagafglnkm5enahadfbl4radubaaaaeaeafaghbvubujyuFbsbtbuwbyruqbbabum+cwuubbuwbiqu4eau5b4Haeafaghbvubujyu4fau5b4pagjoM4hap5l4Nad4dau5i"
def O7:av 0 164 O6:=aw
def O8:ar:=ax "NbbcalaN5laN5laK5l4iaaghd+dObi4gaj5dlaK5fagdl4lagafglnkm5enahadfbl4radubaaaaeaeafaghbvubujyuFbsbtbuwbiruqbbbbum+cwuubbuwbiqu4eau5b4Haeafaghbvubujyu4fau5b4pagjoM4hap5l4Nad4dau5i"
def O9:av 0 165 O8:=aw
def Oa:ar:=ax "Lcbeal4faN5laN5laK5dfagdlagaaginhjak6zaaaghbmnboabd+dMcpq6allrL5esahafblafaaaghbvubuubbuwbytu4gau5b4BagjuM4hau5l4Dafabubbuwbywu4gau5l4HafaaagFbvbuawbyxu4fau5i"
def Ob:av 0 166 Oa:=aw
def Oc:ar:=ax "rcbeal4dmAamAbaL5lcacbfcadbhdocgiaj6xcbcblcbdbndocmo6alkpL4faq5i"
def Od:av 0 167 Oc:=aw
def Oe:ar:=ax "udadl4habrcg5ehlaakicbj4afbk:5iabaaaakmcanboacwbbpqklcas4afbtr5"
def Of:av 0 168 Oe:=aw
def Og:ar:=ax "vcab4faaabCfKag6rabIi36alhjLabGl>vemabGo8vepabverubdnqsd+cAdekt5"
def Oh:av 0 169 Og:=aw
def Oi:ar:=ax "hcal3l5baa3md+cAdeOf5"
def Oj:av 0 170 Oi:=aw
def Ol:ar:=ax "Bcadl4habggyh,+qv5eilaakjcbk4afbl:5ialaaabgnveod+bGcmp5labgraK5faglnts5deuahadfblhbrtbu4gau5b4yaaafd+dPcvu5bjtM4uau5"
def Om:av 0 171 Ol:=aw
def On:ar:=ax "ibbcalaN5dlaaRad5eel4daN5ial4gubaaawbbfg4dah5i"
def Oo:av 0 172 On:=aw
def Oq:ar:=ax "Scceafal4faNaL5dl4iaakhcbibjokKal6Babaakocapbqgryns6almtL5eubaad+cIcu,+oT5adlaakucbubusuK5eul4faNaL5ial4DaakucaubuabFbvabu4hau5l4JaaaakucaubuabFbvbuakAcau4afbuw5lag4fauaO5i"
def Ot:av 0 173 Oq:=aw
def Ou:ar:=ax "rcbeal4faN5l4jaaaaabd+dQcjkd+cFcil4iam4oihaihb4ganao5l4qafd+cEbp4faq5i"
def Ov:av 0 174 Ou:=aw
def Ow:ar:=ax "GbbccLlp+bqa5l4haad+dRbgqabaGh4ep+bqa4afLdi5l4kaad+dQcj3cId4afblk5laad+dQcm3cJd4afbon5dlcGdcapcGdcbrcKdubdqstguaK5faglnuv5deuahadfblhbxvbu4gau5b4Bafaad+c=cuQkw4afbuv5bjBM4xau5l4GeLd4afLcu5i"
def Ox:av 0 175 Ow:=aw
def Oy:ar:=ax "ncal4faakecbfbgohK5eibaaabkjcbl4afbmk5a"
def Oz:av 0 176 Oy:=aw
def OA:ar:=ax "hbbccGlp+bge5laaBbbdd+cYc,+oXed+b0bf4afGcg5i"
def OB:av 1 177 OA:=aw
def OC:ar:=ax "+btbbcal4cm+b+aaN5l4icabbhcbbbjgkvelBbcim4ean5dlaK5fagdl4paecbbbpgqnor5esahadfbl4wadcbbbuaehcvucbubud+dSbuxbbBu4eau5b4Fadcbbbuaehcvucaubud+b3buxbbBu4eau5b4uaejtM4fau5l4OadccbbuguveuBbbuxbbzu4eau5dl4gaK5fcgdl4Vafccbbugunxu5euahcdfdl42ccbbuafhLvueLu4hp+bqa4afLg,55l47adcag3nxbbwu4eau5l4;adcIgbud+b2buxbbxu4eau5l4*adcJgbud+b2buxbbxu4eau5l4+bcadcGgcaubud+b3buxbbyu4eau5l4+biadcGgcbubud+b3buxbbyu4eau5b4+boadcKgbud+b3buxbbxu4eau5b40afjuM4gau5l4+btad4dau5i"
def OD:av 1 178 OC:=aw
def OE:ar:=ax "+bmcbeccl4dmAamAbpAb5dk4kecccacbkgldPcjmecdcadbpgqdPcor4ganas5maaabaacaadaafaagaahaaiaaeacfhjaakaalaadl4uafat6Ragrcu6alwuL5eulecc4afceu5iadlagau63afrcu6alwuL5eulecd4afceu5iadlafrcuau6*cacbugucadbugusxu6alBOu5eulqba4afceu5ial4ipAb5dlaK5fagdl4Saicacbugunxu5euahadfbdc4ZcahbucacbuaihbvubucadbuaihbvubuPadzuubbuwbiGucah4afbuv5ccbhbucbcbuaihbvubucbdbuaihbvubuPbdzuubbuwbiGucbh4afbuv5b4XaijuM4jau5l4+bmech4afceu5i"
def OF:av 0 179 OE:=aw
def OG:ar:=ax "jcbeal4faL5laaabd+dTcfgChK4fai5i"
def OH:av 0 180 OG:=aw
def OI:ar:=ax "ibbdal4eaL5laagebbsfg4eah5i"
def Bp:av 0 181 OI:=aw
def OJ:ar:=ax "Gcdeccfagal4dm+cZam+bqbp+ccgaNaK5l4lcacbkeLdcbcbnd+bcdlmo4kap4rijaijb4ip+b+c4afdhqar5dl4taissKat6QcahbusuV6alxOu5eulqga4afceu4gaNaZ5iadk4BcbhbuhcuKecucchbu4afcew4gauaK5jaaabaacaadaaeaafaagabfhaaiaai"
def OK:av 0 182 OJ:=aw
def OL:ar:=ax "ucbeal4faK5l4iaad+d4bh4gai5l4kabd+d4bj4hak5dl4maf5eldlag5eml4faK5ial4faX5iadl4oag5enl4faM5iadl4paaabnop5eql4faX5iadl4saaabyrs5etl4faM5ial4faK5i"
def OM:av 0 185 OL:=aw
def ON:ar:=ax "eabaal4baP5ld+d5aqybaibm+eZc4bad5i"
def OO:av 0 186 ON:=aw
def OP:ar:=ax "Zcadl4gaakfcjgbhoi15ejbaad+d5akkcam4afinl5alaakocjpbqabgsvhtjrukocju4afbuw5lubaaakuciubuwbbyuabwbbvu4fau5dfagdl4HaeguCuY5euahafbdcaaaakucaueiuaeFbuabYd+d6cwukBcau4afiuw5baeFbubYa4fau5b4Waaaekvciu4afbuw5"
def OQ:av 0 187 OP:=aw
def OR:ar:=ax "+bmbbccGlp+bge5l4jaakicajeik4ep+eWl4afidl5dl4naakmcjnboop15eqbd+d5a4afidr5alubaaaktciubuwbbsuubb,+oYwbbvu4fau5dfagdl4BaeguKuYsu=5euahafbbaeubb0wbbvu4fau5l4IaeaakucjubuE8ud+d7buwbbAu4fau5dfcgdl4QaeguyuK5euahcdfdc4VeidaeFbuabYd+d6cwu4afidu5b4TaeFbubYa4fau5lp+bge5dl4ZeidaK5feglnuQ5deuahedfflav3o4hava,25b44agERuagERujuMagERujuSagERujuWahGu,+oZveuahGu>veuahGu8veuahveuzbGf,44afbuDzbGf,74afbuBzbGf,:4afbuzzbGfI4afbuy5bj,ZM40au5l4+bmeGf4afGcu5i"
def OS:av 0 188 OR:=aw
def OT:ar:=ax "Acbeal4faN5l4jaaubbi4gaj5dl4labgkaK5faglnml5denahadfblhbkmbo4iap5b4rafahgrvhsd+d7btwbbquahwbbvu4gau5b4zjmM4nau5l4Aaf4fau5i"
def OU:av 0 189 OT:=aw
def OV:ar:=ax "+bhcbecGl4fp+bge5l4nBbaaaxbbmnBbb,+oYxbbop4gaq5dfagdl4safgrKsYst=5euahafbbafBbb0xbbvu4gau5l4zaaguvhuE8u4hau5dlaK5fcgdl4DahnuQ5euahcdfdb4HafagahEQuA=uvhuGyuKu?veuBbbuxbbDu4gau5b4FahjuM4iau5l4SBbi,+o0,+o1,+o2,+o3,+o4,+o5,+o6,+o74jau5dlaK5fegdl4Tajafgunwu5euahedffb4ZaiafajajjuYFbxbwbuabd+d8dAvu4jau5b4XajjuY4kau5lp+bge5dlaK5fggdl47alnu,+oQ5euahgdfhb4;alaialMuRhbwubualKuREQuA,+qwuvhuGzuKu,+o8veuzbGkH4afbuv5b49aljuM4mau5l4+bheGk4afGeu5i"
def OW:av 1 190 OV:=aw
def OX:ar:=ax "cabaal4baN5lBb<,+o9,+o:,+o;,+o<,+o=,+o>,+o?,+o*,+o+,+o,,+pa,+pb,+pc,+pd,+pe,+pf,+pg,+ph,+pi,+pj,+pk,+pl,+pm,+pn,+po,+pp,+pq,+pr,+ps,+pt,+pu,+pv,+pw,+px,+py,+pz,+pA,+pB,+pC,+pD,+pE,+pF,+pG,+pH,+pI,+pJ,+pK,+pL,+pM,+pN,+pO,+pP,+pQ,+pR,+pS,+pT,+pU,+pV,+pW,+pX,+pY,+pZ,+p0,+p14bab5i"
def OY:av 1 191 OX:=aw
def OZ:ar:=ax "Tcbeal4faN5l4kaaBbbj4gak5dlaK5fagdl4magabgmnln5eoahadfbl4sabaghbrsbtguvhu4iau5dlaK5fcgdl4yainuQ5euahcdfdb4CafahaiEQuA=uvhuGyuKu?veuBbbuxbbDu4gau5b4AaijuM4jau5b4Nafabaghbvubuxbbyu4gau5b4qagjpM4haq5l4Taf4fau5i"
def P0:av 1 192 OZ:=aw
def P1:ar:=ax "xbbcalaN5l4haavhgjh;4eai5l4k2bbzQQ4faj5dla75fagdl4lafCkK5elahadfbl4paeafadKq?verhbop4afbts5badMu?4eau5b4nafAmM4gan5l4xae4dau5i"
def P2:av 1 193 P1:=aw
def P3:ar:=ax "pcbeal4faL5dl4haaaK5faglnhg5deiahadfblah4gaj5l4labafLkblrcm5enl4faL5iab4pjhM4iao5l4faO5i"
def P4:av 0 194 P3:=aw
def P5:ar:=ax "pbbdal4eaL5dccabbeaahbfgbhcbbbjaahbklbmIin4eao5i"
def P6:av 0 195 P5:=aw
def P7:ar:=ax "rcbeal4dmAamAbaL5lecccacbgghd+b4cfiaj6xecdcacbmgnd+b4clo6alkpL4faq5i"
def P8:av 0 196 P7:=aw
def P9:ar:=ax "pcbeal4dmAamAbaL5leccecdd+c2cfgah6tcacbjgkJ+d9accdd+c0clm6alinL4fao5i"
def Pa:av 0 198 P9:=aw
def Pb:ar:=ax "kbbcccl4cmAapAb5dkcabbdd+dbbecbbbgd+dbbhqbcabfbbi4afccj5iaaabaadaaeaacabefaagaahaai"
def Pc:av 1 199 Pb:=aw
def Pd:ar:=ax "hbbccclp+b9f5laavhdDe;qfbbbf4afccg5i"
def Pe:av 0 200 Pd:=aw
def Pf:ar:=ax "Wdbgal4emCamAb4haL5l4oeddeced+b9cno4nap4rimaimbimc4ip+b9f4afchqaras5l4veddacd+d?cvu4uau4yitaitb4lp+b9f4afck,xa,y5dc4AajouKau65alouK6alwuLau6=acgucaebuguoxu6alAuLau6+bkeckachbuKbuechaid+d*ezwvu6alBuL4hau5i"
def Pg:av 0 205 Pf:=aw
def Ph:ar:=ax "mbbcalaL5l4faad+bMbe4eaf5dl4hadygV5ehbaad+cIciZ5aladokV4dal5i"
def Pj:av 0 206 Ph:=aw
def Pk:ar:=ax "Lcbeal4faN5l4jaad+bMbivdj4gak5dl4mafabylm5enbaad+cIco:5al4haN5dl4rafaK5faglnrq5desahadfblaad+d+bt4iau5l4waakucbubuouK5eubagahubbuwbiwu4hau5ab4FjrM4sau5dl4GaakucbubusuK5eul4faN5ial4Lag4fau5i"
def Pl:av 0 207 Pk:=aw
def Pm:ar:=ax "EcbecLl4fp+bqa5l4haad+dRbgqabaGh4gp+bqa4afLfi5l4kaad+dQcj3cIf4afblk5laad+dQcm3cJf4afbon5laaabd+c=cpqcGfcas4afbtr5laaabd+c=cvucGfcbu4afbuw5laaabd+c=cvucKf4afbuv5leLf4afLeu5i"
def Pn:av 0 208 Pm:=aw
def Po:ar:=ax "+bucbeal4dm+b+amdbaL5dlbdnfMag6qbdyiQ6alhOjak6ycbcbmJ+eaabdd+d,cnorcp6allOqar6McccbtJ+ecabdd+ebcvurcu6alsOu5eul4faL5iadl4Acacbu5fal4DouV4Cau5eul4EcbcbuguouMau6+a+cccbuguouS6alyuLau6+bkcccbud+ebcu,+qx6alxuL4fau5il4Uo,AT4Tau5eul4VcbcbuguCuMau6+bGcbcbuguIuR6alyuLau6+bScccbuguouK6alyuLau6+b4cbcbud+d,cu,+qy6alxuL4fau5il4+a+o,AU4*au5eul4+a,cbcbuguouKau6+chcccbuguCuS6alyuLau6+ctcccbuguIuR6alyuLau6+cFcccbuJ+efabdd+ebcvu6alyuL4fau5ial4faL5i"
def Pp:av 0 209 Po:=aw
def Pq:ar:=ax "+bqcceafal4dm+b+a4faNaK5dl4medcabd+c?clmrcn5eol4faNaM5ial4qqjam+cKp4haq5l4sagcacbsd+bGcrt5lagcbcbuguveud+bGcyu5dlcbcbuguaK5faglnuv5deuahadfblhcxvecu4jp+ccg4afci,H5l4Jagcbibud+egcwu5bagcaibud+cDcwu5bjFM4Fau5l4Sagcccbuguveud+bGcyu5dlcccbuguaK5fcglnuv5deuahcdfdlhLxveLu4lp+bqa4afLk,35l45agcakeGud+cCcwu5lagcIkbud+cBcwu5lagcJkbud+cBcwu5lagcGkcaubud+cDcxu5lagcGkcbubud+cDcxu5bagcKkbud+cDcwu5bj,0M41au5l4+bnagd+bJbuagd+bKbu4fawa,+bp5i"
def Pr:av 0 210 Pq:=aw
def Ps:ar:=ax "gbbccGlp+bge5laad+ehbdd+bYbe4afGcf5i"
def Pt:av 0 211 Ps:=aw
def Pu:ar:=ax "+brcbeccl4dmAamAbpAb5dk4kecccacbkgld+b4cjmecdcadbpgqd+b4cor4ganas5maaabaacaadaafaagaahaaiaaeacfhjaakaalaadfal4vafau6Tagrcu6alwuL4uau5etl4Aeccd+c5bu4afceu5il4Dagau69afrcu6alwuL4Cau5eul4Iecdd+c5bu4afceu5il4Lafrcuau6+bhcacbugucadbugusxu6alBOu4Kau5eul4Wqba4afceu5ialeccd+c5bu4ipAb4afch,X5dl4ZcahbuguaK5fbglnuv5deuahbdfclav4jau5k45cahbuaicbhbuaicacbuaihbvubucadbuaihbvubuPadzucbcbuaihbvubucbdbuaihbvubuPbdzuhb,5,64afbuGhb,8,94afbuw5GaaabaacaadaaeaafaagaahaaiaajaakaalaamaanaaoaapaaqaaraasaataauaavaawaaxaayaazaaAaaBaaCaaDabeEaaFaabj,1M42au5l4+brech4afceu5i"
def Pv:av 1 212 Pu:=aw
def Pw:ar:=ax "rbbccclpAb5dlaagdneMaf6oaaghyiQ6algOj5eklqba4afccl5ialaad+dbbmaad+dbboqbcabnbbp4afccq5i"
def Px:av 0 213 Pw:=aw
def Py:ar:=ax "ibbcalaN5dlaaRad5eel4daN5ial4gBbaaaxbifg4dah5i"
def Pz:av 1 214 Py:=aw
def PA:ar:=ax "rcbeal4dmAamAbaL5lcacbfcadbhd+ddcgiaj6xcbcblcbdbnd+ddcmo6alkpL4faq5i"
def PC:av 0 215 PA:=aw
def PD:ar:=ax "Acbeal4faL5dl4haaggabgishj5ekl4faL5iadl4maaglaK5faglnnm5deoahadfblan4gap5dc4raaafhbqrbsabafhbvubustu5eul4faL5iab4AjnM4oau5l4faO5i"
def PE:av 0 216 PD:=aw
def PF:ar:=ax "Bbbeal4faL5dccabbfaahbghbibcaahbklbmIjnao6HbcaahbqrbscbbbuaahbvubuItu6alpuL4fau5i"
def PG:av 0 217 PF:=aw
def PH:ar:=ax "qcbfal4gaK5dfal4iedcaaabd+dhdhij4hak5egl4gaX5il4nedcabaad+dhdmno4map5ell4gaM5ial4gaK5i"
def PI:av 0 219 PH:=aw
def PJ:ar:=ax "Vdbgal4emCa4haL5l4neddabd+d?cmn4mao4qilailb4ip+b9f4afchpaq5l4teddacd+d?cst4sau4wirairb4kp+b9f4afcj,va,w5dc4yaiouKau61akouK6alwuLau69abguacguowu6alzuLau6+beechabhbuKbuecjachbuKbud+d*eByxu6alDuL4hau5i"
def PK:av 0 220 PJ:=aw
def PL:ar:=ax "Zcceafal4fa1a15l4paaNo,+oR4hap5l4raaGq94iar5l4tabNs,+oR4jat5l4vabGu94kau5l4xagaiEvu4lau5l4AahaiEvuakGu9jwu4mau5l4GalNu,+oR4nau5l4IalGu94oau5l4KamagajEvujxu4nau5l4PahajEvuanjvuamGu9jwu4fau5l4XaaabEvu4gau5i"
def PM:av 0 222 PL:=aw
def PN:ar:=ax "tcbeal4faK5dl4haaggaK5faglnih5dejahadfblai4gak5l4mabaaafhbmnboolp5eqlaf4far5iab4tjiM4jas5l4faX5i"
def PO:av 0 224 PN:=aw
def PQ:ar:=ax "Xcbeal4dm+bqa4faL5dfal4heLcd+cmbg4gah5efl4faO5il4kcJcbjnkMal6AcJcbnyo36almOpaq6KcIcbsntK6alrOuau6UcIcbucJcbuywu6alzOu4jau5eil4faL5il4FcIcbuouK4Eau5eul4IcGccaubuguouKau6+bicGccbubuguouK6alzuL4fau5ial4UcGcecuabd+b4cvu4fau5i"
def PR:av 0 225 PQ:=aw
def PT:ar:=ax "odcgahal4gm+ejcaKaL5laaabJ+emabfd+eldijkilailb4haman5i"
def PU:av 0 226 PT:=aw
def PV:ar:=ax "fbbcal4cm+bsaa,+qz5lcabbd4dae5i"
def PW:av 0 227 PV:=aw
def PX:ar:=ax "xecicLjal4fm+cZam+ccbm+bqcm+bqdp+bqaaK5lcaebkecfucbmeLgeLhuLcopqcdabVbbncbqcbebsd+dudlrtiuaivb4afLiv4kau5i"
def PY:av 0 230 PX:=aw
def PZ:ar:=ax "qebial4fm+cZa4jaK5dleceadd+epcjkabacLlcmnnoK5epl4jaK5ial4jaM5i"
def Q0:av 0 231 PZ:=aw
def Q1:ar:=ax "ibbdal4eaL5laagebbsfg4eah5i"
def Q2:av 0 232 Q1:=aw
def Q3:ar:=ax "GdcgcLhalm+b+b4hp+bqaaK5l4oedeacd+b?cno4nap4rimaimb4jp+bqa4afLiqar5dl4tajssK5etlqaaaj4afLgv4iau5ial4yedeacd+c*cvu4xau4Biuaiyb4lava,B5l4Daaakd+eqcvu5leLi4afLgu4iaK5i"
def Q4:av 0 233 Q3:=aw
def Q5:ar:=ax "Fccecdfal4dm+doam+bqbp+b+caK5l4kcacbjeLdcbcbmd+bcdkln4jao4qiiaiib4hp+b+c4afdgpaq5dl4sahsrKas6OcagbusuTau6XcagbusuU6OlxuL6altOu5eulqca4afdeu4gaZ5ial4Fedg4afdeu4gaK5i"
def Q6:av 0 234 Q5:=aw
def Q7:ar:=ax "Xdcgahal4haKaL5l4naagm4jan5l4pai4kaKao5dfagdl4qajaknpq5erahafblajakjstvhuGu,+p2vdu4mau5l4zacaaalhbvubuabLzcvunuK5eubaljuM4kau5b4Jal4lau5l4Kajajainvuau6+bkacaaajhbvubuabLzcvuouK6alCuL4haHa,W5i"
def Q8:av 0 235 Q7:=aw
def Q9:ar:=ax "ubbcal4cm+b+aaN5laN5dl4hcbbbgghaK5faglnji5dekahadfblhchjecl4gp+ccg4afcfm5b4oadcafboBbbpxbynq4ear5b4tjjM4kas5l4uad4dat5i"
def Qa:av 1 236 Q9:=aw
def Qb:ar:=ax "ncbeal4faK5dfal4haaabd+ercgh4gai5efl4faX5il4labaad+erckl4kam5ejl4faM5ial4faK5i"
def Qc:av 0 237 Qb:=aw
def Qd:ar:=ax "pcceafal4faNaK5laaaaghd+dHbid+etcgjabd+escklimaimb4fanao5i"
def Qe:av 0 238 Qd:=aw
def Qf:ar:=ax "+bydbgal4haN5l4laaabtbkblaa5lacgn4iao5dl4qahopK5eqlaa4har5ial4taags4jat5dl4vabaiovu5eulaaacxbyvu4hau5iadl4BaiahjvuaaUuywu5eulaaabtbvabuaaiahjvuabAvuYbynzu4kau5l4QajabtbvbuaaacHbvu5dcajabahjvutbxbuaaaaabtbvbuaaHbxu5laj4hau5ial45aaaiahjvutbxabua4bau5dl4:acaaabahjvutbxbuaaZzurcu5eudcaaabahjvutbxbuaaaaabtbvbuaaHbxu5laaabtbvbuaaacHbvu5laa4hau5ial4+boaaaitbvbuaaacHbvu5laaabtbvbuaaahd+evcvu5laa4hau5i"
def Qg:av 6 239 Qf:=aw
def Qh:ar:=ax "Bcbeal4dm+b+a4faK5laK5dfagdlafjgMcccbigjnhkal6BabcccboafjqMhLprcKsbtd+ercnurcu6almuL5euahafbbafjuM4gau5l4Baf4fau5i"
def Qi:av 0 240 Qh:=aw
def Qj:ar:=ax "pcceafal4faNaK5laaaaghd+dHbid+dGcgjabd+dFcklimaimb4fanao5i"
def Qk:av 0 241 Qj:=aw
def Ql:ar:=ax "+dlebial4jaN5l4qaaabactLpbqbra5dlabacotu5eulaaabadd+ewdwvu4jau5iadl4Bacaaguowu5eulaaabtLvabuaadxL+bXvu4kau5dl4Kajguaagunwu5eubaaajgutLwbuaa4a1Lau5alaj4jau5iadc4UaaabtLvabuaguadgujwuaaactLvbuaagujyu4lau5dl46akaaUuywu5eulaaabtLvabuaakabAvuYL+bXaxu4mau5l4+a+alabtLvbuaaadHLvu5dcalabadgujwutLybuaaaaactLvbuaaHLxu5lal4jau5ial4+boaaaktLvabua4nau5dl4+brabadgujwuacIvu5eulamabtLvbuaaadHLvu5dcamabadgujwutLybuaaaaactLvbuaaHLxu5laaaktLvbuaa4a1Lau5lam4jau5iadl4+bQamabadgujwutLybuaaadZvurcu5eudcamabadgujwutLybuaaaaactLvbuaaHLxu5lamabtLvbuaaadHLvu5lam4jau5ial4+b?adguacabAvuAxu4oau5dl4+ccamabactLwbvbuaadZvurcu5eudcamabactLwbvbuaadantLvbuaaHLxu5dcamaagutLwbuaaadantLvabuaHLxu5lamabtLvbuaaand+eycvu5lam4jau5iadl4+cFamaagutLwbuaaadZvurcu5eudcamaagutLwbuaaadantLvabuaHLxu5dcamabactLwbvbuaadantLvbuaaHLxu5lamabtLvbuaaand+eycvu5lam4jau5ial4+c8adaaactLvbuaad+ezcxu4pau5l4+c=amabtLvbuaaadHLvu5dcamabadgujwutLybuaaamabaojvutLxbuaaHLzu5lam4jau5i"
def Bq:av 6 242 Ql:=aw
def Qm:ar:=ax "pccecLfal4dm+doa4fp+bqaaK5lcacbgabqccabUcbicbcbkd+dudhjlimaimb4afLen4gao5i"
def Qn:av 0 243 Qm:=aw
def Qo:ar:=ax "Gcceafal4faNaK5laN5dl4maaglaK5faglnnm5deoahadfblhblnbp4jaq5l4tabaiLsbt4sau4wirairb4kp+bqa4afLj,va,w5dl4yaksuK5eulak4faNa,z5iab4BageLjBLbuxL+bXwu4hau5b4FjnM4oau5l4Gag4fauaK5i"
def Qp:av 1 244 Qo:=aw
def Qq:ar:=ax "Ncbeal4faN5laN5dl4jabaK5faglnji5dekahadfblaj4hal5l4naagmabagAopMnq4iar5dl4taagsabagAvuKtuyuK5eubahjuM4iau5al4CafaaahFLvabud+eAbuubbuwbyzu4gau5b4JaaahFLvbua4bau5b4MjjM4kau5l4Naf4fau5i"
def Qr:av 0 245 Qq:=aw
def Qs:ar:=ax "hbbcalaK5laajdRAeMMfR4dag5i"
def Qt:av 0 246 Qs:=aw
def Qu:ar:=ax ">dcgcLhal4em+cZa4hp+bqaaK5dl4nabgmonK5eolqaa4afLgp4iaK5ial4rabd+eBbq4car5l4tabecdacd+epctud+bVcsu5labguMuS4jau5dk4CecdabaitbvabuaacjuMd+dIdzwu4Bau4JiuaiCb4kp+bqa4afLj,Ia,J5naaabaacaadaaeaafaagbkahaaiaajaakaalaamaadl4LaksuK5eulqaaak4afLgv4iau5iadk4QecdabaijuMtbwbuaaacjuMd+dIdAwu4Pau4YiuaiDb4mp+bqa4afLl,X4la,Y5oaaabaacaadaaeaafaagaahblaiaajaakaalaamaanaadl40aksuK5eulqaaak4afLgv4iau5iadc44ecdabaihbvubuqgcabubbOeLjeLld+dreBwvuiuaivb4afLgv4iau5i"
def Br:av 6 247 Qu:=aw
def Qv:ar:=ax "lbbccdl4cm+b+ap+dvh5dkcabbdoeTedbd+dxbgccbbiqhdabfbbhcbj4afdck5jaaabaacaadaafaagaaeacbghaaiaai"
def Qw:av 0 248 Qv:=aw
def Qx:ar:=ax "Hdbgal4haN5l4jaaabacaagltbibjbkbm5dlabacoop5eqlaa4har5ial4taags4iat5dc4vaaabtbvabuaaaactbvbuaaxbyxu4bau5l4Caaaaguahtbxbvbua4a1bnu5laa4hau5i"
def Qy:av 6 249 Qx:=aw
def Qz:ar:=ax "+bfeciajal4fm+doa4im+dvdaNaK5dl4uedhd+eCbtrcu5eul4yeceedhd+ctcvu4xau4Biuaiyb4lp+bqa4afLk,Aa,B5l4DabaceLkhLwv4afLuv5labal4java,H5ial4JacAuMPbduK4nau5l4Mam4oau5dl4NacouK5eub4oaM5adk4QeceabanhLvueLud+dvcyu4Pau4WiuaiBb4pp+b+c4afdo,Va,W5maaabaacaadaaeaafbjagaahaaiaajaakaalaadl4YapsuK5eulap4jaNa,Z5iadk41edod+dJbuedh4rp+dvhp+dvh4afdq,14afdr,25haaacaabcdebcdbeaeaafabcgaadl44acouK5eukedhedod+dJbu4afdqw4afdru5faaabaacabadaaeaaal4:eceedqedrd+eDdwvu49au4>iuaizb4tav4qa,>5dl4*apsuK5eulap4jaNa,+a+5ial4+baabamamjuSasd+dDeyxvu4jauaK5i"
def QA:av 1 250 Qz:=aw
def QB:ar:=ax "kcbeal4faL5laad+eFbfabd+eFbhd+eEcgi4faj5i"
def QC:av 0 251 QB:=aw
def QD:ar:=ax "hbbcalaN5laad+bxbdhbeKbf4dag5i"
def QE:av 0 252 QD:=aw
def QF:ar:=ax "JbbcalaN5l4iaaMhR4eai5dl4kadERjaankl5embadjnM4eao5alaN5dlaK5fagdl4qafadnpq5erahadfbl4vaaadMvu4hau5dl4yafaaadKvunxu5eubagjuM4hau5ab4Faeagubbuwbiwu4fau5b4tafjsM4gat5l4Jae4dau5i"
def QG:av 0 253 QF:=aw
def QH:ar:=ax "tcal4habvhgDh;4fai5la=5fagdl4kafCjK5ekahadfbb4oaaaeafGopveqd+bGcnr5b4mafAlQ4gam5"
def QI:av 0 254 QH:=aw
def QJ:ar:=ax "Mcbeal4faK5l4kaad+cFcjW4jak4miiaiib4galam5dl4oagrcn5eol4faK5iadc4qafhbpKbqvdrSs>afhbuMbuvduSu8TtuafhbuSbuvduTyu4iau5dl4GahabPadu3ywu5eulaad+cIcu:5l4faK5ial4Mah4fau5i"
def QK:av 0 255 QJ:=aw
def QL:ar:=ax "pbbccGlp+bge5lp+bge5l4iaad+cFch,+oQ4hai4kigaigb4fajak5l4m3pae3q5leGd4afGco5i"
def QM:av 0 256 QL:=aw
def QN:ar:=ax "gbbcalaN5dlaa5edlBbbV4dae5ial4gBbb04daf5i"
def QO:av 1 257 QN:=aw
def QP:ar:=ax "tcbeal4faK5dl4haaggaK5faglnih5dejahadfblai4gak5l4mabaaafhbmnboLlbp5eqlaf4far5iab4tjiM4jas5l4faX5i"
def QQ:av 0 258 QP:=aw
def QR:ar:=ax "gbbcalaL5laaaasde4daf5i"
def QS:av 0 269 QR:=aw
def QT:ar:=ax "cabacil4bp+eWl5lqliab,+o0bb,+o1cb,+o2db,+o3eb,+o4fb,+o5gb,+o6hb,+o74afiab5i"
def QU:av 0 270 QT:=aw
def QV:ar:=ax "+bYcbecil4dm+eWa4fp+eWl5dk4pabd+eLbod+eMaeic4gp+ftmp+ftmp+eWl4af<fp4af<gq4afihr5kaaadaabdefgbdcdefgbdecfgafbgagaahabdiabdjaadl4taK5faglnsY5detahadfblas4jau5dk4wzbihRbud+eNcu,+qCzbihRbud+eNcu,+qDDxuzbihRbud+eNcu,+qEDxu4kau5maaabaadaaeaahaaiaacaceifabigaajaakaalaadc4Hzbih7buajjvuzbihRbuzbih<buNwuzbihRburbuzbih4buNwuDAujGuaizb<gubujxuaizb<fubujxu4lau5dk46zbihKbud+eNcu,+qFzbihKbud+eNcu,+qGDxuzbihKbud+eNcu,+qHDxu4mau5maaabaadaaeaahaaiaacaceifabigaajaakaalaal4+a+alzbihKbuzbihMbuNwuzbihKbuzbihSbuNwuDzuzbihMbuzbihSbuNwuDzuj,*u4nau5b4+brakamjvuzbihKbuzbihMbuzbihSbuzbihWbuakjvuzbihRbuzbih<buzbih4buqliab,+bsbbIcbGdbEebAfbygbwhbu4afihu5bjsM4tau5dl4+bMaK5fcglnuQ5deuahcdfdlav4oau5c4+bPanzbihubuanzbicubujxuzbihA4afbuv5bjEM4+bMau5l4+bYeih4afieu5i"
def QW:av 0 271 QV:=aw
def QX:ar:=ax "rbbcalaN5laN5dla=5fagdlaeCfK5egahadfbb4kadaaaeGklvemubbnwbbjo4eap5b4iaeAhQ4fai5l4rad4daq5i"
def QY:av 0 272 QX:=aw
def QZ:ar:=ax "+dpdbgal4haN5l4v2beAYY4iau5dlaK5fagdl4wainu25euahadfbl4kaK5fcgdl4AajnuR5euahcdfdc4EahaiahaihbvubuE,+o8uabaiERuajjvuhbyubuvgujCuhbJI4afbuv5b4CajjuM4kau5b4yaijuM4jau5dl4la25fegdl4VaknuY5euahedffdc4ZahakAu,+p3hbwubuahakAuShbwubu4maza,75k49ahakahakAu2hbwubuald+eOcu,+qIald+eOcu,+qJDwualMu,+qKDwujCuahakAu7hbwubujzuamd+eOcu,+qLamd+eOcu,+qMDwuamMu,+qNDwujCuhb,8,94afbuv5HaaabaacaadaaeaafaagaahaajaamaanaaqaaraasaataauaawaayaaBaaCaaiacgukacgulaaoaapaavaaxacguzacguAaaDaaEaaFaaGaab4XakjuM4lau5l4+bwBbaaaxbevu4oau5dlaK5fggdl4+bzaonuY5euahgdfhdc4+bDanhbuRbuanhbu<buNxuanhbuRbuA,+qOuanhbu4buNxuDCu4qau5dk4+bTanhbu7buanhbuRbud+eOcu,+qPanhbuRbud+eOcu,+qQDyuanhbuRbud+eOcu,+qRDyujIuapjvuacaohbvubujyuahaohbvubujyu4rau5FaaabaacaadaaeaafaahaaiaajaamaanaaoaasaauaavaawaaxaazaaAaaBaaCaagafcjoxCkaecoxClaapadcxCqaaraataayaaDaaEaadc4+ceanhbuKbuanhbuMbuNxuanhbuKbuanhbuSbuNxuDBuanhbuMbuanhbuSbuNxuDBu4sau5dk4+cBanhbuKbud+eOcu,+p4anhbuKbud+eOcu,+qSDyuanhbuKbud+eOcu,+qTDyuarjvu4tau5raaabaacaaeaafaagaajaakaalaaoaadacglhabliaamaanaapaaqaac4+cRaqasjvuanhbuKbuanhbuMbuanhbuSbuanhbuWbuaqjvuanhbuRbuanhbu<buanhbu4buBbi,+cS,+cV,+cYIDAxu4oau5b4+bBaojuM4pau5dl4uaK5figdl4+c,atnuQ5euahidfjc4+ddanatanathbvubuaaathbvubujyuhbED4afbuv5b4+dbatjuM4uau5l4+dpan4hau5i"
def R0:av 1 273 QZ:=aw
def R1:ar:=ax "Dbbeal4faL5dccabbfaahbghbicbcbkaahblmbnIjoap6JcacbraahbstbucbbbuaahbvubuIzu6alquL4fau5i"
def R2:av 0 274 R1:=aw
def R3:ar:=ax "Lcceccfal4dmCa4fp+b9faK5dledcabghd+b5cgircj5eklqfa4afcel4gaM5iadl4ncacbm5fal4qonT4pap5eol4rabcbcbrhbqsbtd+c7bu4afceu4gaK5il4yonU4xau5eudc4zabFbubMacccbud+eScwuiuaivb4afcev4gau5ial4Gabcbcbuhbwubud+c6bu4afceu4gaK5i"
def R4:av 0 280 R3:=aw
def R5:ar:=ax "uebial4fm+b9a4hm+b9c4jaL5dl4leceecgd+b;ckl4kam5l4oajsnK5eolajnpK4jaq5ial4sabadnrs4jat5i"
def R6:av 0 281 R5:=aw
def R7:ar:=ax "EbbcalaK5l4kaad+cFcjQ4jak4miiaiib4ealam5dl4oaercn5eol4daK5ial4ga15dl4qadgpaK5faglnrq5desahadfblhbprbt4iau5b4wafSu8ahvhuTwu4gau5b4BjrM4sau5l4CafDu;vdu4dau5i"
def R8:av 0 282 R7:=aw
def R9:ar:=ax "jcbealm+e:baL5laaJ+eUabdd+eTcfgrch4fai5i"
def Ra:av 0 283 R9:=aw
def Rb:ar:=ax "jbbdalm+ccaaL5lcacbegfbbogh4eai5i"
def Rc:av 0 284 Rb:=aw
def Re:ar:=ax "jcbealm+b=baL5laaJ+eWabdd+eVcfgrch4fai5i"
def Rf:av 0 285 Re:=aw
def Rg:ar:=ax "hbbdalm+bqaaL5leLcbbd+dmcef4eag5i"
def Rh:av 0 286 Rg:=aw
def Ri:ar:=ax "hbbcal4cm+bqaaL5lcKbbdgeofK4dag5i"
def Rj:av 0 287 Ri:=aw
def Rk:ar:=ax "fbbcal4cm+ccaaL5lcbbbd4dae5i"
def Rl:av 0 288 Rk:=aw
def Rm:ar:=ax "obbdalm+bqaaL5lcKcbegfbboghai6veLcd+cmbkrcl6aljmL4ean5i"
def Rn:av 0 289 Rm:=aw
def Ro:ar:=ax "jcadl4fab5eelaad+bGcfV5iabaad+bGch05"
def Rp:av 0 290 Ro:=aw
def Rq:ar:=ax "gbbcalaN5laaubbdd+cVc,+oXe4daf5i"
def Rr:av 0 291 Rq:=aw
def Rs:ar:=ax "Xdcgahal4haKaL5l4naagm4jan5l4pai4kaKao5dfagdl4qajaknpq5erahafblajakjstvhuGu,+p2vdu4mau5l4zacaaalh+bfvue+bfuabLzcvunuK5eubaljuM4kau5b4Jal4lau5l4Kajajainvuau6+bkacaaajh+bfvue+bfuabLzcvuouK6alCuL4haHa,W5i"
def Rt:av 0 295 Rs:=aw
def Ru:ar:=ax "lcbfalm+bsa4gaK5lbce+bfdLgbhabd+encij4gak5i"
def Rv:av 0 296 Ru:=aw
def Rw:ar:=ax "ucbeal4faK5l4iaad+eYbh4gai5l4kabd+eYbj4hak5dl4maf5eldlag5eml4faK5ial4faX5iadl4oag5enl4faM5iadl4paaabnop5eql4faX5iadl4saaabyrs5etl4faM5ial4faK5i"
def Rx:av 0 297 Rw:=aw
def Ry:ar:=ax "lcbeal4dm+cZa4fa,+qU5l4habcbcbhKgi4gpdt4afbfj5l4lJ+e0abf4fak5i"
def Rz:av 0 299 Ry:=aw
def RA:ar:=ax "2cbecGl4fp+bge5l4jabd+c+bi4gp+bge4afGfj5ddc4maaklcambneGf3s4laq4sikaikb4haras5fal4vahrcu4uau5etk4xaakucaubueGfabd+bDbu4a3t5iaaabaacaadaaeaafaagacdehaal4Faakucduburcuau6+bcagabd+e1cvurcu6alyuL4Eau5eub4Qaaaaaaagabd+bDbukzcbu4afbuykAccu4afbuykBcdu4afbuO5aleGf4afGeu5i"
def RB:av 0 300 RA:=aw
def RC:ar:=ax "6cbeal4faL5dl4kaagjd+e2bkrclam6Cabgoaagqspr6alnOs5etl4faL5ialaKa15dl4vaaguaK5faglnuv5deuahadfblav4iau5dk4Aaaahhbvubud+e3buabahhbvubud+e3buDzu4jau5maaabaacaadaafaagaahaaiaaeabijaakaalaal4Lagainvuau6+bkagagaiDvunxu6alzuL5eubahai4gava,V5ab4Xj,wM4xau5dc4Yaaafhbvubuabafhbvubunyu4fau5i"
def RD:av 0 301 RC:=aw
def RE:ar:=ax "Gcceafal4faNaK5laN5dl4maaglaK5faglnnm5deoahadfblhblnbp4jaq5l4tabaiLsbt4sau4wirairb4kp+bqa4afLj,va,w5dl4yaksuK5eulak4faNa,z5iab4BageLjBLbuxL+bXwu4hau5b4FjnM4oau5l4Gag4fauaK5i"
def RF:av 1 302 RE:=aw
def RG:ar:=ax "Ncbeal4faN5laN5dl4jabaK5faglnji5dekahadfblaj4hal5l4naagmabagAopMnq4iar5dl4taagsabagAvuKtuyuK5eubahjuM4iau5al4CafaaahFbvabud+eBbuubbuwbyzu4gau5b4JaaahFbvbua4bau5b4MjjM4kau5l4Naf4fau5i"
def RH:av 0 303 RG:=aw
def RI:ar:=ax "ibbcalaN5dlaaRad5eel4daN5ial4guLaaawL+bXfg4dah5i"
def RJ:av 0 310 RI:=aw
def RK:ar:=ax "ibbcalaN5dlaaRad5eel4daN5ial4gubaaawbyfg4dah5i"
def RL:av 0 311 RK:=aw
def RM:ar:=ax "ibbcalaN5dlaaRad5eel4daN5ial4gBbaaaxbyfg4dah5i"
def RN:av 6 311 RM:=aw
def RO:ar:=ax "lbbcal4cm+dvaaL5lcbbbdgeccbbgghjfinjS4dak5i"
def RP:av 0 312 RO:=aw
def RQ:ar:=ax "Gdcgahal4em+doam+dvbm+dvcaNaK5dlcaebi5ejdkcbebkcbfbmubclnd+e6boecdJ+cnbqad+dzcprisaisb4hata,u5naaabaacaadaagaahaaeaafabgiaajaakaalaamaaiadk4wccebuccfbuubcwud+e7buecdJ+dEbuad+dCcwuiuaivb4hava,F5naaabaacaadaagaahaaeaafabgiaajaakaalaamaai"
def RR:av 0 313 RQ:=aw
def RS:ar:=ax "ucbeal4faL5dlaagfabghsgi5ejlaagkabgmnln4fao5ial4qaaXpabXrnqs4fat5i"
def RT:av 0 314 RS:=aw
def RU:ar:=ax "gbbcalaN5laad+e9bdd+e8be4daf5i"
def RV:av 0 315 RU:=aw
def RW:ar:=ax "+bwbbcc<lp+ftm5lp+ftm5dl4laK5faglnk25delahadfblak4fam5c4oaeaaaeERphboqbrvgsSt,+oZaaaeERujuMhbxubuvguSu>TCuaaaeERujuShbxubuvguSu8TCuaaaeERujuWhbxubuvguTBuzb<dn4afbuv5bjkM4lau5dl4ga25fcgdl4YafnuY5euahcdfddc42afAu,+p3zb<dubuafAuSzb<dubu4haya,85l4:agd+eNcu,+qVagd+eNcu,+qWDwuagGu,+qXDwu4jau5l4+a,ahd+eNcu,+qYahd+eNcu,+qZDwuahGu,+q0Dwu4kau5c4+bhafafAu2zb<dubuaijvuafAu7zb<dubujyuajjvuzb<dH4afbuv5b40afjuM4gau5l4+bwe<d4af<cu5i"
def RX:av 0 321 RW:=aw
def RY:ar:=ax "cabac<l4bp+ftm5lqm<ab,+o9bb,+o:cb,+o;db,+o<eb,+o=fb,+o>gb,+o?hb,+o*ib,+o+jb,+o,kb,+palb,+pbmb,+pcnb,+pdob,+pepb,+pfqb,+pgrb,+phsb,+pitb,+pjub,+pkvb,+plwb,+pmxb,+pnyb,+pozb,+ppAb,+pqBb,+prCb,+psDb,+ptEb,+puFb,+pvGb,+pwHb,+pxIb,+pyJb,+pzKb,+pALb,+pBMb,+pCNb,+pDOb,+pEPb,+pFQb,+pGRb,+pHSb,+pITb,+pJUb,+pKVb,+pLWb,+pMXb,+pNYb,+pOZb,+pP0b,+pQ1b,+pR2b,+pS3b,+pT4b,+pU5b,+pV6b,+pW7b,+pX8b,+pY9b,+pZ:b,+p0;b,+p14af<ab5i"
def RZ:av 0 322 RY:=aw
def S0:ar:=ax "rcbeal4fa,+p55l4habvhgNh,+q14gai5l4kaaafSjkaaafA9nGmoTlp4faq5i"
def S1:av 0 323 S0:=aw
def S2:ar:=ax "ncbeal4fa,+p55laaabGfgaaabA9jSikThl4fam5i"
def S3:av 1 324 S2:=aw
def S4:ar:=ax "jcbeal4faL5laaabd+e=cfgChK4fai5i"
def S5:av 0 329 S4:=aw
def S6:ar:=ax "ibbdalm+ccaaL5lbbeccLebfrcg4eah5i"
def S7:av 0 330 S6:=aw
def S8:ar:=ax "jcbeal4faL5laaabd+e>cfgChK4fai5i"
def S9:av 0 331 S8:=aw
def Sa:ar:=ax "ibbdalm+bqaaL5lbbeLcLebfrcg4eah5i"
def Sb:av 0 332 Sa:=aw
def Sc:ar:=ax "gbbcalaL5laaaasde4daf5i"
def Sd:av 0 334 Sc:=aw
def Se:ar:=ax "wcbfal4gaK5ddc4iaabchbhibjabbchblmbnd+cRcko4hap5l4ragsqK5erlag4gas5ial4uaaabd+bXctu4gau5i"
def Sf:av 0 336 Se:=aw
def Sg:ar:=ax "kcbeal4faL5laaXfabXhogi4faj5i"
def Sh:av 0 337 Sg:=aw
def Si:ar:=ax "jbbcalaL5laaCdMae6naaIgQ6alfhL4dai5i"
def Sj:av 0 338 Si:=aw
def Sk:ar:=ax "gbbcala15laavhdDe;4daf5i"
def Sl:av 0 339 Sk:=aw
def Sm:ar:=ax "KbbcalaN5laK5dl4kaagjaK5faglnlk5demahadfblhbjlbn4gao5l4qadafgqjpr4eas5l4uadntK5eubVj,+p64aWu5abjlM4mau5l4yadd+e,cNu4hau5dl4AaaguaK5fcglnuv5deuahcdfdlhbxvbu4jau5b4Gagaixbyvu4hau5b4Jj,BM4Cau5l4Kag4dau5i"
def Sn:av 1 342 Sm:=aw
def Sp:ar:=ax "KbbcalaN5laK5dl4kaagjaK5faglnlk5demahadfblhbjlbn4gao5l4qadafgqjpr4eas5l4uadntK5eubVj,+p64aWu5abjlM4mau5l4yadd+facNu4hau5dl4AaaguaK5fcglnuv5deuahcdfdlhbxvbu4jau5b4GagaixL+bXvu4hau5b4Jj,BM4Cau5l4Kag4dau5i"
def Sq:av 1 343 Sp:=aw
def Sr:ar:=ax "GbbcalaN5laN5dlaK5fagdl4iaejh7aagjnik5elahadfbl4ga05dlaK5fcgdl4pagnoQ5epahcdfdb4tafETsaaaeagjvuhbxubujtu4gau5b4ragjqM4har5b4Cadafubbuwbbwu4eau5b4naejmQ4fan5l4Gad4dau5i"
def Ss:av 0 344 Sr:=aw
def St:ar:=ax "HbbcalaN5laN5dla,+q25fagdl4iaeChK5eiahadfbl4gaK5fcgdl4mafaagmnln5eoahcdfdl4saaafhbrsbtvhuju;4hau5b4yadagaevhuGwuKu,+p4veuubbuwbbBu4eau5b4qafjpM4gaq5b4kaeAjM4fak5l4Had4dau5i"
def Su:av 0 345 St:=aw
def Sv:ar:=ax "tcbeal4faK5dl4haaggaK5faglnih5dejahadfblai4gak5l4mabaaafhcmnecoLlbp5eqlaf4far5iab4tjiM4jas5l4faX5i"
def Sw:av 0 349 Sv:=aw
def Sx:ar:=ax "tcbeal4faK5dl4haaggaK5faglnih5dejahadfblai4gak5l4mabaaafhLmneLoLlbp5eqlaf4far5iab4tjiM4jas5l4faX5i"
def Sy:av 0 350 Sx:=aw
def Sz:ar:=ax "Bcbeal4faN5dlabnfK5egbVj,+oP4aWh5adlabaaUjaaglAkmAin4cao5l4qabypK5eqbaaaaUstbrabtaabYbynvuaagutbwabua4bau5al4Baa4fau5i"
def SA:av 6 354 Sz:=aw
def SB:ar:=ax "Bcbeal4faN5dlabnfK5egbVj,+oP4aWh5adlabaaUjaaglAkmAin4cao5l4qabypK5eqbaaaaUstLrabtaabYL+bXavuaagutLwabua4bau5al4Baa4fau5i"
def SC:av 6 355 SB:=aw
end Go.Proofs.YtlgnfcaolejgeaaGreat
