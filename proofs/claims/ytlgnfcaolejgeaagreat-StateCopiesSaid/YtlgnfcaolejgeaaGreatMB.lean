import Derived.Test.YtlgnfcaolejgeaaGreatMA
import Derived.Lib.Overlaps
import Derived.Laws.Externs
import Derived.KernelRfl
import Derived.Test.YtlgnfcaolejgeaaGreatProg
set_option linter.all false
namespace Go.bx
open Go
variable{n b3:R}{s a7:R -> U -> Prop}{j8:Array Value}{j:Fr}{f t e4:U}{g A e0:List R}{e i v O b8 j0:Nat}{u:bl}{m:Program}{e5:Value}{l h7:World}
section
variable  {o:Oper}{a:Act}   
def I8 (x:TypeId) (b:Operand) (y:o.op= .call {callee:= .builtin .cap,args:= #[b],argTypes:= #[x]}) (F:TypeId) (z:m.underlying x=some (.slice F)) (L:aQ b=true) (P:bK u a j) (C:Holds u f l) (h:G ⟨m,s⟩ (.mE b) j f a7):bQ m s o a l u f a7:=by
 have c:=P.ak b L;simp only[G]at h;generalize D:a.eval b=W at c;split at h
 case h_2=>trivial
 rename_i e d;unfold rq at d;split at d
 .rename_i S T k E p;rw[p]at c;obtain rfl:=a4v d;cases c with
  |an S T k E hk V=>exact .same C (by simp[execOp,y,resolve,invoke,builtin,D,Builtin.cap_,run_underlying z,goInt]) (.v _ rfl) h
 .rename_i p;rw[p]at c;obtain rfl:=a4v d;cases c with
  |dg g k dm bW r=>simp only[Own.lE]at r;subst r;have:=bW rfl;subst this;exact .same C (by simp[execOp,y,resolve,invoke,builtin,D,Builtin.cap_,run_underlying z,goInt]) (.v _ rfl) h
  |J i off len k E n xs dm hk hlen V q t hH v r=>trivial
 .cases d
theorem I9 (z p:Nat) (x r d:Option Operand) (h b c:Int) (C:(x=none/\h=0)\/ ∃k,valOf a x=some (.int k h)) (D:(r=none/\b=z)\/ ∃k,valOf a r=some (.int k b)) (L:(d=none/\c=p)\/ ∃k,valOf a d=some (.int k c))
  (P:d=none\/r.isSome=true) (S:0<=h) (T:h<=b) (j:b<=c) (l:c<=p) (E:World):(Instr.sliceBounds true z p (valOf a x) (valOf a r) (valOf a d)).run m E= .ok (h.toNat,b.toNat,c.toNat) E:=by
 have n:(b.toNat)=b:=a6a a8Z;have q:(c.toNat)=c:=a6a a8Z;have V:0<=b:=a8Z;have s:0<=c:=a8Z;have W:b<=(p):=a8Z;have y:valOf a none=none:=rfl;rcases L with ⟨rfl,rfl⟩|⟨t,hm⟩
 .rcases C with ⟨rfl,rfl⟩|⟨e,F⟩<;>rcases D with ⟨rfl,rfl⟩|⟨f,G⟩
  .rfl
  .simp only[Instr.sliceBounds,y,G];simp[run_sliceBound,W,V]
  .simp only[Instr.sliceBounds,y,F];simp[run_sliceBound,S,T]
  simp_all [Instr.sliceBounds,run_sliceBound]
 .have g:d≠none:=by rintro rfl;rw[y]at hm;cases hm
  have i:=P.resolve_left g;rcases D with ⟨rfl,rfl⟩|⟨f,G⟩
  .simp at i
  rcases C with ⟨rfl,rfl⟩|⟨e,F⟩;simp_all [Instr.sliceBounds,run_sliceBound];simp_all [Instr.sliceBounds,run_sliceBound]
def Ia (k2:TypeId) (V:Operand) (z D E:Option Operand) (k4:o.op= .slice k2 V z D E) (k5:E=none\/D.isSome=true) (Y:TypeId) (k6:m.underlying k2=some (.slice Y)) (W:Nat) (H:(m.info? Y).map (·.size)=some W) (k7:aQ V=true) (I:z.all aQ=true) (K:D.all aQ=true) (M:E.all aQ=true)
  (p:bK u a j) (N:Holds u f l) (e:G ⟨m,s⟩ (.lM W V z D E) j f a7):bQ m s o a l u f a7:=by
 have r:=p.ak V k7;have O: ∀(g) (len k:Nat) (c h d:Int),((z=none/\c=0)\/ ∃n,valOf a z=some (.int n c))->((D=none/\h=len)\/ ∃n,valOf a D=some (.int n h))->((E=none/\d=k)\/ ∃n,valOf a E=some (.int n d))->0<=c->c<=h->h<=d->d<=k->
   a.eval V= .slice g len k->(execOp a.eval o).run m l= .ok (.value (sliced g c.toNat h.toNat d.toNat W)) l:=by
  intro g len k c h d q F L t v w x i;have k3:=I9 (m:=m) len k z D E c h d q F L k5 t v w x l;simp only[valOf]at k3;cases Z:m.info? Y with
  |none=>simp[Z]at H
  |some ii=>
   have k8:ii.size=W:=by simpa[Z] using H
   simp[execOp,k4,i,Instr.sliceAt,Instr.slice,run_underlying k6,k3,sizeOf,typeInfo,Z,k8,sliced]
 simp only[G]at e;generalize i:a.eval V=l6 at r;split at e
 case h_2=>trivial
 rename_i C b;unfold rr at b;split at b
 .rename_i A len k Q P;rw[P]at r;split at b
  case h_2=>cases b
  rename_i c h d y S hm;split at b
  case isFalse=>cases b
  rename_i x;obtain⟨rfl,t,v,w,j9⟩:=x;obtain rfl:=a4v b;have q:=gg p I y;have F:=gg p K S;have L:=gg p M hm;cases r with
  |an A k9 k Q X k0=>
   have C:=O _ len k c h d (by trivial) F L t v w j9 i;refine .same N C ?_ e;cases z with
   |none=>
    simp only[da,a4H]at y;subst y;simp only[a6p,a5A,if_false];have:sliced (some ⟨A,0,none⟩) ((0:Nat):Int).toNat h.toNat d.toNat Q= .slice (some ⟨A,0,none⟩) h.toNat d.toNat:=by unfold sliced;simp[Addr.add]
    rw[this];exact .an _ _ _ _ X a8Z
   |some z=>
    simp only[a6P,if_true];by_cases B:c<d
    .rw[if_pos B];unfold sliced;rw[if_neg a8Z,a5x,hj,a4W];exact .bA _ _ _ _ _ X a8Z
    .rw[if_neg B];unfold sliced;have:h.toNat - c.toNat=0:=a8Z;rw[this];exact .dg _ _ _ (λl0=>by omega) (show d.toNat - c.toNat=0 by omega)
 .rename_i A k1 len k Q P;rw[P]at r;split at b
  case h_2=>cases b
  rename_i c h d y S hm;split at b
  case isFalse=>cases b
  rename_i x;obtain⟨rfl,t,v,w,j9⟩:=x;obtain rfl:=a4v b;have q:=gg p I y;have F:=gg p K S;have L:=gg p M hm;cases r with
  |bA A k1 k9 k Q X k0=>
   have C:=O _ len k c h d (by trivial) F L t v w j9 i;refine .same N C ?_ e;by_cases B:c<d
   .rw[if_pos B];unfold sliced;rw[if_neg a8Z,a5x,hj];exact .bA _ _ _ _ _ X a8Z
   .rw[if_neg B];unfold sliced;have:h.toNat - c.toNat=0:=a8Z;rw[this];exact .dg _ _ _ (λl0=>by omega) (show d.toNat - c.toNat=0 by omega)
 .rename_i P;rw[P]at r;split at b
  case h_2=>cases b
  rename_i c h d y S hm;split at b
  case isFalse=>cases b
  rename_i x;obtain⟨rfl,rfl,rfl⟩:=x;obtain rfl:=a4v b;have q:=gg p I y;have F:=gg p K S;have L:=gg p M hm;cases r with
  |dg g k dm bW T=>simp only[Own.lE]at T;subst T;have:=bW rfl;subst this;have C:=O none 0 0 0 0 0 (by trivial) (by trivial) (by trivial) a8Z a8Z a8Z a8Z i;exact .same N C (.dg _ _ .nil (λ_=>rfl) rfl) e
  |J l1 k1 len k W l2 xs dm H hlen k0 l3 l4 hH l5 T=>trivial
 .rename_i P;rw[P]at r;split at b
  case h_2=>cases b
  rename_i c h d y S hm;split at b
  case isFalse=>cases b
  rename_i x;obtain⟨rfl,rfl,rfl⟩:=x;obtain rfl:=a4v b;have q:=gg p I y;have F:=gg p K S;have L:=gg p M hm;cases r with
  |dg g k dm bW T=>simp only[Own.lE]at T;subst T;have C:=O g 0 0 0 0 0 (by trivial) (by trivial) (by trivial) a8Z a8Z a8Z a8Z i;refine .same N C ?_ e;unfold sliced;exact .dg _ _ .zero (λ_=>rfl) rfl
  |J l1 k1 len k W l2 xs dm H hlen k0 l3 l4 hH l5 T=>trivial
 .cases b
theorem vW (h:j8.size=e) (E: ∀b∈j8.toList,b.oneCell'=true) (z:0<e) (c:Nat):br u (Builtin.zeroCells j8 c) (List.replicate c (j8.toList.map cT)).flatten/\(∀p∈(List.replicate c (j8.toList.map cT)).flatten,p.one=true):=by
 have r:(j8.toList.map cT).length=e:=by simp[h]
 refine⟨br.dP.2 ⟨by simp[size_zeroCells],λx b F d C=> ?_⟩,λp k=> ?_⟩
 .have y:x<c*e:=by grind[List.getElem?_eq_some_iff,kS]
  rw[vT _ _ _ (by rw[r];exact y),r,a4X]at C;rw[a6e]at d;have G:x%e<j8.size:=by rw[h];exact a6A _ z
  simp only[Builtin.zeroCells,h]at d;rw[Array.getElem?_map]at d;simp only[a8I,y,if_true,a5x,a4H]at d;grind[Array.getElem?_eq_getElem,Option.some.injEq,aY.cT]
 .obtain⟨L,D,k⟩:=a8f.1 k;obtain rfl:=(List.mem_replicate.1 D).2;obtain⟨b,_,rfl⟩:=a4R.1 k;exact nK b
theorem Ib (P:TypeId) (h:Operand) (C:o.op= .call {callee:= .builtin .clear,args:= #[h],argTypes:= #[P]}) (S:TypeId) (D:m.underlying P=some (.slice S)) (p:TypeInfo) (w:m.info? S=some p) (c:Value) (A:p.zero=some c) (V:c.cells.size=p.size) (W: ∀h∈c.cells.toList,h.oneCell'=true) (e:0<p.size)
  (B:aQ h=true) (H:bK u a j) (g:Holds u f l) (z:G ⟨m,s⟩ (.mF p.size (c.cells.toList.map cT) h) j f a7):bQ m s o a l u f a7:=by
 have r:=H.ak h B;simp only[G]at z;generalize E:a.eval h=k3 at r;split at z
 case h_2=>trivial
 rename_i k4 d;unfold kP at d;split at d
 .rename_i x k b F I L;rw[L]at r;split at d
  case h_2=>cases d
  rename_i k5 K;split at d
  case isFalse=>cases d
  rename_i M;obtain⟨rfl,N⟩:=M;obtain rfl:=a4v d;obtain⟨i,n⟩:=vW (u:=u) V W e b;have q:(List.replicate b (c.cells.toList.map cT)).flatten.length=b*p.size:=by rw[kS];simp[V]
  obtain⟨y,T,t,k6,O⟩:=Step.store g K k _ _ i n (by rw[q];exact N);refine .value (v:= .tuple #[]) ?_ O (.undef _) z;have v:=run_storeCells_at m x k T (Builtin.zeroCells c.cells b).toList 0 y l t (by have:=i.1;simp only[a7S];omega) (Al W b);simp only[a6w]at v;have Q:(storeCells ⟨x,k,none⟩ (Builtin.zeroCells c.cells b).toList).run m l= .ok () (l.setRow x (dh y k (Builtin.zeroCells c.cells b).toList)):=by rw[v];rfl
  cases r with
  |bA x k b F I k7 X=>
   cases b with
   |zero=>
    have Y:(Builtin.zeroCells c.cells 0).toList= []:=a4B (by simp[size_zeroCells]);have Z:dh y k []=y:=by simp[dh]
    rw[Y,Z];have j9:=setRow_self l x y T (0,0) t;simp[execOp,C,resolve,invoke,builtin,E,Builtin.clear_,run_underlying D,j9]
   |succ b=>simp[execOp,C,resolve,invoke,builtin,E,Builtin.clear_,run_underlying D,zeroValue,w,A,typeInfo,Q]
 .rename_i k8 L;rw[L]at r;obtain rfl:=a4v d;have k0:(execOp a.eval o).run m l= .ok (.value (.tuple #[])) l:=by
   cases r with
   |dg k1 F dm bW k2=>cases k1<;>simp[execOp,C,resolve,invoke,builtin,E,Builtin.clear_,run_underlying D]
   |J k9 k len F l0 l1 xs dm e q X l2 n hH l3 k2=>simp_all [execOp,resolve,invoke,builtin,Builtin.clear_,run_underlying]
  exact .same g k0 (.undef _) z
 .cases d
theorem Ic (G:aY u e5 n) (K:Holds u f l) (c:bN f e n=some (i,g)) (y:Program) (b:Nat) (x:b<=i):
  ∃z:List Value,(Builtin.firstCells e b e5).run y l= .ok z.toArray l/\br u z.toArray (g.take (b*e))/\(g.take (b*e)).length=b*e:=by
 have L: ∀(P) (S) (T),aY u P S->bN f e S=some (b,T)->T=g.take (b*e)->(Builtin.firstCells e b P).run y l=(Builtin.firstCells e b e5).run y l->
   ∃z:List Value,(Builtin.firstCells e b e5).run y l= .ok z.toArray l/\br u z.toArray (g.take (b*e))/\(g.take (b*e)).length=b*e:=by
  intro P S T M V t N;obtain⟨O,v,Q,k4,_⟩:=vS M K V y;refine⟨O,by rw[<-N];exact v.cells,?_,by rw[<-t,<-Q];exact v.size⟩;rw[<-t];refine br.dP.2 ⟨by trivial,λC k5 W k6 k7=> ?_⟩;grind
 have k8:=c;unfold bN at c;split at c
 .rename_i p w;split at c
  case isFalse=>cases c
  rename_i k9;simp only[a4H,a5G]at c;obtain⟨rfl,rfl⟩:=c;have l0: ∀D∈p,D.cells.length=e:=by simp_all
  cases G with
  |dg X d w bW Y=>simp only[a4G,Nat.le_zero]at x;subst x;exact⟨[],by cases X<;>simp[Builtin.firstCells,loadCells,loadCellsFrom],⟨a9a,λC W c=>by simp at c⟩,a9a⟩
  |J A r len d j Z p w hk hlen B H l1 hH l2 Y=>
   subst hlen;have j9: ∀D∈p.take b,D.cells.length=j:=λD k0=>H D (a4K k0);have k1:=((fU b H).2).symm;by_cases I:p= []
   .subst I;simp only[a4G,Nat.le_zero]at x;subst x;exact⟨[],by simp[Builtin.firstCells,loadCells,loadCellsFrom],⟨a9a,λC W c=>by simp at c⟩,a9a⟩
   obtain rfl:j=e:=by
    match p,I with
    |l3::l4,_=>simp_all
   refine L (.slice (some ⟨A,r,none⟩) b d) (.J (p.take b) .any) (flat (p.take b)) (.J A r b d j Z (p.take b) .any hk a9b a8Z j9 (λl5 F=> ?_) (λC k2=>hH C (a5J k2 (a4L _ x))) (λC W l6=> ?_) trivial) ?_ k1 rfl;grind;grind
   .unfold bN;simp_all
 .rename_i k E d h;split at c
  case h_2=>cases c
  rename_i m q;split at c
  case isFalse=>cases c
  rename_i F;simp only[a4H,a5G]at c;obtain⟨rfl,rfl⟩:=c;obtain⟨rfl,k3⟩:=F;have V:b*h<=E*h:=a4L _ x;cases G with
  |an k E d h s B=>refine L (.slice (some ⟨k,0,none⟩) b d) (.an k b d h) (m.take (b*h)) (.an k b d h s a8Z) ?_ (by grind) rfl;simp only[bN,q];grind
 .rename_i k r E d h;split at c
  case h_2=>cases c
  rename_i m q;split at c
  case isFalse=>cases c
  rename_i F;simp only[a4H,a5G]at c;obtain⟨rfl,rfl⟩:=c;obtain⟨rfl,k3⟩:=F;have V:b*h<=E*h:=a4L _ x;cases G with
  |bA k r E d h s B=>refine L (.slice (some ⟨k,r,none⟩) b d) (.bA k r b d h) ((m.drop r).take (b*h)) (.bA k r b d h s a8Z) ?_ (by grind) rfl;simp only[bN,q];grind
 .cases c
theorem Ie (M k2:TypeId) (D E:Operand) (i:o.op= .call {callee:= .builtin .copy,args:= #[D,E],argTypes:= #[M,k2]}) (n:TypeId) (q:m.underlying M=some (.slice n)) (d:Nat) (k3:(m.info? n).map (·.size)=some d)
  (k4:aQ D=true) (k5:aQ E=true) (N:bK u a j) (V:Holds u f l) (t:G ⟨m,s⟩ (.mG d D E) j f a7):bQ m s o a l u f a7:=by
 have y:=N.ak D k4;have O:=N.ak E k5;simp only[G]at t;generalize W:a.eval D=k6 at y;split at t
 case h_2=>trivial
 rename_i l8 l9 c;unfold lN at c;split at c
 case h_2=>cases c
 rename_i p z Q;obtain⟨n0,e,n1,n2,k7⟩:=vS O V Q m;have n3:=e.size;have n4:z.length=p*d:=a8Z;have X: ∀b,∃r:Array Value,(Builtin.firstCells d (min p b) (a.eval E)).run m l= .ok r l/\br u r (z.take (b*d))/\(z.take (b*d)).length=min p b*d:=by intro b;obtain⟨r,n5,n9,a00⟩:=Ic O V Q m (min p b) a8Z;grind[min,Nat.mul_le_mul_right,Nat.min_eq_left,List.take_of_length_le,Nat.min_eq_right]
 have k8: ∃v,m.info? n=some v/\v.size=d:=by simp_all
 obtain⟨v,w,A⟩:=k8;have a01: ∀(h k b x) (C),k6= .slice (some ⟨h,k,none⟩) b x->f h=some (.cells C)->k+b*d<=C.length->
   a7 (.v (.int .i64 (min p b:Nat))) (f.set h (.cells (putAt C k (z.take (b*d)))))->bQ m s o a l u f a7:=by
  intro h k b x C k9 B Y l0;obtain⟨r,F,L,g⟩:=X b;have H: ∀I∈z.take (b*d),I.one=true:=λI P=>k7 I (a4K P);have a02:min p b*d<=b*d:=a4L _ a8Z;obtain⟨Z,T,l1,a03,l2⟩:=Step.store V B k (z.take (b*d)) r L H a8Z;refine .value ?_ l2 (.v _ rfl) l0;have j9:=run_storeCells_at m h k T r.toList 0 Z l l1 (by have:=L.1;simp;omega) (L.nI H);simp only[a6w]at j9;have l3:(storeCells ⟨h,k,none⟩ r.toList).run m l= .ok () (l.setRow h (dh Z k r.toList)):=by rw[j9];rfl
  have k0:Nat.min p b=min p b:=rfl;rw[k9]at W;simp[execOp,i,resolve,invoke,builtin,W,Builtin.copy_,run_underlying q,e.len,sizeOf,typeInfo,w,A,F,l3,goInt]
 split at c
 .rename_i h k b x K S;rw[S]at y;split at c
  case h_2=>cases c
  rename_i C B;split at c
  case isFalse=>cases c
  rename_i P;obtain⟨rfl,Y⟩:=P;simp only[a4H,a5G]at c;obtain⟨rfl,rfl⟩:=c;cases y with
  |bA h k b x K l4 k1=>grind
 .rename_i h b x K S;rw[S]at y;split at c
  case h_2=>cases c
  rename_i C B;split at c
  case isFalse=>cases c
  rename_i P;obtain⟨rfl,Y⟩:=P;simp only[a4H,a5G]at c;obtain⟨rfl,rfl⟩:=c;cases y with
  |an h b x K l4 k1=>simp_all
 .rename_i a04 S;rw[S]at y;simp only[a4H,a5G]at c;obtain⟨rfl,rfl⟩:=c;have c:(execOp a.eval o).run m l= .ok (.value (.int .i64 0)) l:=by
   obtain⟨r,F,L,g⟩:=X 0;have k0:Nat.min p 0=0:=Nat.min_zero p;rw[Nat.min_zero]at F;have l5:=a7P (by have:=L.1;simp at this;simpa using this);subst l5;cases y with
   |dg l6 x dm bW l7=>cases l6<;>simp[execOp,i,resolve,invoke,builtin,W,Builtin.copy_,run_underlying q,e.len,sizeOf,typeInfo,w,A,k0,F,goInt,storeCells]
   |J a05 k len x d a06 xs dm k3 g k1 a07 H hH a08 l7=>simp at g;subst g;simp[execOp,i,resolve,invoke,builtin,W,Builtin.copy_,run_underlying q,e.len,sizeOf,typeInfo,w,A,F,goInt,storeCells]
  exact .same V c (.v _ rfl) t
 .cases c
theorem Ig (y:FuncId) (h:Func) (k p:Operand) (M:Array TypeId) (N:o.op= .call {callee:= .value (.func y),args:= #[k,p],argTypes:=M}) (O:m.funcs[y]? =some h) (Q:(h.name== "runtime.NumGoroutine")=false) (X:h.body.isNone=true) (Y:Extern.findNext h=none)
  (c:TypeId) (C:Array TypeId) (Z:Extern.find h=some (Extern.SlicesOverlaps.overlaps #[c,c] C)) (r:TypeId) (j9:m.underlying c=some (.slice r)) (D:Nat) (k0:(m.info? r).map (·.size)=some D)
  (k1:aQ k=true) (k2:aQ p=true) (w:bK u a j) (A:Holds u f l) (E:G ⟨m,s⟩ (.mI k p) j f a7):bQ m s o a l u f a7:=by
 have B:=w.ak k k1;have H:=w.ak p k2;simp only[G]at E;generalize k3:a.eval k=n9 at B;generalize k4:a.eval p=a00 at H;split at E
 case h_2=>trivial
 rename_i a01 d;unfold kQ at d;split at d
 case h_2=>cases d
 rename_i F L k5 k6;split at d
 case isFalse=>cases d
 rename_i k7;obtain⟨k8,k9,l0⟩:=k7;obtain rfl:=a4v d;have I: ∀(P:R) (S:Value) (b:Nat),cK P=some b->aY u S P-> ∃l1 l2 l3,S= .slice (some ⟨b,l1,none⟩) l2 l3:=by
  intro P S b x V;cases V<;>simp only[cK,a4H,reduceCtorEq]at x
  .subst x;simp
  .subst x;simp
 have K: ∀b,kl f b=true-> ∃z T,l.heap[b]? =some (.cells z T (0,0))/\z.size≠0:=by
  intro b W;unfold kl at W;split at W
  .rename_i a02 a03 l4;obtain⟨_,z,T,x,V,_⟩:=A.dO b _ l4;exact⟨z,T,x,by rw[V.1];simp⟩
  .cases W
 obtain⟨e,g,i,rfl⟩:=I _ _ _ k5 B;obtain⟨n,q,c2,rfl⟩:=I _ _ _ k6 H;obtain⟨l5,l6,t,a04⟩:=K _ k9;obtain⟨l7,l8,l9,n0⟩:=K _ l0;have n1: ∀l,(Go.sizeOf r).run m l= .ok D l:=by
  intro l;cases n2:m.info? r with
  |none=>simp[n2]at k0
  |some ii=>simp_all [sizeOf,typeInfo]
 have n3:=Lib.run_overlaps_apart l c (C.getD 0 0) r j9 D n1 ⟨F,e,none⟩ ⟨L,n,none⟩ g i q c2 k8 l6 l8 l5.size l7.size (by simp[World.shape?,t]) (by simp[World.shape?,l9]) n0 (by simp[World.frozen?,t]) (by simp[World.frozen?,t]);have n4:(Extern.SlicesOverlaps.overlaps #[c,c] C #[.slice (some ⟨F,e,none⟩) g i,.slice (some ⟨L,n,none⟩) q c2]).run m l= .ok (.bool false) l:=n3;have v:=run_callFunc_extern O Q X Y Z #[.slice (some ⟨F,e,none⟩) g i,.slice (some ⟨L,n,none⟩) q c2] l;rw[n4]at v;simp only[Result.andThen_ok]at v;refine .same A ?_ (.v _ rfl) E;have n5:a.eval (.func y)= .func (.func y) #[] #[]:=rfl;simp[execOp,N,resolve,n5,Deferred.ofValue,invoke,k3,k4,v]
def Ar (h:World) (x y E p:TypeId) (d:TypeInfo) (r:Value) (F:IntKind) (G:m.underlying x=some (.slice p)) (L:m.underlying y=some (.int F))
  (P:m.info? p=some d) (S:d.zero=some r) (z:Option Addr) (c k:Nat) (C:List Value) (u:0<d.size)
  (T:(Builtin.firstCells d.size c (.slice z c k)).run m h.drew= .ok C.toArray h.drew)
  (b:Nat) (v:0<b) (V:k<c+b) (w:((c+b:Nat):Int)<=9223372036854775807) (W:(c+b)*d.bytes<=140737488355328):
  (Builtin.append_ #[x,y] E #[.slice z c k,.int .i64 b]).run m h=
   .ok (.slice (some ⟨h.heap.size,0,none⟩) (c+b) (grownCap h (c+b) k p))
    (h.drew.alloc (.cells (C.toArray++Builtin.zeroCells r.cells b++Builtin.zeroCells r.cells (grownCap h (c+b) k p -(c+b))) p)):=by
 have e: ¬(c+b<=k):=a8Z;have f: ¬(9223372036854775807<((c)+(b:Int))):=a8Z;have g: ¬(281474976710656<Builtin.nextslicecap (c+b) k*d.bytes):=by have:=growslice_fits V W;omega
 have i:IntKind.i64.wrap (b)=b:=by rw[IntKind.wrap_i64];omega
 have j: ¬((b:Int)<0):=a8Z;have A:b*d.bytes<=(c+b)*d.bytes:=a4L _ a8Z;have l: ¬(281474976710656<(b)*(d.bytes:Int)):=by rw[<-Int.natCast_mul];omega
 have D:b≠0:=a8Z;have n: ¬(b*d.size=0):=Nat.mul_ne_zero D a8Z;have q:=λs=>run_underlying L s;have t: ¬(d.size=0):=a8Z;simp[Builtin.append_,run_underlying G,q,sizeOf,typeInfo,zeroValue,P,S,asInt,asIntOf,i,j,e,n,D,t,f,g,l,Question.forced,T,newRow,grownCap]
theorem Ih (r x:Operand) (z C:TypeId) (t:IntKind) (k0:m.underlying C=some (.int t)) (k1:o.op= .call {callee:= .builtin .append,args:= #[r,x],argTypes:= #[z,C]}) (k:TypeId) (k2:m.underlying z=some (.slice k)) (d:TypeInfo) (k3:m.info? k=some d) (p:Value) (k4:d.zero=some p)
  (w:p.cells.size=d.size) (k5: ∀r∈p.cells.toList,r.oneCell'=true) (y:0<d.size) (l3:aQ r=true) (l4:aQ x=true) (k6:bK u a j) (P:Holds u f l) (S:G ⟨m,s⟩ (.mH d.size d.bytes (p.cells.toList.map cT) r x) j f a7):bQ m s o a l u f a7:=by
 have D:=k6.ak r l3;have V:=k6.ak x l4;simp only[G]at S;generalize k7:a.eval r=l5 at D;generalize k8:a.eval x=a01 at V;have newRow: ∀(A:List Value) (b c h) (e),br u A.toArray e->(∀W∈e,W.one=true)->b+c<=h->
   ∃E:List R,E.length=(h -(b+c))*d.size/\Step u f l u (f.set l.heap.size (.cells (e++(List.replicate c (p.cells.toList.map cT)).flatten++E))) (l.drew.alloc (.cells (A.toArray++Builtin.zeroCells p.cells c++Builtin.zeroCells p.cells (h -(b+c))) k)):=by
  intro A b c h e B H I;obtain⟨l6,a02⟩:=vW w k5 y c;obtain⟨l7,a03⟩:=vW w k5 y (h -(b+c));refine⟨(List.replicate (h -(b+c)) (p.cells.toList.map cT)).flatten,by rw[kS];simp[w],?_⟩;refine(Step.drew P).trans (Step.new P.drew _ k _ (λW g=> ?_) (br.append (br.append B l6) l7));grind
 split at S
 .rename_i i b h a04 c K M;rw[K]at D;rw[M]at V;obtain rfl:=V.dQ;split at S
  case h_2=>trivial
  rename_i N l8;obtain⟨rfl,l9,k9,n0,O,n1,Q⟩:=S;obtain⟨H,X,T,a05,a06,l0⟩:=P.read l8;have a07:=l0.1;have Y:=a6a k9;cases D with
  |an i b h n2 a08 I=>
   have a09:b*d.size<=N.length:=by rw[l9];exact a4L _ I
   have n3:(X.toList.take (b*d.size)).length=b*d.size:=a9b;have n4:(Builtin.firstCells d.size b (.slice (some ⟨i,0,none⟩) b h)).run m l.drew= .ok (X.toList.take (b*d.size)).toArray l.drew:=by
    refine run_firstCells_some l.drew d.size b ⟨i,0,none⟩ b h _ n3 (λl1 v D=> ?_);have a10:l1<b*d.size:=by grind
    rw[hj,a4W];show l.cell? _= _;grind[cell_of_row,List.getElem?_take_of_lt]
   have F:=Ar l z C o.type k d p t k2 k0 k3 k4 (some ⟨i,0,none⟩) b h _ y n4 c.toNat a8Z n0 a8Z O;rw[Y]at F;have L:=grownCap_ge l (b+c.toNat) h k;have Z:=grownCap_le_maxLen l (b+c.toNat) h k (by unfold maxLen;omega);have B:br u (X.toList.take (b*d.size)).toArray (N.take (b*d.size)):=by rw[br.dP]at l0|-;grind
   obtain⟨E,n,q⟩:=newRow _ b c.toNat (grownCap l (b+c.toNat) h k) (N.take (b*d.size)) B (λW g=>H W (a4K g)) L;exact .value (iP r x z C k1 (by rw[k7,k8];exact F)) q (.an _ _ _ _ y L) (Q _ _ E P.ec L Z n)
 .rename_i n5 l2 c K M;rw[K]at D;rw[M]at V;obtain rfl:=V.dQ;obtain⟨rfl,rfl,k9,O,n1,Q⟩:=S;have Y:((c.toNat))=c:=a6a a8Z;have n9:l5= .slice none 0 0:=by
   cases D with
   |dg a11 h l2 bW j9=>simp only[Own.lE]at j9;subst j9;rw[bW rfl]
   |J a13 off len h n2 a14 n5 l2 y hlen I a15 H hH a16 j9=>trivial
  subst n9;have F:=Ar l z C o.type k d p t k2 k0 k3 k4 none 0 0 [] y a9f c.toNat a8Z a8Z a8Z (by simpa using O);rw[Y]at F;simp only[a4W]at F;have L:=grownCap_ge l c.toNat 0 k;have Z:=grownCap_le_maxLen l c.toNat 0 k (by unfold maxLen;omega);obtain⟨E,n,q⟩:=newRow [] 0 c.toNat (grownCap l c.toNat 0 k) [] ⟨rfl,λl1 a18 a00=>by simp at a00⟩ (λW g=>by simp at g) a8Z;simp only[a4W,a4P]at q n;exact .value (iP r x z C k1 (by rw[k7,k8];exact F)) q (.an _ _ _ _ y L) (Q _ _ E P.ec L Z n)
 .trivial
end
def km (a:Program) (b:TypeId):Option Nat:=(a.info? b).map (·.size)
def placeOf (a:Program) (h:TypeId) (b:Nat):Option (Nat×Nat):=
 match a.underlying h with
 |some (.struct k)=>(k.toList.mapM (λc=>(a.info? c.type).map λo=>(c.offset,o.size))).bind λp=>p[b]?
 |some (.array _ r)=>(a.info? r).map λd=>(b*d.size,d.size)
 | _=>none
def vX (a:Program) (c:TypeId):Bool:=
 match a.underlying c with
 |some (.struct d)=>(d.toList.mapM (λb=>(a.info? b.type).map λh=>(b.offset,h.size))).isSome
 |some (.array _ k)=>(a.info? k).isSome
 | _=>false
def ry (b:Program) (c:TypeId):Option (Array Value):=
 match b.info? c with
 |some d=>match d.zero with
  |some a=>if a.cells.toList.all (·.oneCell')then some a.cells else none
  |none=>none
 |none=>none
def As (b:Program) (c:TypeId) (a:Nat×Operand):Option (Nat×Nat×Operand):=
 match placeOf b c a.1 with
 |some (off,cm)=>if 0<cm/\aQ a.2=true then some (off,cm,a.2)else none
 |none=>none
def rz (a:Program) (b:TypeId):List (Nat×Operand)->Option (List (Nat×Nat×Operand))
 | []=>some []
 |c::d=>match As a b c,rz a b d with
  |some h,some k=>some (h::k)
  | _,_=>none
def rA:Nat->List (Nat×Operand)->Option (List Operand)
 | _,[]=>some []
 |a,(c,b)::d=>if a=c/\aQ b=true then(rA (a+1) d).map (b:: ·)else none
def Au (a:Program) (b:TypeId) (c:Operand):Option cb:=
 match a.underlying b,km a b with
 |some d,some h=>if aQ c=true/\(d.isRow=true\/h=1)then some (.load d.isRow h c)else none
 | _,_=>none
structure Env where
 jt:List Nat
 Av:List Nat
 wr:List Nat
 ts:List Nat
 ty:Bool
 lP:Bool
 pins:List Nat:= []
 Aw:Bool:=false
 vY:Bool:=false
def Env.Ii (a:Env):Operand->Bool
 | .tmp b=>a.Av.contains b
 | _=>false
def Env.fD (a:Env):Option Nat->Bool
 |some b=> !a.wr.contains b
 |none=>true
def Env.mut (a:Env):Option Nat->Bool
 |some b=>a.ts.contains b
 |none=>false
def Env.box (a:Env):Option Nat->Bool
 |some b=>a.jt.contains b
 |none=>false
def vZ (h:Program) (o:Env) (r:Option Nat) (x:TypeId) (a:Operand) (c d y:Option Operand):Option cb:=
 if aQ a=true/\c.all aQ=true/\d.all aQ=true then
  match h.underlying x,y with
  |some (.slice k),none=>match km h k with
   |some b=>some (.oO b a c d)
   |none=>none
  |some (.array p k),none=>match km h k with
   |some b=>if 0<b then some (if o.Ii a=true then .ju b p a c d else .kf b p a c d (o.fD r))else none
   |none=>none
  | _,_=>none
 else none
def tt (a:Program) (b:Bool) (c:TypeId) (d h:Operand):Option cb:=
 match a.underlying c with
 |some .bool=>none
 |some (.slice _)=>match h with
  | .const (.slice none 0 0)=>some (.mB b d)
  | _=>none
 |some (.pointer k)=>match a.info? k with
  |some o=>if o.size≠0 then some (.pY b d h)else none
  |none=>none
 |some (.int _)=>some (.bin (if b then .neq else .eql) d h)
 |some .string=>some (.bin (if b then .neq else .eql) d h)
 |some p=>match flatK a 20 c with
  |some bI=>if a.cellsOf c=bI.length/\(a.info? c).isSome=true/\p.isRow=true/\a.eqGuardType a.depth c=false then some (.eqv b (mK bI) d h)else none
  |none=>none
 |none=>none
def w0 (d:Program) (x:Env) (y:Option Nat) (k:Call):Option cb:=
 match k.callee,k.args.toList,k.argTypes.toList with
 | .value (.func p),args,_=>if gf d p=true/\args.all aQ=true then some (.fT p args)else none
 | .builtin .len,[a],[h]=>match d.underlying h with
  |some (.slice _)=>if aQ a=true then some (.len a)else none
  |some .string=>if aQ a=true then some (.pX a)else none
  | _=>none
 | .builtin .append,[a,b],[h,z]=>match d.underlying h with
  |some (.slice o)=>match d.info? o with
   |some c=>match c.zero with
    |some r=>if h=z/\r.cells.size=c.size/\0<c.size/\aQ a=true/\aQ b=true then(if x.mut y=true then(if r.cells.toList.all (·.oneCell')=true then some (.lJ c.size c.bytes a b)else none)else some (.app c.size c.bytes a b))else none
    |none=>none
   |none=>none
  | _=>none
 | .builtin .max,[a,b],_=>if aQ a=true/\aQ b=true then some (.lI true .i64 a b)else none
 | .builtin .min,[a,b],_=>if aQ a=true/\aQ b=true then some (.lI false .i64 a b)else none
 | .builtin .copy,[a,b],[h,_]=>match d.underlying h with
  |some (.slice o)=>match km d o with
   |some C=>if aQ a=true/\aQ b=true then some (.mA C a b)else none
   |none=>none
  | _=>none
 | _,_,_=>none
def w1 (b:Program) (y:Env) (x:Oper):Option cb:=
 match x.op with
 | .move a| .assign a=>if aQ a=true then some (.eZ a)else none
 | .pick z a k=>if aQ z=true/\aQ a=true/\aQ k=true then some (.pick z a k)else none
 | .alloc T=>match ry b T with
  |some o=>some (.alloc T (o.toList.map cT))
  |none=>none
 | .box T a=>if aQ a=true then some (if y.box x.dst=true then .kd T a else .box T a)else none
 | .load d a=>Au b d a
 | .store d a k=>match km b d with
  |some r=>if 0<r/\aQ a=true/\aQ k=true then some (.store r a k)else none
  |none=>none
 | .nilCheck a=>if aQ a=true then some (.pU a)else none
 | .fieldAddr d a c=>match b.underlying d with
  |some (.struct D)=>match D[c]? with
   |some fd=>match km b fd.type with
    |some r=>if r≠0/\aQ a=true then some (.kO fd.offset a)else none
    |none=>none
   |none=>none
  | _=>none
 | .indexAddr d a c=>if aQ a=true/\aQ c=true then
   match b.underlying d with
   |some (.array len h)=>match km b h with
    |some p=>some (.pV p len a c)
    |none=>none
   |some (.slice h)=>match km b h with
    |some p=>some (.dG p a c)
    |none=>none
   | _=>none
  else none
 | .field _ _ _=>none
 | .index d a c=>if aQ a=true/\aQ c=true then
   match b.underlying d with
   |some (.array len h)=>match b.underlying h,km b h with
    |some C,some p=>if C.isRow=true\/p=1 then some (.pW C.isRow p len a c)else none
    | _,_=>none
   |some .string=>some (.lG a c)
   | _=>none
  else none
 | .build d parts=>match ry b d,rz b d parts.toList with
  |some o,some res=>if vX b d=true then some (.lH (o.toList.map cT) res)else none
  | _,_=>none
 | .buildSlice d r parts=>match b.underlying d,rA 0 parts.toList with
  |some (.slice h),some xs=>match b.info? h with
   |some c=>match c.zero with
    |some o=>if o.cells.size=c.size/\o.cells.toList.all (·.oneCell')=true/\0<c.size/\r*c.size<=2^24/\xs.length=r then some (if y.mut x.dst=true then .kh c.size xs else .ke c.size xs)else none
    |none=>none
   |none=>none
  | _,_=>none
 | .slice d a aU aV E=>vZ b y x.dst d a aU aV E
 | .binOp op d a k _=>if aQ a=true/\aQ k=true then
   match op with
   | .eql=>tt b false d a k
   | .neq=>tt b true d a k
   |op=>some (.bin op a k)
  else none
 | .unOp op _ a=>if aQ a=true then some (.un op a)else none
 | .convert st F a=>match b.underlying st,b.underlying F with
  |some (.int _),some (.int p)=>if aQ a=true then some (.iN p a)else none
  |some (.slice h),some .string=>match b.underlying h with
   |some (.int .u8)=>if aQ a=true then some (.pZ a)else none
   | _=>none
  |some .string,some (.slice h)=>match b.underlying h with
   |some (.int .u8)=>if aQ a=true then some (.q0 a)else none
   | _=>none
  | _,_=>none
 | .makeSlice d a k=>match b.underlying d with
  |some (.slice h)=>match b.info? h with
   |some c=>match c.zero with
    |some o=>if o.cells.size=c.size/\o.cells.toList.all (·.oneCell')=true/\0<c.size/\aQ a=true/\aQ k=true then some (.kg c.size c.bytes (o.cells.toList.map cT) a k)else none
    |none=>none
   |none=>none
  | _=>none
 | .extract a c=>if aQ a=true then some (.ext a c)else none
 | .call z=>w0 b y x.dst z
 | _=>none
variable{e3:cb}{I:Bool}{Z e9:Operand}{b0:Type}{b2:TypeId}
section
variable  {o:Oper}{a:Act}   
def w2 {b:TypeDesc} (c:b.isRow=true\/e=1):b.isRow=false->e=1:=λd=>c.resolve_left (by simp[d])
theorem w3 (c:ry m b2=some j8): ∃b v,m.info? b2=some b/\b.zero=some v/\v.cells=j8/\ ∀d∈j8.toList,d.oneCell'=true:=by unfold ry at c;grind
theorem Ij (c:ry m b2=some j8) (d:vX m b2=true) (b:List (Nat×Value)):m.built b2 b=Instr.fill (placeOf m b2) j8 b:=by obtain⟨h,v,k,p,rfl,_⟩:=w3 c;unfold vX at d;unfold Program.built placeOf;grind[Option.isSome_iff_exists]
theorem Ax {x:TypeId}: ∀ {r:List (Nat×Operand)}{res:List (Nat×Nat×Operand)},rz m x r=some res->r.length=res.length/\
  ∀(d:Nat) (h:Nat×Operand) (b:Nat×Nat×Operand),r[d]? =some h->res[d]? =some b->placeOf m x h.1=some (b.1,b.2.1)/\h.2=b.2.2/\aQ h.2=true/\0<b.2.1
 | [],res,c=>by
  simp only[rz,a4H]at c;simp_all
 |h::r,res,c=>by
  simp only[rz]at c;split at c
  case h_2=>cases c
  rename_i b D y z;obtain rfl:=a4v c;obtain⟨C,E⟩:=Ax z;refine⟨by simp[C],λd F G k p=> ?_⟩
  match d,k,p with
  |0,k,p=>simp only[a6h,a4H]at k p;subst k;subst p;unfold As at y;grind
  |d+1,k,p=>grind
theorem Ay: ∀ {d:Nat}{h:List (Nat×Operand)}{c:List Operand},rA d h=some c->h=(c.zipIdx d).map (λk=>(k.2,k.1))/\ ∀p∈c,aQ p=true
 |d,[],c,b=>by
  simp only[rA,a4H]at b;simp_all
 |d,(x,p)::y,c,b=>by
  simp only[rA]at b;split at b
  case isFalse=>cases b
  rename_i z;obtain⟨C,r,rfl⟩:=a7c.1 b;obtain⟨D,E⟩:=Ay r;simp_all
def q5 {b:Array b0}{c:b0} (d:b.toList= [c]):b= #[c]:=a8g.1 d
def iQ {b:Array b0}{c d:b0} (h:b.toList= [c,d]):b= #[c,d]:=a8g.1 h
theorem Ik {P:Env}{S:Option Nat}{d h E:Option Operand} (z:o.op= .slice b2 Z d h E) (b:vZ m P S b2 Z d h E=some e3) (C:bK u a j) (D:Holds u f l) (k:G ⟨m,s⟩ e3 j f a7):bQ m s o a l u f a7:=by
 unfold vZ at b;split at b
 case isFalse=>cases b
 rename_i c;split at b
 .rename_i p r;split at b
  case h_2=>cases b
  rename_i x y;obtain rfl:=a4v b;exact HF b2 Z d h z p r x y c.1 c.2.1 c.2.2 C D k
 .rename_i F p r;split at b
  case h_2=>cases b
  rename_i x y;split at b
  case isFalse=>cases b
  rename_i L;obtain rfl:=a4v b;split at k
  .exact HM b2 Z d h z F p r x y L c.1 c.2.1 c.2.2 C D k
  .exact Ag b2 Z d h z F p r x y L _ c.1 c.2.1 c.2.2 C D k
 .cases b
theorem Az {c:TypeId} (d:o.op= .binOp (if I then .neq else .eql) b2 Z e9 c) (h:aQ Z=true) (y:aQ e9=true) (b:tt m I b2 Z e9=some e3) (k:bK u a j) (p:Holds u f l) (r:G ⟨m,s⟩ e3 j f a7):bQ m s o a l u f a7:=by
 unfold tt at b;split at b
 .cases b
 .rename_i z x;split at b
  .obtain rfl:=a4v b;exact HQ I b2 Z c d z x h k p r
  .cases b
 .rename_i z x;split at b
  .rename_i D E;split at b
   .rename_i C;obtain rfl:=a4v b;exact HD I b2 Z e9 c d z x D E C h y k p r
   .cases b
  .cases b
 .obtain rfl:=a4v b;exact vP _ b2 Z e9 c d h y k p r
 .obtain rfl:=a4v b;exact vP _ b2 Z e9 c d h y k p r
 .rename_i F _ _ _ _ _ x;split at b
  case h_2=>cases b
  rename_i L P;split at b
  case isFalse=>cases b
  rename_i C;obtain rfl:=a4v b;grind[HC]
 .cases b
theorem Il {V:Env}{W:Option Nat}{P:Call} (D:o.op= .call P) (b:w0 m V W P=some e3) (E:bK u a j) (F:Holds u f l) (L:G ⟨m,s⟩ e3 j f a7):bQ m s o a l u f a7:=by
 obtain⟨A,B,H⟩:=P;unfold w0 at b;split at b
 .rename_i I c;simp only at c;subst c;split at b
  case isFalse=>cases b
  rename_i h;obtain rfl:=a4v b;obtain⟨y,S⟩:=h;unfold gf at y;split at y
  case h_2=>cases y
  rename_i K M;simp only[a4A,bne_iff_ne,ne_eq]at y;grind[HE,List.all_eq_true]
 .rename_i k x c d p;simp only at c d p;subst c;obtain rfl:=q5 d;obtain rfl:=q5 p;split at b
  .rename_i z r;split at b
   case isFalse=>cases b
   rename_i h;obtain rfl:=a4v b;exact Hw x k D z r h E F L
  .rename_i r;split at b
   case isFalse=>cases b
   rename_i h;obtain rfl:=a4v b;exact Hx x k D r h E F L
  .cases b
 .rename_i k C x T c d p;simp only at c d p;subst c;obtain rfl:=iQ d;obtain rfl:=iQ p;split at b
  case h_2=>cases b
  rename_i z r;split at b
  case h_2=>cases b
  rename_i e g;split at b
  case h_2=>cases b
  rename_i i n;split at b
  case isFalse=>cases b
  rename_i h;obtain⟨rfl,y,S,q,t⟩:=h;split at b
  .split at b
   case isFalse=>cases b
   rename_i N;obtain rfl:=a4v b;exact Am k C x x _ r (.inl ⟨z,rfl⟩) D z r e g i n y (by grind) S q t E F L
  .obtain rfl:=a4v b;grind[HJ]
 .rename_i k C c d;simp only at c d;subst c;obtain rfl:=iQ d;split at b
  case isFalse=>cases b
  rename_i h;obtain rfl:=a4v b;grind[An]
 .rename_i k C c d;simp only at c d;subst c;obtain rfl:=iQ d;split at b
  case isFalse=>cases b
  rename_i h;obtain rfl:=a4v b;grind[An]
 .rename_i k C x T c d p;simp only at c d p;subst c;obtain rfl:=iQ d;obtain rfl:=iQ p;split at b
  case h_2=>cases b
  rename_i z r;split at b
  case h_2=>cases b
  rename_i v w;split at b
  case isFalse=>cases b
  rename_i h;obtain rfl:=a4v b;exact HP x T k C D z r v w h.1 h.2 E F L
 .cases b
theorem Im {K:Env} (b:w1 m K o=some e3) (x:bK u a j) (p:Holds u f l) (r:G ⟨m,s⟩ e3 j f a7):bQ m s o a l u f a7:=by
 unfold w1 at b;split at b
 case h_1 d c=>split at b;(rename_i y;obtain rfl:=a4v b;exact Ac d (.inl c) y x p r);(cases b)
 case h_2 d c=>split at b;(rename_i y;obtain rfl:=a4v b;exact Ac d (.inr c) y x p r);(cases b)
 case h_3 M d S c=>split at b;(rename_i y;obtain rfl:=a4v b;grind[Hn]);(cases b)
 case h_4 T c=>
  split at b
  .rename_i i L;obtain rfl:=a4v b;obtain⟨z,v,g,B,rfl,n⟩:=w3 L;exact Hl T c z g v B n p r
  .cases b
 case h_5 T d c=>
  split at b
  .rename_i y;obtain rfl:=a4v b;grind[HL,Hm]
  .cases b
 case h_6 k d c=>
  unfold Au at b;split at b
  .rename_i q P C V;split at b
   .rename_i h;obtain rfl:=a4v b;exact Hi k d c q C P V (w2 h.2) h.1 x p r
   .cases b
  .cases b
 case h_7 k d S c=>
  split at b
  .rename_i P V;split at b
   .rename_i h;obtain rfl:=a4v b;exact Hk k d S c P V h.1 h.2.1 h.2.2 x p r
   .cases b
  .cases b
 case h_8 d c=>split at b;(rename_i y;obtain rfl:=a4v b;exact Ho d c y x p r);(cases b)
 case h_9 k d z c=>
  split at b
  .rename_i N C;split at b
   .rename_i O Q;split at b
    .rename_i P V;split at b
     .rename_i h;obtain rfl:=a4v b;exact Hp k d z c N C O Q P V h.1 h.2 x p r
     .cases b
    .cases b
   .cases b
  .cases b
 case h_10 k d z c=>
  split at b
  case isFalse=>cases b
  rename_i h;split at b
  .rename_i len D C;split at b
   .rename_i E W;obtain rfl:=a4v b;exact Hq k d z c len D C E W h.1 h.2 x p r
   .cases b
  .rename_i D C;split at b
   .rename_i E W;obtain rfl:=a4v b;exact Hr k d z c D C E W h.1 h.2 x p r
   .cases b
  .cases b
 trivial
 case h_12 k d z c=>
  split at b
  case isFalse=>cases b
  rename_i h;split at b
  .rename_i len D C;split at b
   .rename_i q E F W;split at b
    .rename_i X;obtain rfl:=a4v b;exact Ht k d z c len D C q F E W (w2 X) h.1 h.2 x p r
    .cases b
   .cases b
  .rename_i C;obtain rfl:=a4v b;exact Hu k d z c C h.1 h.2 x p r
  .cases b
 case h_13 k H c=>
  split at b
  .rename_i i res L Y;split at b
   .rename_i Z;obtain rfl:=a4v b;obtain⟨z,v,g,B,rfl,n⟩:=w3 L;obtain⟨j9,k0⟩:=Ax Y;exact HH k H c (placeOf m k) _ res (Ij L Z) n j9 k0 x p r
   .cases b
  .cases b
 case h_14 k P H c=>
  split at b
  .rename_i D k4 C k1;split at b
   .rename_i z g;split at b
    .rename_i i L;split at b
     .rename_i h;obtain rfl:=a4v b;obtain⟨k5,k6⟩:=Ay k1;grind[HI,List.all_eq_true,Ak]
     .cases b
    .cases b
   .cases b
  .cases b
 grind[Ik]
 case h_16 I k d S k2 c=>
  split at b
  case isFalse=>cases b
  rename_i h;split at b;grind[Az];grind[Az]
  .obtain rfl:=a4v b;exact vP _ k d S k2 c h.1 h.2 x p r
 case h_17 I k d c=>split at b;(rename_i y;obtain rfl:=a4v b;exact HA I k d c y x p r);(cases b)
 case h_18 t w d c=>
  split at b
  .rename_i k3 E e F;split at b
   .rename_i y;obtain rfl:=a4v b;exact HB t w d c E k3 e F y x p r
   .cases b
  .rename_i D e F;split at b
   .rename_i A;split at b
    .rename_i y;obtain rfl:=a4v b;exact HN t w d c D e A F y x p r
    .cases b
   .cases b
  .rename_i D e F;split at b
   .rename_i A;split at b
    .rename_i y;obtain rfl:=a4v b;exact HR t w d c D e F A y x p r
    .cases b
   .cases b
  .cases b
 case h_19 k d S c=>
  split at b
  case h_2=>cases b
  rename_i D C;split at b
  case h_2=>cases b
  rename_i z g;split at b
  case h_2=>cases b
  rename_i i L;split at b
  case isFalse=>cases b
  rename_i h;obtain rfl:=a4v b;grind[HO,List.all_eq_true]
 case h_20 d z c=>split at b;(rename_i y;obtain rfl:=a4v b;exact Hv d z c y x p r);(cases b)
 case h_21 M c=>exact Il c b x p r
 .cases b
end
def AA (a:Program) (b:TypeId):Bool:=
 match a.underlying b with
 |some (.slice _)=>true
 |some .string=>true
 | _=>false
def w4 (b:Program) (p:Env) (r:Option Nat) (c d:Operand) (h k:TypeId):Option cb:=
 match b.underlying h with
 |some (.slice x)=>match b.info? x with
  |some a=>match a.zero with
   |some o=>if AA b k=true/\o.cells.size=a.size/\o.cells.toList.all (·.oneCell')=true/\0<a.size/\aQ c=true/\aQ d=true then
     (if h≠k/\p.mut r=true then some (.lJ a.size a.bytes c d)else none)else none
   |none=>none
  |none=>none
 | _=>none
def w5 (b:Program) (c:Env) (d:Option Nat) (a:Call):Option cb:=
 match a.callee,a.args.toList,a.argTypes.toList with
 | .value (.tmp h),args,_=>if args.all aQ=true then some (.iO (.tmp h) args)else none
 | .builtin .append,[k,o],[p,r]=>w4 b c d k o p r
 | _,_,_=>none
def AB:TypeDesc->Bool
 | .interface _=>true
 | _=>false
def Io {a:TypeDesc} (c:AB a=false): ∀b,a≠ .interface b:=λb hm=>by subst hm;cases c
def rB (a:Program) (b:TypeId) (c:List c8):Bool:=
 decide (a.cellsOf b=c.length)&&(a.info? b).isSome&&(match a.underlying b with|some (.array _ _)|some (.struct _)=>true| _=>false)
theorem AD {a:List c8} (c:flatK m 20 b2=some a) (b:rB m b2 a=true):mL m b2 (mK a):=by simp only[rB,a4A,decide_eq_true_eq]at b;obtain⟨⟨d,h⟩,k⟩:=b;refine⟨⟨20,a8Z,by rw[tr];exact c⟩,by rw[tr];exact d,h,?_⟩;grind
def w6 (a:Program) (k:Op):Option cb:=
 match k with
 | .makeMap _ none=>some .kj
 | .lookup mt b c ok=>match a.underlying mt with
  |some (.map d o)=>match flatK a 20 d,a.info? o with
   |some bI,some p=>match p.zero with
    |some h=>if rB a d bI=true/\rl h=true/\aQ b=true/\aQ c=true then some (.lK ok (mK bI) (ofConst h) b c)else none
    |none=>none
   | _,_=>none
  | _=>none
 | .mapUpdate mt b c v| .insert mt b c v=>match a.underlying mt with
  |some (.map d _)=>match flatK a 20 d with
   |some bI=>if rB a d bI=true/\aQ b=true/\aQ c=true/\aQ v=true then some (.lL (mK bI) b c v)else none
   |none=>none
  | _=>none
 | _=>none
def w7 (c:Program) (h:Env) (d:Oper):Option cb:=
 match d.op with
 | .makeFunc (.func k) first cap=>if first.toList.all aQ=true/\cap.toList.all aQ=true then some (.bG k first.toList cap.toList)else none
 | .makeInterface b a=>match c.underlying b with
  |some o=>if AB o=false/\aQ a=true then some (.q1 b a)else none
  |none=>none
 | .panic a=>if aQ a=true then some (.mC a)else none
 | .range b a=>match c.underlying b with
  |some .string=>if aQ a=true then some (.ki a)else none
  | _=>none
 | .next a true=>if aQ a=true then some (.mD a)else none
 | .call p=>w5 c h d.dst p
 | _=>none
def AE (a:Program) (c:FuncId):Bool:=
  match a.funcs[c]? with
  |some fn=>fn.origin== "slices.overlaps" &&fn.body.isNone&& !(fn.name== "runtime.NumGoroutine")&&(Extern.allNextRows.lookup fn.name).isNone&&(Extern.allGenericRows.lookup fn.name).isNone&&(Extern.allTypedRows.lookup fn.name).isNone&&(Extern.allRows.lookup fn.name).isNone&&
    (match fn.params.toList with
     | [b,d]=>b==d&&(match a.underlying b with|some (.slice h)=>(a.info? h).isSome| _=>false)
     | _=>false)
  |none=>false
def w8 (c:Program) (r:Env) (p:Call):Option cb:=
 match p.callee,p.args.toList,p.argTypes.toList with
 | .builtin .cap,[a],[h]=>match c.underlying h with
  |some (.slice _)=>if aQ a=true then some (.mE a)else none
  | _=>none
 | .builtin .clear,[a],[h]=>match c.underlying h with
  |some (.slice o)=>match c.info? o with
   |some b=>match b.zero with
    |some k=>if k.cells.size=b.size/\k.cells.toList.all (·.oneCell')=true/\0<b.size/\aQ a=true then some (.mF b.size (k.cells.toList.map cT) a)else none
    |none=>none
   |none=>none
  | _=>none
 | .builtin .copy,[a,d],[h,_]=>if r.vY=true then(match c.underlying h with
  |some (.slice o)=>match km c o with
   |some x=>if aQ a=true/\aQ d=true then some (.mG x a d)else none
   |none=>none
  | _=>none)else none
 | .builtin .append,[a,d],[h,y]=>match c.underlying y with
  |some (.int _)=>match c.underlying h with
   |some (.slice o)=>match c.info? o with
    |some b=>match b.zero with
     |some k=>if k.cells.size=b.size/\k.cells.toList.all (·.oneCell')=true/\0<b.size/\aQ a=true/\aQ d=true then some (.mH b.size b.bytes (k.cells.toList.map cT) a d)else none
     |none=>none
    |none=>none
   | _=>none
  | _=>none
 | .value (.func z),[a,d],_=>if AE c z=true/\aQ a=true/\aQ d=true then some (.mI a d)else none
 | _,_,_=>none
def w9 (a:Program) (c:Env) (h:Oper):Option cb:=
 match h.op with
 | .slice k d aU aV b=>if c.vY=true then(match a.underlying k with
  |some (.slice o)=>match km a o with
   |some p=>if aQ d=true/\aU.all aQ=true/\aV.all aQ=true/\b.all aQ=true/\(b=none\/aV.isSome=true)then some (.lM p d aU aV b)else none
   |none=>none
  | _=>none)else none
 | .call r=>w8 a c r
 | _=>none
def wa (b:Program) (d:Env) (c:Oper):Option cb:=
 match w9 b d c with
 |some a=>some a
 |none=>match w6 b c.op with
 |some a=>some a
 |none=>match w7 b d c with
 |some a=>some a
 |none=>w1 b d c
def Ip:Extern.allNextRows.lookup "slices.overlaps" =none:=by rfl
def Iq:Extern.allGenericRows.lookup "slices.overlaps" =none:=by rfl
def Ir:Extern.allTypedRows.lookup "slices.overlaps" =some Extern.SlicesOverlaps.overlaps:=by rfl
section
variable  {o:Oper}{a:Act}   
theorem Is {h:Env}{k:Option Nat}{d:TypeId} (y:o.op= .call {callee:= .builtin .append,args:= #[Z,e9],argTypes:= #[d,b2]}) (b:w4 m h k Z e9 d b2=some e3) (z:bK u a j) (C:Holds u f l) (D:G ⟨m,s⟩ e3 j f a7):bQ m s o a l u f a7:=by
 unfold w4 at b;split at b
 case h_2=>cases b
 rename_i E F;split at b
 case h_2=>cases b
 rename_i L P;split at b
 case h_2=>cases b
 rename_i S T;split at b
 case isFalse=>cases b
 rename_i p;obtain⟨r,V,W,e,g,i⟩:=p;obtain⟨c,n,q⟩: ∃c,m.underlying b2=some c/\((∃x,c= .slice x)\/c= .string):=by unfold AA at r;grind
 split at b
 case isFalse=>cases b
 obtain rfl:=a4v b;grind[Am,List.all_eq_true]
theorem It {z:Env}{C:Option Nat}{d:Call} (h:o.op= .call d) (b:w5 m z C d=some e3) (k:bK u a j) (p:Holds u f l) (r:G ⟨m,s⟩ e3 j f a7):bQ m s o a l u f a7:=by
 obtain⟨L,D,E⟩:=d;unfold w5 at b;split at b
 .rename_i F c;simp only at c;subst c;split at b
  case isFalse=>cases b
  rename_i P;obtain rfl:=a4v b;exact HT (.tmp F) D E h rfl (by grind) k p r
 .rename_i S T V W c x y;simp only at c x y;subst c;obtain rfl:=iQ x;obtain rfl:=iQ y;exact Is h b k p r
 .cases b
theorem Iu {z:Env} (b:w7 m z o=some e3) (k:bK u a j) (p:Holds u f l) (r:G ⟨m,s⟩ e3 j f a7):bQ m s o a l u f a7:=by
 unfold w7 at b;split at b
 .rename_i D first E c
  split at b
  case isFalse=>cases b
  rename_i d;obtain rfl:=a4v b;grind[HS,List.all_eq_true]
 .rename_i x h c;split at b
  case h_2=>cases b
  rename_i C y;split at b
  case isFalse=>cases b
  rename_i d;obtain rfl:=a4v b;exact HU x h c C y (Io d.1) d.2 k p r
 .rename_i h c;split at b
  case isFalse=>cases b
  rename_i d;obtain rfl:=a4v b;exact HV h c d k p r
 .rename_i x h c;split at b
  case h_2=>cases b
  rename_i y;split at b
  case isFalse=>cases b
  rename_i d;obtain rfl:=a4v b;exact HW x h c y d k p r
 .rename_i h c;split at b
  case isFalse=>cases b
  rename_i d;obtain rfl:=a4v b;exact HX h c d k p r
 .rename_i F c;exact It c b k p r
 .cases b
theorem Iv (b:w6 m o.op=some e3) (C:bK u a j) (r:Holds u f l) (x:G ⟨m,s⟩ e3 j f a7):bQ m s o a l u f a7:=by
 have lF: ∀mt d h v,(o.op= .mapUpdate mt d h v\/o.op= .insert mt d h v)->(match m.underlying mt with
  |some (.map k _)=>match flatK m 20 k with
   |some p=>if rB m k p=true/\aQ d=true/\aQ h=true/\aQ v=true then some (.lL (mK p) d h v)else none
   |none=>none
  | _=>none)=some e3->bQ m s o a l u f a7:=by
  intro mt d h v E b;split at b
  case h_2=>cases b
  rename_i k y hm;split at b
  case h_2=>cases b
  rename_i p z;split at b
  case isFalse=>cases b
  rename_i c;obtain rfl:=a4v b;exact I7 mt k y d h v E hm (AD z c.1) c.2.1 c.2.2.1 c.2.2.2 C r x
 generalize D:o.op=S at b;unfold w6 at b;split at b
 .obtain rfl:=a4v b;exact I5 _ D r x
 .split at b
  case h_2=>cases b
  rename_i k y hm;split at b
  case h_2=>cases b
  rename_i p T z F;split at b
  case h_2=>cases b
  rename_i L P;split at b
  case isFalse=>cases b
  rename_i c;obtain rfl:=a4v b;exact I6 _ k y _ _ _ D hm (AD z c.1) F P (aY.ofConst u L c.2.1) c.2.2.1 c.2.2.2 C r x
 .simp_all
 .simp_all
 .cases b
theorem Iw {g:Env}{F:Call} (L:o.op= .call F) (b:w8 m g F=some e3) (P:bK u a j) (S:Holds u f l) (T:G ⟨m,s⟩ e3 j f a7):bQ m s o a l u f a7:=by
 obtain⟨k4,k5,i⟩:=F;unfold w8 at b;split at b
 .rename_i r k c d h;simp only at c d h;subst c;obtain rfl:=q5 d;obtain rfl:=q5 h;split at b
  case h_2=>cases b
  rename_i x y;split at b
  case isFalse=>cases b
  rename_i p;obtain rfl:=a4v b;exact I8 k r L x y p P S T
 .rename_i r k c d h;simp only at c d h;subst c;obtain rfl:=q5 d;obtain rfl:=q5 h;split at b
  case h_2=>cases b
  rename_i x y;split at b
  case h_2=>cases b
  rename_i n q;split at b
  case h_2=>cases b
  rename_i t v;split at b
  case isFalse=>cases b
  rename_i p;obtain rfl:=a4v b;grind[Ib,List.all_eq_true]
 .rename_i r C k W c d h;simp only at c d h;subst c;obtain rfl:=iQ d;obtain rfl:=iQ h;split at b
  case isFalse=>cases b
  split at b
  case h_2=>cases b
  rename_i x y;split at b
  case h_2=>cases b
  rename_i w A;split at b
  case isFalse=>cases b
  rename_i p;obtain rfl:=a4v b;exact Ie k W r C L x y w A p.1 p.2 P S T
 .rename_i r C k k6 c d h;simp only at c d h;subst c;obtain rfl:=iQ d;obtain rfl:=iQ h;split at b
  case h_2=>cases b
  rename_i k7 k8;split at b
  case h_2=>cases b
  rename_i x y;split at b
  case h_2=>cases b
  rename_i n q;split at b
  case h_2=>cases b
  rename_i t v;split at b
  case isFalse=>cases b
  rename_i p;obtain rfl:=a4v b;grind[Ih,List.all_eq_true]
 .rename_i B r C c d;simp only at c d;subst c;obtain rfl:=iQ d;split at b
  case isFalse=>cases b
  rename_i p;obtain rfl:=a4v b;obtain⟨z,H,I⟩:=p;unfold AE at z;split at z
  case h_2=>cases z
  rename_i D K;simp only[a4A,beq_iff_eq,Option.isNone_iff_eq_none,a6d]at z;obtain⟨⟨⟨⟨⟨⟨⟨e,M⟩,N⟩,O⟩,Q⟩,X⟩,Y⟩,E⟩:=z;split at E
  case h_2=>cases E
  rename_i k W Z;simp only[a4A,beq_iff_eq]at E;obtain⟨rfl,V⟩:=E;split at V
  case h_2=>cases V
  rename_i x y;obtain⟨j9,k0⟩:=a5j.1 V;have k1:=iQ Z;have k2:Extern.findNext D=none:=by simp[Extern.findNext,e,O,Ip]
  have k3:Extern.find D=some (Extern.SlicesOverlaps.overlaps #[k,k] D.resultTypes):=by simp[Extern.find,e,Q,X,Y,Iq,Ir,k1]
  exact Ig B D r C i L K N (by rw[M];rfl) k2 k _ k3 x y j9.size (by rw[k0];rfl) H I P S T
 .cases b
def Ix {r:Env} (b:w9 m r o=some e3) (h:bK u a j) (k:Holds u f l) (p:G ⟨m,s⟩ e3 j f a7):bQ m s o a l u f a7:=by
 unfold w9 at b;split at b
 .rename_i x y z C D d;split at b
  case isFalse=>cases b
  split at b
  case h_2=>cases b
  rename_i E F;split at b
  case h_2=>cases b
  rename_i L P;split at b
  case isFalse=>cases b
  rename_i c;obtain rfl:=a4v b;exact Ia x y z C D d c.2.2.2.2 E F L P c.1 c.2.1 c.2.2.1 c.2.2.2.1 h k p
 .rename_i S d;exact Iw d b h k p
 .cases b
def Iy {r:Env} (b:wa m r o=some e3) (d:bK u a j) (h:Holds u f l) (k:G ⟨m,s⟩ e3 j f a7):bQ m s o a l u f a7:=by
 unfold wa at b;split at b
 .rename_i p c;obtain rfl:=a4v b;exact Ix c d h k
 split at b
 .rename_i p c;obtain rfl:=a4v b;exact Iv c d h k
 .split at b
  .rename_i p c;obtain rfl:=a4v b;exact Iu c d h k
  .exact Im b d h k
end
structure c7 where
 dst:Option Nat
 op:cb
 guard:Option (Nat×Bool)
def E (h:Ctx) (c:c7) (d:Fr) (a:U) (b:R->U->Prop):Prop:=
 match c.guard with
 |none=>G h c.op d a b
 |some (k,want)=>match d k with
  | .v (.bool o)=>if o=want then G h c.op d a b else b (.aK []) a
  | .aK []=>b (.aK []) a
  | _=>False
def T (c:Ctx) (a:c7) (d:Fr->U->Prop) (b:Fr) (h:U):Prop:=E c a b h λk o=>d (dk b a.dst k) o
def iR (b:Ctx):List c7->(Fr->U->Prop)->Fr->U->Prop
 | [],a=>a
 |c::d,a=>T b c (iR b d a)
variable{K:Ctx}
theorem mM {b:c7} (c: ∀d h,s d h->a7 d h) (a:E K b j f s):E K b j f a7:=by
 unfold E at*;cases k:b.guard with
 |none=>rw[k]at a;exact A9 c a
 |some fE=>
  obtain⟨p,r⟩:=fE;rw[k]at a;simp only at a|-;split at a
  .split at a
   .next o=>rw[if_pos o];exact A9 c a
   simp_all
  .exact c _ _ a
  .omega
variable{j6:Fr -> U -> Prop}
def rC {b:c7}{c:Fr->U->Prop} (h: ∀j d,j6 j d->c j d) (a:T K b j6 j f):T K b c j f:=mM (λ_ _ a=>h _ _ a) a
def tmpsOf (a:List Operand):List Nat:=a.filterMap λ| .tmp b=>some b| _=>none
def cb.operands:cb->List Operand
 | .eZ a| .q1 _ a| .mC a| .ki a| .mD a| .box _ a| .kd _ a| .pZ a| .q0 a| .mB _ a| .load _ _ a| .pU a| .kO _ a| .len a| .pX a| .un _ a| .iN _ a| .ext a _| .mE a| .mF _ _ a=> [a]
 | .pick d h k=> [d,h,k]
 | .alloc _ _| .kj=> []
 | .lK _ _ _ a c=> [a,c]
 | .lL _ a c v=> [a,c,v]
 | .bG _ first cap=>first++cap
 | .iO a args=>a::args
 | .store _ a b| .pV _ _ a b| .dG _ a b| .pW _ _ _ a b| .lG a b| .bin _ a b| .eqv _ _ a b| .pY _ a b| .app _ _ a b| .lJ _ _ a b| .lI _ _ a b| .kg _ _ _ a b| .mA _ a b| .mG _ a b| .mH _ _ _ a b| .mI a b=> [a,b]
 | .lH _ o=>o.map λp=>p.2.2
 | .ke _ xs=>xs
 | .kh _ xs=>xs
 | .oO _ a aU aV| .kf _ _ a aU aV _| .ju _ _ a aU aV=>a::(aU.toList++aV.toList)
 | .lM _ a aU aV r=>a::(aU.toList++(aV.toList++r.toList))
 | .fT _ args=>args
def c7.reads (a:c7):List Nat:=tmpsOf a.op.operands++(match a.guard with|some (b,_)=> [b]|none=> [])
def Iz {a:Fr}{b:List Operand} (d: ∀c∈tmpsOf b,j c=a c) (h:Z∈b):ak j Z=ak a Z:=by
 cases Z<;>first
  |rfl
  |exact d _ (a7W.2 ⟨_,h,rfl⟩)
def AF {b c:Fr}{k:List R->Prop}: ∀(d:List (Nat×Nat×Operand)) (h:List R),(∀a∈d,ak b a.2.2=ak c a.2.2)->(kk b h d k↔kk c h d k)
 | [],_,_=>a6Q
 |(off,cm,o)::r,h,p=>by
  have x:ak b o=ak c o:=p _ (a6q);simp only[kk,x];rw[AF r _ (λa y=>p a (a5R _ y))]
theorem oS {c:Fr}{a:Option Operand} (h: ∀b∈a.toList,ak j b=ak c b) (d:Nat):da j a d=da c a d:=by
 cases a with
 |none=>rfl
 |some b=>simp only[da,h b a9a]
theorem AG {k:Fr} (z: ∀r∈tmpsOf e3.operands,j r=k r) (x:U) (y:R->U->Prop):G K e3 j x y↔G K e3 k x y:=by
 have a: ∀d∈e3.operands,ak j d=ak k d:=λd C=>Iz z C;cases e3<;>simp only[cb.operands,a4T,a5W,or_false,forall_eq_or_imp,forall_eq,a4M]at a<;>simp only[G]
 case lH D E=>exact AF E D (λF L=>a _ (a4R.2 ⟨F,L,rfl⟩))
 case ke h P=>rw[a6b a]
 case kh h P=>rw[a6b a]
 case fT S T=>rw[a6b a]
 case iO d T=>rw[a.1,a6b a.2]
 case bG S first W=>grind[List.map_congr_left]
 case oO h d o p=>simp only[a.1,oS (λb c=>a.2 b (.inl c)),oS (λb c=>a.2 b (.inr c))]
 case lM h d o p e=>simp only[rr,a.1,oS (λb c=>a.2 b (.inl c)),oS (λb c=>a.2 b (.inr (.inl c))),oS (λb c=>a.2 b (.inr (.inr c)))]
 case kf h V d o p f=>grind[oS]
 case ju h V d o p=>grind[oS]
 all_goals simp_all
def IA {a:c7}{h:Fr} (k: ∀b∈a.reads,j b=h b) (c:U) (d:R->U->Prop):E K a j c d↔E K a h c d:=by
 have o:=λb p=>k b (a6I _ p);unfold E;cases r:a.guard with
 |none=>exact AG o c d
 |some fE=>
  obtain⟨x,z⟩:=fE;have y:=k x (a6D _ (by simp[r]));simp only[y];split
  .split
   .exact AG o c d
   .rfl
  .rfl
  .rfl
def IB (c:Fr) (a:Nat) (b:R):(dk c (some a) b) a=b:=by simp[dk,lF]
theorem tu (c:Fr) (a:Option Nat) (d:R) (b:Nat) (h:a≠some b):(dk c a d) b=c b:=by
 cases a with
 |none=>rfl
 |some a=>simp[dk,lF,a4F (λk=>h (by rw[k]):a≠b)]
theorem q6 (d:Fr) (a b:Option Nat) (h k:R) (o: ∀c,a=some c->b≠some c):dk (dk d a h) b k=dk (dk d b k) a h:=by
 cases a with
 |none=>rfl
 |some a=>
  cases b with
  |none=>rfl
  |some b=>have r:a≠b:=λp=>o a rfl (by rw[p]);funext c;simp only[dk,lF];grind
theorem kT {b:c7} (c:Option Nat) (p: ∀a,c=some a->a∉b.reads) (d:Fr) (o:R) (h:U) (k:R->U->Prop):E K b (dk d c o) h k↔E K b d h k:=
 IA (λa r=>tu d c o a (λx=>p a x r)) h k
theorem U.dX (a:U) (d:e≠i) (b c:bq):(a.set e b).set i c=(a.set i c).set e b:=by grind[U.set]
theorem U.IC (a:U) (c:e≠i) (b:bq):(a.set e b).del i=(a.del i).set e b:=by grind[U.set,U.del]
theorem U.tv (a:U) (b:Nat) (c:bq) (d:a b=none):a.join (U.emp.set b c)=a.set b c:=by grind[U.join,U.set,U.emp]
theorem q7 (c:U) (b:Nat) (d:bq):c.pP (U.emp.set b d)↔c b=none:=by
 constructor
 .intro a;rcases a b with a|a
  .exact a
  .simp[U.set]at a
 .intro a h;grind[U.set,U.emp]
def rD (b:Nat) (c:bq) (d:R->U->Prop):R->U->Prop:=λh k=> ∃a,d h a/\a b=none/\k=a.set b c
theorem rE (a:U) (c:bq) (d:a e=none) (b:a.read i=some g):(a.set e c).read i=some g:=by
 have h:i≠e:=by rintro rfl;simp[U.read,d]at b
 simpa[U.read,U.ao _ _ h] using b
theorem AH (a:U) (d:bq) (h:a e=none) {b:Nat×List R} (c:bN a i n=some b):bN (a.set e d) i n=some b:=by
 unfold bN at c|-;split
 .exact c
 grind[rE];grind[rE];simp_all
theorem ID (a:U) (c:bq) (h:a e=none) {d:Nat×List R} (b:mJ a i n=some d):mJ (a.set e c) i n=some d:=by
 unfold mJ at b|-;split
 .exact b
 .rename_i k;split at b
  .simp_all
  .exact AH a c h b
theorem IE (b:U) (c:bq) (h:b e=none) (a:kP i g n b=some f):kP i g n (b.set e c)=some (f.set e c)/\f e=none:=by
 unfold kP at a|-;split at a
 .rename_i k o p r x;split at a
  case h_2=>cases a
  rename_i y d;have z:k≠e:=by rintro rfl;rw[h]at d;cases d
  split at a
  case isFalse=>cases a
  rename_i C;obtain rfl:=a4v a;simp_all [U.ao,U.dX,a4F]
 simp_all
 .cases a
theorem IF (c:U) (d:bq) (h:c e=none) {o:R} (a:lN i n b3 c=some (o,f)):lN i n b3 (c.set e d)=some (o,f.set e d)/\f e=none:=by
 unfold lN at a|-;split at a
 case h_2=>cases a
 rename_i E F p;rw[AH c d h p];simp only;split at a
 .rename_i k G r x y;split at a
  case h_2=>cases a
  rename_i z b;have C:k≠e:=by rintro rfl;rw[h]at b;cases b
  split at a
  case isFalse=>cases a
  rename_i D;simp only[a4H,a5G]at a;obtain⟨rfl,rfl⟩:=a;simp_all [U.ao,U.dX,a4F]
 .rename_i k r x y;split at a
  case h_2=>cases a
  rename_i z b;have C:k≠e:=by rintro rfl;rw[h]at b;cases b
  split at a
  case isFalse=>cases a
  rename_i D;simp only[a4H,a5G]at a;obtain⟨rfl,rfl⟩:=a;simp_all [U.ao,U.dX,a4F]
 simp_all
 .cases a
theorem IG (a:U) (c:bq) (h:a e=none) {d:R} (k:kQ n b3 a=some d):kQ n b3 (a.set e c)=some d:=by
 have p: ∀b,kl a b=true->kl (a.set e c) b=true:=λb o=>by
  have r:b≠e:=by rintro rfl;simp[kl,h]at o
  grind[kl,U.ao]
 unfold kQ at k|-;grind
variable{Y:bq}
theorem AI (c:f e=none) (a:G K e3 j f s):G K e3 j (f.set e Y) (rD e Y s):=by
 have D: ∀x,s x f->rD e Y s x (f.set e Y):=λx g=>⟨f,g,c,rfl⟩;have l6: ∀(d) (E) (x),(f.set e Y) d=none->(f d=none->s x (f.set d E))->rD e Y s x ((f.set e Y).set d E):=λd E x S F=>by
  have b:e≠d:=by rintro rfl;simp[U.set]at S
  rw[U.ao _ _ (a4F b)]at S;exact⟨_,F S,by rw[U.ao _ _ b];exact c,U.dX f b Y E⟩
 cases e3<;>simp only[G]at a|-
 case fT l7 O=>
  have:=hE.frame a ((q7 f e Y).2 c);rw[U.tv f e Y c]at this;refine this.mono (λx Q ⟨p,i,V,l⟩=>⟨p,i,(q7 p e Y).1 V,?_⟩) (λ_ _ a=>a);rw[l,U.tv p e Y ((q7 p e Y).1 V)]
 case iO o O=>
  split at a
  case h_2=>omega
  refine⟨a.1,?_⟩;have:=hE.frame a.2 ((q7 f e Y).2 c);rw[U.tv f e Y c]at this;refine this.mono (λx Q ⟨p,i,V,l⟩=>⟨p,i,(q7 p e Y).1 V,?_⟩) (λ_ _ a=>a);rw[l,U.tv p e Y ((q7 p e Y).1 V)]
 case mE o=>grind
 case lM=>grind
 case mF r m o=>
  split at a
  case h_2=>exact a.elim
  rename_i p n;obtain⟨q,t⟩:=IE f Y c n;rw[q];exact⟨p,a,t,rfl⟩
 case mG r o L=>
  split at a
  case h_2=>exact a.elim
  rename_i x p n;obtain⟨q,t⟩:=IF f Y c n;rw[q];exact⟨p,a,t,rfl⟩
 case mI o L=>
  grind[IG]
 case mH r bytes m o L=>
  grind[rE]
 case kj=>grind
 case lK l8 X m o r=>
  split at a
  case h_2=>omega
  next d C z Z=>
  split at a
  case h_2=>exact a.elim
  next j9 k0 y=>
  have b:d≠e:=by rintro rfl;rw[c]at y;cases y
  grind[U.ao,dC]
 case lL X o r v=>
  split at a
  case h_2=>omega
  next d C z Z=>
  split at a
  case h_2=>exact a.elim
  next j9 k0 y=>
  have b:d≠e:=by rintro rfl;rw[c]at y;cases y
  rw[U.ao _ _ b,y];exact⟨a.1,a.2.1,_,a.2.2,by rw[U.ao _ _ (a4F b)];exact c,U.dX f (a4F b) Y _⟩
 case ki o=>grind
 case mC o=>
  split at a
  case h_2=>omega
  obtain⟨k1,S,F⟩:=a;refine⟨k1,λd E k2=> ?_,F⟩;have:=S d E k2;have b:d≠e:=by grind
  rw[U.ao _ _ b];exact this
 case mD o=>
  split at a
  case h_2=>omega
  next d W z=>
  refine⟨a.1,?_⟩;have F:=a.2;split at F
  case h_2=>trivial
  next l9 n0 y=>
  have b:d≠e:=by rintro rfl;rw[c]at y;cases y
  rw[U.ao _ _ b,y];simp only;split
  .next k3=>rw[if_pos k3]at F;exact⟨_,F,by rw[U.ao _ _ (a4F b)];exact c,U.dX f (a4F b) Y _⟩
  simp_all
 case lH k4 n1=>exact vK (λC h=>D _ h) _ _ a
 case alloc T k4=>grind
 case box T o=>simp_all
 case kd T o=>simp_all
 case kg r bytes m o L=>grind
 case lI=>grind
 case mB n2 o=>
  grind
 case kh r I=>
  grind
 case lJ r bytes o L=>
  split at a
  case h_2=>exact a.elim
  rename_i n3 u k5;rw[ID f Y c k5];simp only;split at a;grind
  .next d P w A z=>
   split at a
   case h_3=>exact a.elim
   all_goals
   rename_i C h;have b:d≠e:=by rintro rfl;rw[c]at h;cases h
   rw[U.ao _ _ b,h];refine⟨a.1,a.2.1,a.2.2.1,a.2.2.2.1,?_⟩;have k:=a.2.2.2.2;split
   .next B=>rw[if_pos B]at k;exact⟨_,k,by rw[U.ao _ _ (a4F b)];exact c,U.dX f (a4F b) Y _⟩
   simp_all
  .next d W P w A z=>
   split at a
   case h_2=>exact a.elim
   rename_i C h;have b:d≠e:=by rintro rfl;rw[c]at h;cases h
   rw[U.ao _ _ b,h];refine⟨a.1,a.2.1,a.2.2.1,a.2.2.2.1,?_⟩;have k:=a.2.2.2.2;split
   .next B=>rw[if_pos B]at k;exact⟨_,k,by rw[U.ao _ _ (a4F b)];exact c,U.dX f (a4F b) Y _⟩
   simp_all
  .omega
 case ju r P o k6 k7=>
  split at a
  .next d W z=>
   split at a
   .refine⟨a.1,a.2.1,a.2.2.1,?_⟩;have k:=a.2.2.2;split at k
    .next C h=>
     have b:d≠e:=by rintro rfl;rw[c]at h;cases h
     grind[U.ao]
    .trivial
   .omega
  .omega
 case mA r o L=>
  split at a
  .next d W P w A u k8 z k9=>
   refine⟨a.1,a.2.1,?_⟩;have k:=a.2.2;split at k
   .next C h=>
    have b:d≠e:=by rintro rfl;rw[c]at h;cases h
    rw[U.ao _ _ b,h];exact⟨k.1,_,k.2,by rw[U.ao _ _ (a4F b)];exact c,U.dX f (a4F b) Y _⟩
   .trivial
  .next d P w A u k8 z k9=>
   refine⟨a.1,a.2.1,?_⟩;have k:=a.2.2;split at k
   .next C h=>
    have b:d≠e:=by rintro rfl;rw[c]at h;cases h
    rw[U.ao _ _ b,h];exact⟨k.1,_,k.2,by rw[U.ao _ _ (a4F b)];exact c,U.dX f (a4F b) Y _⟩
   .trivial
  .omega
 case ke r I=>
  grind
 case load n4 P o=>
  grind[rE]
 case store P o L=>
  split at a
  .next d W z=>
   split at a
   case h_2=>exact a.elim
   next h=>
    have b:d≠e:=by rintro rfl;rw[c]at h;cases h
    rw[U.ao _ _ b,h];exact⟨a.1,a.2.1,_,a.2.2,by rw[U.ao _ _ (a4F b)];exact c,U.dX f (a4F b) Y _⟩
  .omega
 case kf r P o k6 k7 n5=>
  split at a
  .next d W z=>
   split at a
   .refine⟨a.1,a.2.1,a.2.2.1,?_⟩;have k:=a.2.2.2;split at k
    .next C h=>
     have b:d≠e:=by rintro rfl;simp[U.read,c]at h
     rw[rE f Y c h];refine⟨k.1,?_⟩;have M:=k.2;split
     .next g=>rw[if_pos g]at M;exact⟨_,M,by rw[U.ao _ _ (a4F b)];exact c,U.dX f (a4F b) Y _⟩
     simp_all
    .trivial
   .omega
  .omega
 case app r bytes o L=>
  split at a<;>try exact a.elim
  rename_i I l0 u E _ _;refine⟨a.1,a.2.1,a.2.2.1,a.2.2.2.1,?_⟩;have k:=a.2.2.2.2;cases l0<;>simp only at k|-;grind;grind
  case buf l1 n9 _=>
   have b:l1≠e:=by rintro rfl;rw[c]at k;cases k.1
   refine⟨by rw[U.ao _ _ b];exact k.1,λN l2 l3=> ?_⟩;have H:N≠e:=by rintro rfl;grind[U.ah]
   have l4:=l3.imp id (λa=>by rwa[U.ao _ _ H]at a);refine⟨_,k.2 N l2 l4,by rw[U.ao _ _ (a4F H),U.eG _ (a4F b)];exact c,?_⟩;rw[U.IC f (a4F b) Y,U.dX _ (a4F H) Y]
 case pick=>grind
 case dG r o l5=>
  grind
 case lG o l5=>
  grind
 all_goals
  (repeat' split at a)<;>first
   |exact a.elim
   |exact D _ a
   |exact⟨a.1,D _ a.2⟩
   |exact⟨a.1,a.2.1,D _ a.2.2⟩
   |exact⟨a.1,a.2.1,a.2.2.1,D _ a.2.2.2⟩
   |exact⟨a.1,a.2.1,a.2.2.1,a.2.2.2.1,D _ a.2.2.2.2⟩
   |exact⟨a.1,a.2.1,a.2.2.1,a.2.2.2.1,a.2.2.2.2.1,D _ a.2.2.2.2.2⟩
theorem wb {b:c7} (c:f e=none) (a:E K b j f s):E K b j (f.set e Y) (rD e Y s):=by
 have k: ∀d,s d f->rD e Y s d (f.set e Y):=λd o=>⟨f,o,c,rfl⟩;unfold E at*;cases h:b.guard with
 |none=>rw[h]at a;exact AI c a
 |some fE=>
  obtain⟨r,x⟩:=fE;rw[h]at a;simp only at a|-;split at a
  .split at a
   .next p=>rw[if_pos p];exact AI c a
   simp_all
  .exact k _ a
  .omega
def mN:cb->Bool
 | .mF _ _ _| .mG _ _ _| .mH _ _ _ _ _| .mI _ _| .alloc _ _| .kj| .lK _ _ _ _ _| .lL _ _ _ _| .ki _| .mD _| .mC _| .iO _ _| .box _ _| .kd _ _| .load _ _ _| .store _ _ _| .ke _ _| .kf _ _ _ _ _ _| .ju _ _ _ _ _| .app _ _ _ _| .fT _ _| .kg _ _ _ _ _| .mA _ _ _| .mB _ _| .kh _ _| .lJ _ _ _ _=>false
 | _=>true
def nP:cb->Bool
 | .load _ _ _| .ju _ _ _ _ _=>true
 | _=>false
def kU:cb->Bool
 | .alloc _ _| .kj| .ki _| .box _ _| .kd _ _| .ke _ _| .kh _ _| .kg _ _ _ _ _=>true
 | _=>false
def AJ {k:Fr}: ∀(o:List (Nat×Nat×Operand)) (b:List R) {r:List R->Prop},kk k b o r-> ∃c,∀a:List R->Prop,kk k b o a↔a c
 | [],b,_,_=>⟨b,λa=>a6Q⟩
 |(off,cm,y)::c,b,_,d=>by
  obtain⟨x,p⟩:=AJ c _ d.2.2;exact⟨x,λa=>⟨λh=>(p a).1 h.2.2,λh=>⟨d.1,d.2.1,(p a).2 h⟩⟩⟩
def AK (a:mN e3=true) (b:G K e3 j f s): ∃k,∀(c:U) (d:R->U->Prop),G K e3 j c d↔d k c:=by
 cases e3<;>simp only[mN,a5A]at a<;>simp only[G]at b|-
 case pick=>split at b;(exact⟨_,λc d=>a6Q⟩);trivial
 case mE=>split at b;(exact⟨_,λc d=>a6Q⟩);trivial
 case lM=>split at b;(exact⟨_,λc d=>a6Q⟩);trivial
 case lH x y=>
  obtain⟨k,o⟩:=AJ _ _ b;exact⟨.agg k,λc d=>o _⟩
 case lI=>split at b;(exact⟨_,λc d=>⟨λa=>a.2,λa=>⟨b.1,a⟩⟩⟩);trivial
 case dG z p r=>
  split at b
  .have h:=b.2;split at h
   .exact⟨_,λc d=>⟨λa=>a.2.2,λa=>⟨b.1,h.1,a⟩⟩⟩
   .trivial
  .exact⟨_,λc d=>⟨λa=>a.2.2.2,λa=>⟨b.1,b.2.1,b.2.2.1,a⟩⟩⟩
  .exact⟨_,λc d=>⟨λa=>a.2.2.2,λa=>⟨b.1,b.2.1,b.2.2.1,a⟩⟩⟩
  .trivial
 case lG p r=>
  split at b
  .have h:=b.2;split at h
   .exact⟨_,λc d=>⟨λa=>a.2,λa=>⟨b.1,a⟩⟩⟩
   .trivial
  .trivial
 all_goals
  (repeat' split at b)<;>first
   |exact b.elim
   |exact⟨_,λc d=>a6Q⟩
   |exact⟨_,λc d=>⟨λa=>a.2,λa=>⟨b.1,a⟩⟩⟩
   |exact⟨_,λc d=>⟨λa=>a.2.2,λa=>⟨b.1,b.2.1,a⟩⟩⟩
   |exact⟨_,λc d=>⟨λa=>a.2.2.2,λa=>⟨b.1,b.2.1,b.2.2.1,a⟩⟩⟩
   |exact⟨_,λc d=>⟨λa=>a.2.2.2.2,λa=>⟨b.1,b.2.1,b.2.2.1,b.2.2.2.1,a⟩⟩⟩
   |exact⟨_,λc d=>⟨λa=>a.2.2.2.2.2,λa=>⟨b.1,b.2.1,b.2.2.1,b.2.2.2.1,b.2.2.2.2.1,a⟩⟩⟩
def AL (a:nP e3=true) (b:G K e3 j f s): ∃h,∀(c:R->U->Prop),G K e3 j f c↔c h f:=by
 cases e3<;>simp only[nP,a5A]at a<;>simp only[G]at b|-
 case load=>
  split at b
  .split at b
   .exact⟨_,λc=>⟨λa=>a.2,λa=>⟨b.1,a⟩⟩⟩
   .trivial
  .exact⟨_,λc=>⟨λa=>a.2,λa=>⟨b.1,a⟩⟩⟩
  .trivial
 case ju=>
  split at b
  .split at b
   .have d:=b.2.2.2;split at d
    .exact⟨_,λc=>⟨λa=>a.2.2.2.2,λa=>⟨b.1,b.2.1,b.2.2.1,d.1,a⟩⟩⟩
    .trivial
   .trivial
  .trivial
def AM (a:kU e3=true) (b:G K e3 j U.emp λ_ _=>True):
  (∃y,∀(c:U) (d:R->U->Prop),G K e3 j c d↔d y c)\/ ∃(z:Nat->R) (C:Nat->bq),∀(c:U) (d:R->U->Prop),G K e3 j c d↔ ∀r,c r=none->d (z r) (c.set r (C r)):=by
 cases e3<;>simp only[kU,a5A]at a<;>simp only[G]at b|-
 case alloc T D=>exact .inr ⟨_,_,λc d=>a6Q⟩
 case kj=>exact .inr ⟨_,λ_=> _,λc d=>a6Q⟩
 case ki x=>split at b;(exact .inr ⟨_,λ_=> _,λc d=>a6Q⟩);trivial
 case box T x=>exact .inr ⟨_,λ_=> _,λc d=>⟨λa=>a.2,λa=>⟨b.1,a⟩⟩⟩
 case kd T x=>exact .inr ⟨_,λ_=> _,λc d=>⟨λa=>a.2,λa=>⟨b.1,a⟩⟩⟩
 case kg k bytes E x F=>split at b;(exact .inr ⟨λo=> .an o _ _ k,λ_=> _,λc d=>⟨λa=>a.2.2.2.2,λa=>⟨b.1,b.2.1,b.2.2.1,b.2.2.2.1,a⟩⟩⟩);trivial
 case ke k h=>
  by_cases p:h.length=0
  .simp only[if_pos p]at b|-;exact .inl ⟨_,λc d=>⟨λa=>a.2,λa=>⟨b.1,a⟩⟩⟩
  .simp only[if_neg p]at b|-;exact .inr ⟨λo=> .J (h.map (ak j)) (.buf o h.length),λ_=> .buf k h.length h.length,λc d=>⟨λa=>a.2,λa=>⟨b.1,a⟩⟩⟩
 case kh k h=>
  by_cases p:h.length=0
  .simp only[if_pos p]at b|-;exact .inl ⟨_,λc d=>⟨λa=>a.2,λa=>⟨b.1,a⟩⟩⟩
  .simp only[if_neg p]at b|-;exact .inr ⟨λo=> .an o h.length h.length k,λ_=> .cells (flat (h.map (ak j))),λc d=>⟨λa=>a.2,λa=>⟨b.1,a⟩⟩⟩
theorem AN (a:kU e3=true) (b:G K e3 j f s):G K e3 j U.emp λ_ _=>True:=by
 cases e3<;>simp only[kU,a5A]at a<;>simp only[G]at b|-;simp
 case kj=>simp
 case ki c=>grind
 simp_all;simp_all
 case kg=>grind
 simp_all;simp_all
def Def (a:Ctx) (b:c7) (c:Fr):Prop:=E a b c U.emp λ_ _=>True
def wc {b:c7} (k:mN b.op=true) (a:E K b j f s): ∃p,∀(c:U) (d:R->U->Prop),E K b j c d↔d p c:=by
 unfold E at*;cases o:b.guard with
 |none=>rw[o]at a;exact AK k a
 |some fE=>
  obtain⟨r,x⟩:=fE;rw[o]at a;simp only at a|-;split at a
  .split at a
   .next h=>simp only[if_pos h];exact AK k a
   .next h=>simp only[if_neg h];exact⟨_,λc d=>a6Q⟩
  .exact⟨_,λc d=>a6Q⟩
  .trivial
theorem tw {b:c7} (h:nP b.op=true) (a:E K b j f s): ∃o,∀(c:R->U->Prop),E K b j f c↔c o f:=by
 unfold E at*;cases k:b.guard with
 |none=>rw[k]at a;exact AL h a
 |some fE=>
  obtain⟨p,r⟩:=fE;rw[k]at a;simp only at a|-;split at a
  .split at a
   .next d=>simp only[if_pos d];exact AL h a
   .next d=>simp only[if_neg d];exact⟨_,λc=>a6Q⟩
  .exact⟨_,λc=>a6Q⟩
  .trivial
theorem IH {b:c7} (c:kU b.op=true) (a:E K b j f s):Def K b j:=by
 unfold Def;unfold E at*;cases d:b.guard with
 |none=>rw[d]at a;exact AN c a
 |some fE=>
  obtain⟨k,o⟩:=fE;rw[d]at a;simp only at a|-;split at a
  .split at a
   .next h=>rw[if_pos h];exact AN c a
   .simp_all
  .trivial
  .trivial
def AO {d:c7} (o:kU d.op=true) (a:Def K d j):
  (∃r,∀(b:U) (c:R->U->Prop),E K d j b c↔c r b)\/ ∃(x:Nat->R) (y:Nat->bq),∀(b:U) (c:R->U->Prop),E K d j b c↔ ∀h,b h=none->c (x h) (b.set h (y h)):=by
 unfold Def at a;unfold E at*;cases p:d.guard with
 |none=>rw[p]at a;exact AM o a
 |some fE=>
  obtain⟨z,C⟩:=fE;rw[p]at a;simp only at a|-;split at a
  .split at a
   .next k=>simp only[if_pos k];exact AM o a
   .next k=>simp only[if_neg k];exact .inl ⟨_,λb c=>a6Q⟩
  .exact .inl ⟨_,λb c=>a6Q⟩
  .trivial
structure di where
 i:Nat
 pre:List Nat
 jw:List Nat
section
variable (P:Ctx) (xs:Nat->c7)
def hl (a:Nat) (b:Fr) (c:U):Prop:=
 match(xs a).dst with
 |some d=>E P (xs a) b c λh _=>h=b d
 |none=>True
def can (c:Fr->U->Prop):List di->Fr->U->Prop
 | []=>c
 |a::o=>λd p=>(∀b∈a.pre,Def P (xs b) d)/\T P (xs a.i) (λh k=>(∀b∈a.jw,hl P xs b h k)/\can c o h k) d p
def clear (a:Option Nat) (b:List Nat):Bool:=match a with|some c=> !b.contains c|none=>true
def lQ (a b:Option Nat):Bool:=match a,b with|some c,some d=>c !=d| _,_=>true
def indep (a b:di) (d:List Nat):Bool:=
  clear (xs a.i).dst (xs b.i).reads&&clear (xs b.i).dst (xs a.i).reads&&lQ (xs a.i).dst (xs b.i).dst&&
  b.jw.all (λc=>c==a.i||d.contains c||(clear (xs a.i).dst (xs c).reads&&lQ (xs a.i).dst (xs c).dst))&&
  ((a.pre.isEmpty&&a.jw.isEmpty&&(mN (xs a.i).op||(nP (xs a.i).op&&((mN (xs b.i).op||nP (xs b.i).op||kU (xs b.i).op)||(b.jw.contains a.i&&clear (xs a.i).dst (xs a.i).reads&&(xs a.i).dst.isSome)))))||
   (b.jw.isEmpty&&(mN (xs b.i).op||kU (xs b.i).op)&&a.pre.contains b.i&&a.pre.all (λc=>clear (xs b.i).dst (xs c).reads)&&
     a.jw.all (λc=>clear (xs b.i).dst (xs c).reads&&lQ (xs b.i).dst (xs c).dst)))
variable {P xs}
theorem rF {b:Option Nat}{c:List Nat} (d:clear b c=true): ∀a,b=some a->a∉c:=by intro a h;subst h;simpa[clear] using d
theorem AP {a b:Option Nat} (d:lQ a b=true): ∀c,a=some c->b≠some c:=by grind[lQ]
theorem AQ {a:Option Nat} (h:clear a (xs e).reads=true) (k:lQ a (xs e).dst=true) (b:Fr) (d:R) (c:U):hl P xs e (dk b a d) c↔hl P xs e b c:=by
 unfold hl;cases o:(xs e).dst with
 |none=>rfl
 |some p=>grind[kT,rF,tu,AP]
theorem II (b:f i=none) (a:hl P xs e j f):hl P xs e j (f.set i Y):=by
 unfold hl at*;cases c:(xs e).dst with
 |none=>trivial
 |some h=>rw[c]at a;exact mM (λk o ⟨p,d,_,_⟩=>d) (wb b a)
def Pass (a:Nat->c7) (b:di):List di->Prop
 | []=>True
 |d::c=>indep a d b (c.map (·.i))=true/\Pass a b c
theorem AR {C:Fr->U->Prop} (h:di) (e:List di): ∀(p:List di),Pass xs h p->(p.map (·.i)).Nodup-> ∀(k:Fr) (o:U),can P xs C (p++h::e) k o->
  T P (xs h.i) (λS d=>(∀a∈h.jw,a∉p.map (·.i)->hl P xs a S d)/\can P xs C (p++e) S d) k o
 | [],_,_,k,o,q=>rC (λS d D=>⟨λa y _=>D.1 a y,D.2⟩) q.2
 |r::p,hk,n3,k,o,q=>by
  have A:=hk.1;have Z:(p.map (·.i)).Nodup:=by simp_all
  have j9:r.i∉p.map (·.i):=by simp_all
  have ih:=AR (C:=C) h e p hk.2 Z;obtain⟨k0,B⟩:=q;simp only[indep,a4A]at A;obtain⟨⟨⟨⟨k1,k2⟩,a3⟩,a4⟩,H⟩:=A;have i:=rF k1;have c2:=rF k2;have aH:=AP a3;have n4: ∀a∈h.jw,a≠r.i->a∉p.map (·.i)->clear (xs r.i).dst (xs a).reads=true/\lQ (xs r.i).dst (xs a).dst=true:=λa y n5 n9=>by
   grind
  have W:T P (xs r.i) (λS d=>(∀a∈r.jw,hl P xs a S d)/\T P (xs h.i) (λI K=>(∀a∈h.jw,a∉p.map (·.i)->hl P xs a I K)/\can P xs C (p++e) I K) S d) k o:=
   rC (λS d D=>⟨D.1,ih S d D.2⟩) B
  clear B ih;simp only[a6g,a4A]at H;rcases H with ⟨⟨k3,k4⟩,k5⟩|⟨⟨⟨⟨k6,k7⟩,k8⟩,a00⟩,a01⟩
  .
   have k9:=a8h.1 k3;have a02:=a8h.1 k4;have j: ∀(x:R) (b:R) (d:U),(∀G,E P (xs r.i) k d G↔G x d)->
     ((∀a∈h.jw,a∉p.map (·.i)->hl P xs a (dk (dk k (xs r.i).dst x) (xs h.i).dst b) d)/\can P xs C (p++e) (dk (dk k (xs r.i).dst x) (xs h.i).dst b) d)->
     (∀a∈h.jw,a∉(r::p).map (·.i)->hl P xs a (dk k (xs h.i).dst b) d)/\can P xs C (r::p++e) (dk k (xs h.i).dst b) d:=λx b d V g=>by
    rw[q6 k _ _ x b aH]at g;refine⟨λa y l0=> ?_,?_⟩
    .simp only[a4U,a4T,not_or]at l0;grind[AQ]
    .refine⟨by rw[k9];simp,?_⟩;simp_all [T,kT]
   rcases k5 with l1|⟨l2,l3⟩
   .obtain⟨x,V⟩:=wc l1 W;have s:=(V o _).1 W;have c:=s.2;unfold T at c|-;rw[kT _ i]at c;exact mM (λb d g=>j x b d (λG=>V d G) g) c
   .obtain⟨x,V⟩:=tw l2 W;have s:=(V _).1 W;have c:=s.2;unfold T at c|-;rw[kT _ i]at c;rcases l3 with t|⟨⟨l4,l5⟩,l6⟩
    .rcases t with t|M
     case inr=>
      rcases AO M (IH M c)with ⟨b,z⟩|⟨f,l,z⟩
      .rw[z]at c|-;exact j x b o V c
      .rw[z]at c|-;intro F m;refine j x (f F) _ ?_ (c F m);have l7:E P (xs r.i) k o λu _=>u=x:=(V _).2 rfl;have a03:=mM (λ_ _ ⟨_,D,_,_⟩=>D) (wb (Y:=l F) m l7);grind[tw]
     have L: ∃b,∀G:R->U->Prop,E P (xs h.i) k o G↔G b o:=by
      rcases t with L|L
      .obtain⟨b,z⟩:=wc L c;exact⟨b,λG=>z o G⟩
      .exact tw L c
     obtain⟨b,z⟩:=L;rw[z]at c|-;exact j x b o V c
    .refine mM (λb d g=> ?_) c;have l8:=g.1 r.i (by simpa using l4) j9;obtain⟨a04,N⟩:=a5j.1 l6;have a05:E P (xs r.i) k d λu _=>u=x:=by have:=l8;rw[q6 k _ _ x b aH]at this;unfold hl at this;rw[N]at this;simp only at this;rw[IB,<-N,kT _ (rF l5),kT _ c2]at this;exact this
     grind[tw]
  .
   have O:=a8h.1 k6;have Q:=k0 h.i (by simpa using k8);have l9:(∃x,∀(o:U) (C:R->U->Prop),E P (xs h.i) k o C↔C x o)\/ ∃(f:Nat->R) (l:Nat->bq),∀(o:U) (C:R->U->Prop),E P (xs h.i) k o C↔ ∀F,o F=none->C (f F) (o.set F (l F)):=by
    rcases k7 with L|L
    .exact .inl (wc L Q)
    .exact AO L Q
   have X: ∀b,∀a∈r.pre,Def P (xs a) (dk k (xs h.i).dst b):=λb a y=>by
    grind[Def,kT,rF,List.all_eq_true]
   have a06: ∀a∈r.jw,∀(w) (b) (n),hl P xs a w n->hl P xs a (dk w (xs h.i).dst b) n:=λa y w b n D=>by
    simp_all [a4A,AQ]
   unfold T at W;rcases l9 with ⟨b,z⟩|⟨f,l,z⟩
   .unfold T;rw[z];refine⟨λa y=>(by rw[O]at y;cases y),X b,?_⟩;unfold T;rw[kT _ c2];refine mM (λv n0 D=> ?_) W;have c:=D.2;rw[kT _ i,z,q6 k _ _ v b aH]at c;refine⟨λa y=> ?_,c.2⟩;grind[q6]
   .unfold T;rw[z];intro F m;refine⟨λa y=>(by rw[O]at y;cases y),X (f F),?_⟩;unfold T;rw[kT _ c2];refine mM (λv n n1=> ?_) (wb m W);obtain⟨n0,D,n2,rfl⟩:=n1;have c:=D.2;rw[kT _ i,z]at c;have Y:=c F n2;rw[q6 k _ _ v (f F) aH]at Y;refine⟨λa y=> ?_,Y.2⟩;grind[q6,II]
def tx (a:Nat->List Nat):Nat->List Nat->Nat->List Nat
 |0,acc,_=>acc
 |d+1,acc,b=>tx a d (acc++ [(a b).foldl (λh c=>h|||2^c|||acc.getD c 0) 0]) (b+1)
def dep (a:List Nat) (b c:Nat):Bool:=(a.getD c 0).testBit b
def kn (c:Nat->c7) (d:List Nat) (a:di):List Nat->List di->Bool
 | _,[]=>true
 |h,b::k=>(dep d a.i b.i||indep c a b h)&&kn c d a (h++ [b.i]) k
def mO (a:Nat->c7) (b:List Nat):List di->Bool
 | []=>true
 |d::c=>kn a b d [] c&&mO a b c
def iS (a:Array Oper) (b:Nat):List Nat:=
 match a[b]? with
 |some c=>(c.after.toList.filter λd=>Region.binds .any d).map (·.on)
 |none=> []
def tz (k:Ctx) (o:Nat->c7) (b:Array Oper) (h:Fr->U->Prop):Nat->Array Bool->Fr->U->Prop
 |0,a,c,d=>Region.ready .any b a= []/\h c d
 |fuel+1,a,c,d=>(Region.ready .any b a= []->h c d)/\ ∀p∈Region.ready .any b a,T k (o p) (tz k o b h fuel (a.setIfInBounds p true)) c d
def AS (b:Array Oper) (c:Array Bool):Prop:= ∀a,a<b.size->c.getD a true=true-> ∀d∈iS b a,c.getD d false=true
theorem we {a:Array Oper}:i∈iS a e↔ ∃b,a[e]? =some b/\ ∃c∈b.after,Region.binds .any c=true/\c.on=i:=by unfold iS;grind
theorem wg {a:Array Oper}{b:Array Bool}:e∈Region.ready .any a b↔b.getD e true=false/\e<a.size/\ ∀d∈iS a e,b.getD d false=true:=by
 rw[mem_ready];constructor
 .rintro⟨c,z,x,h⟩;refine⟨c,(a5M.1 x).1,λd y=> ?_⟩;obtain⟨C,D,k,o,p,rfl⟩:=we.1 y;simp_all
 .rintro⟨c,r,h⟩;exact⟨c,a[e],a6E r,λk o p=>h _ (we.2 ⟨_,a6E r,k,o,p,rfl⟩)⟩
theorem IJ (c:List Nat) (h:List Nat) (d:Nat): ∀a,(c.foldl (λa b=>a|||2^b|||h.getD b 0) a).testBit d=true->a.testBit d=true\/ ∃b∈c,d=b\/(h.getD b 0).testBit d=true:=by
 induction c with
 |nil=>intro a k;exact .inl k
 |cons o c ih=>grind
def Bits (h:Nat->List Nat) (d:List Nat):Prop:= ∀a b,dep d b a=true-> ∃c∈h a,b=c\/(dep d b c=true/\c<a)
theorem AT {h:Nat->List Nat} (F: ∀b a,a∈h b->a<b): ∀(x:Nat) (c:List Nat) (d:Nat),c.length=d->Bits h c->Bits h (tx h x c d)
 |0,c,d,_,y=>y
 |x+1,c,d,z,y=>by
  refine AT F x _ (d+1) (by simp[z]) λb G k=> ?_;have C: ∀b,b<d->(c++ [(h d).foldl (λo a=>o|||2^a|||c.getD a 0) 0]).getD b 0=c.getD b 0:=λb p=>by
   grind
  unfold dep at k|-;rcases a8d b d with p|p|p
  .rw[C b p]at k;obtain⟨a,D,r⟩:=y b G k;refine⟨a,D,r.imp id λE=>⟨?_,E.2⟩⟩;rw[C a a8Z];exact E.1
  .subst p;have L:(c++ [(h b).foldl (λo a=>o|||2^a|||c.getD a 0) 0]).getD b 0=(h b).foldl (λo a=>o|||2^a|||c.getD a 0) 0:=by rw[<-z];simp
   rw[L]at k;rcases IJ _ _ _ _ k with r|⟨a,D,r⟩
   .simp at r
   grind
  grind
theorem IK {h:Array Oper}{d:Array Bool}{x:List Nat} (y:Bits (iS h) x) (z:AS h d) (L:d.size=h.size): ∀(k a b:Nat),b<=k->dep x a b=true->(∀c∈iS h b,d.getD c false=true)->d.getD a false=true:=by
 intro k
 induction k with
 |zero=>
  intro a b C r o;obtain⟨c,p,rfl|⟨_,D⟩⟩:=y b a r
  .exact o _ p
  .omega
 |succ k ih=>
  intro a b C r o;obtain⟨c,p,rfl|⟨E,D⟩⟩:=y b a r
  .exact o _ p
  .have F:=o c p;have G:c<d.size:=by grind
   refine ih a c a8Z E (z c a8Z ?_);simpa[G] using F
def AU {k:List Nat}{c d:di}{o:List di}: ∀ {h:List di}{b:List Nat},kn xs k c b (h++d::o)=true->dep k c.i d.i=true\/indep xs c d (b++h.map (·.i))=true
 | [],b,a=>by
  simp only[a4P,kn,a4A,a6g]at a;simpa using a.1
 |p::h,b,a=>by
  simp only[a5K,kn,a4A]at a;have:=AU a.2;simpa using this
theorem AV {d:List Nat}{b:di}{k:List di}: ∀ {a:List di},mO xs d (a++b::k)=true->(∀h∈a,dep d h.i b.i=false)->Pass xs b a
 | [],_,_=>trivial
 |h::a,c,o=>by
  simp only[a5K,mO,a4A]at c;refine⟨?_,AV c.2 (λp r=>o p (a5R _ r))⟩;have:=AU c.1;simp_all
theorem IL {a c:di}{d h:List Nat} (k:indep xs a c d=true) (o: ∀b,b∈d->b∈h\/(clear (xs a.i).dst (xs b).reads=true/\lQ (xs a.i).dst (xs b).dst=true)):indep xs a c h=true:=by simp only[indep,a4A]at k|-;grind
theorem AW {o:List Nat}{c:di}: ∀ {d:List di}{h k:List Nat},kn xs o c h d=true->(∀a,a∈h->a∈k\/(clear (xs c.i).dst (xs a).reads=true/\lQ (xs c.i).dst (xs a).dst=true))->kn xs o c k d=true
 | [],_,_,_,_=>rfl
 |p::d,h,k,b,hm=>by
  simp only[kn,a4A,a6g]at b|-;refine⟨b.1.imp id (λb=>IL b hm),AW b.2 λa r=> ?_⟩;grind
theorem AX {k:List Nat}{b d:di}{o:List di} (p:clear (xs b.i).dst (xs d.i).reads=true/\lQ (xs b.i).dst (xs d.i).dst=true): ∀ {h:List di}{c:List Nat},kn xs k b c (h++d::o)=true->kn xs k b c (h++o)=true
 | [],c,a=>by
  simp only[a4P,kn,a4A]at a|-;refine AW a.2 λr x=> ?_;grind
 |r::h,c,a=>by
  simp only[a5K,kn,a4A]at a|-;exact⟨a.1,AX p a.2⟩
def AY {d:List Nat}{h:di}{k:List di}: ∀ {b:List di},mO xs d (b++h::k)=true->Pass xs h b->mO xs d (b++k)=true
 | [],a,_=>by simp only[a4P,mO,a4A]at a|-;exact a.2
 |p::b,a,o=>by
  simp only[a5K,mO,a4A]at a|-;have c:=o.1;simp only[indep,a4A]at c;exact⟨AX ⟨c.1.1.1.1,c.1.1.2⟩ a.1,AY a.2 o.2⟩
theorem IM {k:Array Oper}{V:List Nat} (q:Bits (iS k) V) (s: ∀a c,c∈iS k a->c<a): ∀(y:Nat) (b:Array Bool) (d:List di),b.size=k.size->d.length<=y->
  (∀a,a∈d.map (·.i)↔(a<k.size/\b.getD a true=false))->(d.map (·.i)).Nodup->mO xs V d=true->AS k b-> ∀z C,can P xs j6 d z C->tz P xs k j6 y b z C:=by
 have t: ∀(b:Array Bool) (d:List di),b.size=k.size->(∀a,a∈d.map (·.i)↔(a<k.size/\b.getD a true=false))->Region.ready .any k b= []->d= []:=λb d D r W=>by
  cases d with
  |nil=>rfl
  |cons h X=>
   exfalso;have u: ∀G a,a<=G->a<k.size->b.getD a true=false-> ∃c,c∈Region.ready .any k b:=by
    intro G
    induction G with
    |zero=>intro a e o p;refine⟨a,wg.2 ⟨p,o,λc x=> ?_⟩⟩;have:=s a c x;omega
    |succ G ih=>
     intro a e o p;by_cases v: ∀c∈iS k a,b.getD c false=true
     .exact⟨a,wg.2 ⟨p,o,v⟩⟩
     grind
   obtain⟨o,p⟩:=(r h.i).1 a9a;obtain⟨c,x⟩:=u h.i h.i (a5c _) o p;rw[W]at x;cases x
 intro y
 induction y with
 |zero=>intro b d D g r _ _ _ z C L;have:d= []:=a4B a8Z;subst this;refine⟨?_,L⟩;simp_all [Region.ready]
 |succ y ih=>
  intro b d D g r w i j z C L;refine⟨λW=> ?_,λa e=> ?_⟩
  .have:=t b d D r W;subst this;exact L
  .obtain⟨o,p,l⟩:=wg.1 e;have A:=(r a).2 ⟨p,o⟩;obtain⟨h,B,rfl⟩:=a4R.1 A;obtain⟨E,S,rfl⟩:=a7a B;have H:(E.map (·.i)++h.i::S.map (·.i)).Nodup:=by simpa using w
   have I:(E.map (·.i)).Nodup:=(List.nodup_append.1 H).1;have m:=AV i λF f=>by
    cases K:dep V F.i h.i with
    |false=>rfl
    |true=>exfalso;have Y:=IK q j D h.i F.i h.i (a5c _) K l;grind
   have M:=AR h S E m I z C L;refine rC (λN O Q=> ?_) M;refine ih (b.setIfInBounds h.i true) (E++S) (by simp[D]) (by simp at g|-;omega) (λc=> ?_) ?_ (AY i m) ?_ N O Q.2
   .have Z:h.i∉(E++S).map (·.i):=by grind
    by_cases T:h.i=c;simp_all
    .rw[getD_set_ne true T,<-r c];grind
   grind
   .intro c x n F f;by_cases T:h.i=c
    .subst T;exact getD_set_true (l F f)
    .rw[getD_set_ne true T]at n;exact getD_set_true (j c x n F f)
end
inductive gh where
 |norm
 |exit (id:Nat)
 |ret
inductive dH where
 |skip
 |plain (ops:List c7)
 |draw (ops:List c7) (order:List di)
 |seq (a b:dH)
 |cond (c:Operand) (a b:dH)
 |block (id:Nat) (a:dH)
 |loop (a:dH)
 |exit (id:Nat)
 |ret
 |refuse
def nth (a:List c7) (b:Nat):c7:=a.getD b {dst:=none,op:= .eZ (.const (.bool true)),guard:=none}
def eO (a:Fr->U->Prop) (b:gh->Fr->U->Prop):gh->Fr->U->Prop
 | .norm=>a
 |c=>b c
def kV (id:Nat) (a:gh->Fr->U->Prop):gh->Fr->U->Prop
 | .exit b=>if b=id then a .norm else a (.exit b)
 |c=>a c
def bS (c:Ctx):dH->(gh->Fr->U->Prop)->Fr->U->Prop
 | .skip,a=>a .norm
 | .plain ops,a=>iR c ops (a .norm)
 | .draw ops order,a=>can c (nth ops) (a .norm) order
 | .seq h k,a=>bS c h (eO (bS c k a) a)
 | .cond z h k,a=>λb d=>match ak b z with
  | .v (.bool p)=>(p=true->bS c h a b d)/\(p=false->bS c k a b d)
  | _=>False
 | .block id h,a=>bS c h (kV id a)
 | .loop h,a=>λb d=> ∃(o:Fr->U->Prop) (r:Fr->U->Nat),o b d/\ ∀b d,o b d->bS c h (eO (λx y=>o x y/\r x y<r b d) a) b d
 | .exit id,a=>a (.exit id)
 | .ret,a=>a .ret
 | .refuse,_=>λ_ _=>False
def wh (a:Array Oper) (b:Oper):Option (Option (Nat×Bool)):=
 match b.guard with
 |none=>some none
 |some (c,want)=>match(a[c]?).bind (·.dst)with
  |some d=>some (some (d,want))
  |none=>none
def AZ (a:Nat):Option Nat->Bool
 |some b=>decide (b<a)
 |none=>true
def wi (a:List Nat):Option Nat->Bool
 |some b=> !a.contains b
 |none=>true
def q8 (c:Program) (b:Env) (d:Nat) (h:Array Oper) (a:Oper):Option c7:=
 match wa c b a,wh h a with
 |some k,some o=>if AZ d a.dst=true/\wi b.pins a.dst=true then some {dst:=a.dst,op:=k,guard:=o}else none
 | _,_=>none
def fs {a b:Type} (c:a->Option b):List a->Option (List b)
 | []=>some []
 |d::h=>match c d,fs c h with
  |some k,some o=>some (k::o)
  | _,_=>none
def wj (b:Nat->List Nat) (c:List Nat) (d:Nat->Bool) (left:List Nat):Option Nat:=left.find? λa=>(b a).all (λh=>c.contains h)&&d a
def B0 (b:Nat->List Nat) (c:Nat->c7):Nat->List Nat->List Nat->List Nat
 |0,_,_=> []
 |fuel+1,done,left=>
  match(wj b done (λa=>mN (c a).op||nP (c a).op) left).or ((wj b done (λa=> !kU (c a).op) left).or (wj b done (λ_=>true) left))with
  |some a=>a::B0 b c fuel (a::done) (left.filter (·!=a))
  |none=> []
def B1 (a:c7):Bool:=mN a.op||nP a.op
def marks (a:Nat->c7) (d:Nat->Nat->Bool):List Nat->List Nat->List di
 | _,[]=> []
 |ahead,b::h=>
  let k:=if B1 (a b)then []else h.filter λc=>(kU (a c).op||mN (a c).op)&& !d b c
  let o:=if B1 (a b)||kU (a b).op then []else ahead.filter λc=>nP (a c).op&& !d c b
  ⟨b,k,o⟩::marks a d (ahead++ [b]) h
def B2 (a:Array Oper) (b:Nat->c7):List di:=
 marks b (dep (tx (iS a) a.size [] 0)) [] (B0 (iS a) b a.size [] (List.range a.size))
def wk (a:Array Oper) (d:Nat->c7) (b:List di):Bool:=
 (List.range a.size).all (λc=>(iS a c).all (λh=>decide (h<c)))&&decide (b.length<=a.size)&&(List.range a.size).all (λc=>(b.map (·.i)).contains c)&&b.all (λk=>decide (k.i<a.size))&&
  decide ((b.map (·.i)).Nodup)&&mO d (tx (iS a) a.size [] 0) b
def tA:Code->List Oper
 | .region _ ops _=>ops.toList
 | .seq a b| .cond _ a b=>tA a++tA b
 | .block _ a| .loop a=>tA a
 | _=> []
def rG (a:List Nat):Operand->Bool
 | .tmp b=>a.contains b
 | _=>false
def derive (a:List Nat):List Oper->List Nat
 | []=>a
 |d::h=>match d.op,d.dst with
  | .fieldAddr _ b _,some c| .indexAddr _ b _,some c| .nilCheck b,some c=>derive (if rG a b then c::a else a) h
  | _,_=>derive a h
def IN (a:List Nat) (b:Oper):Bool:=
 match b.op with
 | .fieldAddr _ _ _| .indexAddr _ _ _| .nilCheck _| .load _ _| .slice _ _ _ _ _=>false
 |op=>op.operands.toList.any (rG a)
def IP (a:List Nat) (b:Oper):Bool:=
 match b.op with
 | .slice _ c _ _ _=>rG a c
 | _=>false
def IQ (a:List Nat) (h:Oper):List Nat:=
 let p (a:List Nat) (b:Operand):List Nat:=match b with| .tmp k=>if a.contains k then a else k::a| _=>a
 let c (b:Operand):List Nat:=match h.dst with
  |some d=>if a.contains d then p a b else if rG a b then(if a.contains d then a else d::a)else a
  |none=>a
 match h.op with
 | .move b| .assign b=>c b
 | .slice _ b _ _ _=>c b
 | .call o=>match o.callee,o.args.toList with
  | .builtin .append,[b,_]=>c b
  | _,_=>a
 | _=>a
def wm (b:List Oper):Nat->List Nat->List Nat
 |0,a=>a
 |d+1,a=>let c:=b.foldl IQ a;if c.length=a.length then a else wm b d c
def B3 (c:Program) (a:List Oper):List Nat:=
 a.filterMap λb=>match b.op,b.dst with
  | .indexAddr d (.tmp h) _,some k=>if !(match c.underlying d with|some (.slice _)=>true| _=>false)then none else let o:=derive [k] a;if a.any (λp=>match p.op with| .store _ r _=>rG o r| _=>false)then some h else none
  | _,_=>none
def IS (b:Program) (c:List Nat) (a:Oper):Bool:=
 match a.op,a.dst with
 | .convert st _ _,some d=>(match b.underlying st with|some .string=>true| _=>false)&&c.contains d
 | _,_=>false
def IT (d:Program) (b:Code):Env:=
 let a:=tA b
 let h:=(a.filterMap λc=>match c.op with| .box _ _=>c.dst| _=>none).filter λo=>let k:=derive [o] a;a.any (IP k)&& !a.any (IN k)
 {jt:=h,Av:=derive h a,wr:=a.filterMap λc=>match c.op with| .call b=>(match b.callee,b.args.toList with| .builtin .copy,.tmp p:: _=>some p| _,_=>none)| _=>none,ts:=wm a 40 (B3 d a),ty:=false,lP:=a.any (IS d (wm a 40 (B3 d a)))}
def gR (b:Program) (a:Env) (c:Nat):Code->Option dH
 | .skip=>some .skip
 | .region _ ops false=>match fs (q8 b a c ops) ops.toList with
  |some xs=>some (.plain xs)
  |none=>if a.Aw=true then some .refuse else none
 | .region _ ops true=>match fs (q8 b a c ops) ops.toList with
  |some xs=>if wk ops (nth xs) (B2 ops (nth xs))=true then some (.draw xs (B2 ops (nth xs)))else none
  |none=>none
 | .seq d h=>match gR b a c d,gR b a c h with
  |some k,some o=>some (.seq k o)
  | _,_=>none
 | .cond p d h=>match gR b a c d,gR b a c h with
  |some k,some o=>if aQ p=true then some (.cond p k o)else none
  | _,_=>none
 | .block id d=>(gR b a c d).map (.block id)
 | .loop d=>(gR b a c d).map .loop
 | .exit id=>some (.exit id)
 | .ret=>some .ret
 | .refuse _=>some .refuse
 | _=>none
def oT (a:List Deferred×List (Nat×Value)) (b:Act):Prop:=b.defers=a.1/\ ∀c∈a.2,b.tmps.getD c.1 undef=c.2
theorem oT.put {d:List Deferred×List (Nat×Value)}{a:Act} (h:oT d a) {b:Option Nat}{v:Value}{k:List Nat} (p: ∀c∈d.2,c.1∈k) (r:wi k b=true):oT d (a.put b v):=by
 refine⟨by rw[<-h.1];cases b<;>rfl,λc o=> ?_⟩;cases b with
 |none=>exact h.2 c o
 |some b=>
  have x:c.1≠b:=by rintro rfl;grind[wi,Bool.not_eq_true',decide_eq_false_iff_not]
  rw[<-h.2 c o];simp_all [Act.put,a4F]
def hG (c:List Deferred×List (Nat×Value)) (d:Nat) (h:bl) (k:U) (o:World) (p:Fr) (r:U) (a:Act) (x:World):Prop:=
 a.tmps.size=d/\oT c a/\ ∃b,bK b a p/\Step h k o b r x
def post (h:List Deferred×List (Nat×Value)) (D:R->U->Prop) (r:Nat) (k:bl) (o:U) (p:World) (x:gh->Fr->U->Prop):Exit->Act->World->Prop
 | .normal,b,d=> ∃a c,hG h r k o p a c b d/\x .norm a c
 | .exit id,b,d=> ∃a c,hG h r k o p a c b d/\x (.exit id) a c
 | .ret,b,d=> ∃a c,hG h r k o p a c b d/\x .ret a c
 | .panic E,b,d=>oT h b/\ ∃v z y C,E= [{v,recovered:=false}]/\Step k o p y C d/\aY y v z/\up D z C/\ ∃a,bK y b a
 | _,_,_=>False
variable{b5:FuncId}
section
variable  {env:Env}    {D:List Deferred×List (Nat×Value)}
def size_put (a:Act) (b:Option Nat) (v:Value):(a.put b v).tmps.size=a.tmps.size:=by cases b<;>simp[Act.put]
theorem B4 {c o:Type}{p:c->Option o}: ∀ {d:List c}{b:List o},fs p d=some b->d.length=b.length/\ ∀(r:Nat) (h:c),d[r]? =some h-> ∃k,b[r]? =some k/\p h=some k
 | [],b,a=>by simp only[fs,a4H]at a;simp_all
 |h::y,b,a=>by
  simp only[fs]at a;split at a
  case h_2=>cases a
  rename_i k z C x;obtain rfl:=a4v a;obtain⟨E,F⟩:=B4 x;grind
theorem IU {h:Array Oper}{o:Oper}{z:Option (Nat×Bool)} (c:wh h o=some z) {a:Act} (E:bK u a j):
  match z with
  |none=>Region.wanted o (yielded h a.tmps)=true
  |some (b,C)=>(∀p,j b= .v (.bool p)->Region.wanted o (yielded h a.tmps)=(p==C))/\(j b= .aK []->Region.wanted o (yielded h a.tmps)=false):=by
 unfold wh at c;split at c
 .rename_i x;obtain rfl:=a4v c;simp[Region.wanted,x]
 .rename_i F C x;split at c
  case h_2=>cases c
  rename_i b G;obtain rfl:=a4v c;have d:=E b;refine⟨λp y=> ?_,λy=> ?_⟩
  .rw[y]at d;have k:=d.dQ;have S:a.tmps[b]? =some (.bool p):=by
    rw[a5t]at k;cases r:a.tmps[b]? with
    |none=>rw[r]at k;cases k
    |some L=>rw[r]at k;simpa using k
   grind[yielded,Region.wanted]
  .rw[y]at d;have P:yielded h a.tmps F=none:=by
    unfold yielded;rw[G];simp only[Option.bind_some];cases r:a.tmps[b]? with
    |none=>rfl
    |some L=>rw[a5t,r]at d;simp only[a6r]at d;cases d;rfl
   simp[Region.wanted,x,P]
theorem B5 (L: ∀A∈D.2,A.1∈env.pins) {P:Array Oper}{b:Oper}{S:c7} (p:q8 m env e P b=some S) {d:Act} (B:hG D e u f l j t d h7) (H:T ⟨m,s⟩ S j6 j t) (x:Exit->Act->World->Prop) (I: ∀v k o a h,(∃j,bK o d j)->Step u f l o a h->aY o v k->up s k a->x (.panic [{v,recovered:=false}]) d h):
  if Region.wanted b (yielded P d.tmps)then b.wp m d h7 (λy h=> ∃c a,hG D e u f l c a y h/\j6 c a) x else∃c a,hG D e u f l c a (d.put b.dst undef) h7/\j6 c a:=by
 obtain⟨V,W,g,r,z⟩:=B;unfold q8 at p;split at p
 case h_2=>cases p
 rename_i K j9 M N;split at p
 case isFalse=>cases p
 rename_i i;obtain rfl:=a4v p;have n: ∀C,b.dst=some C->C<d.tmps.size:=λC k0=>by grind[AZ]
 have k1:=IU N r;have k2:G ⟨m,s⟩ K j t (λk a=>j6 (dk j b.dst k) a)->b.wp m d h7 (λy h=> ∃c a,hG D e u f l c a y h/\j6 c a) x:=λO=>by
  have:=Iy M r z.holds O x (λv k o a h q Q X=>I v k o a h ⟨j,r.mono q.le⟩ (z.trans q) Q X);refine Oper.wp_mono (λy h Y=> ?_) this;obtain⟨v,o,a,k,rfl,w,Z,F⟩:=Y;exact⟨dk j b.dst k,a,⟨by rw[size_put];exact V,W.put L i.2,o,(r.mono w.le).put b.dst n Z,z.trans w⟩,F⟩
 have k3:j6 (dk j b.dst (.aK [])) t-> ∃c a,hG D e u f l c a (d.put b.dst undef) h7/\j6 c a:=λF=>
  ⟨dk j b.dst (.aK []),t,⟨by rw[size_put];exact V,W.put L i.2,g,r.put b.dst n (aY.undef g),z⟩,F⟩
 unfold T E at H;grind
theorem B6 (F: ∀T∈D.2,T.1∈env.pins) {G:Array Oper}{o:Exit->Act->World->Prop}{L:Fr->U->Prop} (P: ∀b c a d,hG D e u f l b c a d->L b c->o .normal a d) (S: ∀a v p k r x,(oT D a/\ ∃b,bK k a b)->Step u f l k r x->aY k v p->up s p r->o (.panic [{v,recovered:=false}]) a x): ∀(y:List Oper) (z:List c7),fs (q8 m env e G) y=some z->
  ∀(b:Fr) (c:U) (a:Act) (d:World),hG D e u f l b c a d->iR ⟨m,s⟩ z L b c->wpList m G o y a d
 | [],z,h,b,c,a,d,C,E=>by
  simp only[fs,a4H]at h;subst h;exact P b c a d C E
 |n::y,z,h,b,c,a,d,C,E=>by
  simp only[fs]at h;split at h
  case h_2=>cases h
  rename_i q V W g;obtain rfl:=a4v h;have ih:=B6 F P S y V g;have:=B5 F W C E o (λv p k r x i=>S a v p k r x ⟨C.2.1,i⟩);simp only[wpList];split
  .rename_i j;rw[if_pos j]at this;grind[Oper.wp_mono]
  grind
def wo (G: ∀w∈D.2,w.1∈env.pins) {y:Array Oper}{z:Exit->Act->World->Prop}{j:Fr->U->Prop} (C: ∀b d a c,hG D e u f l b d a c->j b d->z .normal a c) (L: ∀a v E o h k,(oT D a/\ ∃b,bK o a b)->Step u f l o h k->aY o v E->up s E h->z (.panic [{v,recovered:=false}]) a k) {P:List c7} (S:fs (q8 m env e y) y.toList=some P):
  ∀(p:Nat) (F:Array Bool) (b:Fr) (d:U) (a:Act) (c:World),hG D e u f l b d a c->tz ⟨m,s⟩ (nth P) y j p F b d->wpAny m .any y z p F a c
 |0,F,b,d,a,c,r,x=>⟨x.1,C b d a c r x.2⟩
 |p+1,F,b,d,a,c,r,x=>by
  refine⟨λA=>C b d a c r (x.1 A),λT n=> ?_⟩;have q:=x.2 T n;obtain⟨_,B,t,_⟩:=mem_ready.1 n;obtain⟨H,I,K⟩:=(B4 S).2 T B (by simpa using t);have M:nth P T=H:=by simp[nth,I]
  rw[M]at q;have:=B5 G K r q z (λv E o h k N=>L a v E o h k ⟨r.2.1,N⟩);unfold wpOp;simp only[t];split
  .rename_i V;rw[if_pos V]at this;exact .inl (Oper.wp_mono (λO k ⟨W,h,g,i⟩=>wo G C L S p _ W h O k g i) this)
  .rename_i V;rw[if_neg V]at this;obtain⟨W,h,g,i⟩:=this;exact wo G C L S p _ W h _ c g i
theorem IV {a:Array Oper}{d:Nat->c7}{h:List di} (c:wk a d h=true) (p:can K d j6 h j f):tz K d a j6 a.size (Array.replicate a.size false) j f:=by
 simp only[wk,a4A,a4O,decide_eq_true_eq,a5O]at c;obtain⟨⟨⟨⟨⟨E,F⟩,G⟩,L⟩,x⟩,y⟩:=c;have r: ∀b k,k∈iS a b->k<b:=λb k P=>by
  grind[we,Array.getElem?_eq_some_iff]
 refine IM (AT r a.size [] 0 rfl (λb z c=>by simp[dep]at c)) r a.size _ h a9a a8Z (λb=> ?_) x y (λb o C=> ?_) j f p
 .constructor
  .intro o;obtain⟨z,p,rfl⟩:=a4R.1 o;simp_all
  simp_all
 .simp[o]at C
def oU (L:m.follows .mixedOrders=true) (G: ∀k2∈D.2,k2.1∈env.pins): ∀(r:Code) (x:dH),gR m env e r=some x-> ∀(p:gh->Fr->U->Prop) (b:Fr) (c:U) (d:Act) (k:World),hG D e u f l b c d k->bS ⟨m,s⟩ x p b c->r.wp m (post D s e u f l p) d k
 | .skip,x,a,p,b,c,d,k,h,bW=>by
  simp only[gR,a4H]at a;subst a;exact wp_skip ⟨b,c,h,bW⟩
 | .region id ops k3,x,a,p,b,c,d,k,h,bW=>by
  cases k3 with
  |false=>
   simp only[gR]at a;split at a
   case h_2=>
    split at a
    .obtain rfl:=a4v a;trivial
    .cases a
   rename_i Y n;obtain rfl:=a4v a;refine wp_region_list ?_;exact B6 G (λb c d k h y=>⟨b,c,h,y⟩) (λd v q t z E F P w A=>⟨F.1,v,q,t,z,rfl,P,w,A,F.2⟩) ops.toList Y n b c d k h bW
  |true=>
   simp only[gR]at a;split at a
   case h_2=>cases a
   rename_i Y n;split at a
   case isFalse=>cases a
   rename_i k4;obtain rfl:=a4v a;refine wp_region_any L ?_;obtain⟨k5,k6,k7,k8,Z⟩:=h;exact wo G (λb c d k h y=>⟨b,c,h,y⟩) (λd v q t z E F P w A=>⟨F.1,v,q,t,z,rfl,P,w,A,F.2⟩) n ops.size _ b c d _ ⟨k5,k6,k7,k8,Z.trans (Step.drew Z.holds)⟩ (IV k4 bW)
 | .seq c1 c2,x,a,p,b,c,d,k,h,bW=>by
  simp only[gR]at a;split at a
  case h_2=>cases a
  rename_i cd ca F P;obtain rfl:=a4v a;refine wp_seq (wp_mono (oU L G c1 cd F _ b c d k h bW) λC S E o=> ?_);cases C with
  |normal=>obtain⟨T,z,V,y⟩:=o;exact oU L G c2 ca P p T z S E V y
  |exit id=>exact o
  |ret=>exact o
  |goto j9=>exact o
  |panic B=>exact o
  |outgrown=>exact o
 | .cond r c1 c2,x,a,p,b,c,d,k,h,bW=>by
  simp only[gR]at a;split at a
  case h_2=>cases a
  rename_i cd ca F P;split at a
  case isFalse=>cases a
  rename_i k9;obtain rfl:=a4v a;simp only[bS]at bW;split at bW
  case h_2=>trivial
  rename_i n2 l0;have k0:=(h.2.2.choose_spec.1).ak r k9;rw[l0]at k0;refine wp_cond_split k0.dQ (λH=> ?_) (λH=> ?_)
  .exact oU L G c1 cd F p b c d k h (bW.1 H)
  .exact oU L G c2 ca P p b c d k h (bW.2 H)
 | .block id r,x,a,p,b,c,d,k,h,bW=>by
  simp only[gR]at a;obtain⟨I,K,rfl⟩:=a7c.1 a;refine wp_block (wp_mono (oU L G r I K _ b c d k h bW) λC S E o=> ?_);cases C with
  |normal=>exact o
  |exit n3=>
   obtain⟨T,z,V,y⟩:=o;simp only[Exit.inBlock];simp only[kV]at y;split
   .rename_i M;rw[if_pos M]at y;exact⟨T,z,V,y⟩
   .rename_i M;rw[if_neg M]at y;exact⟨T,z,V,y⟩
  |ret=>exact o
  |goto j9=>exact o
  |panic B=>exact o
  |outgrown=>exact o
 | .loop r,x,a,p,b,c,d,k,h,bW=>by
  simp only[gR]at a;obtain⟨I,K,rfl⟩:=a7c.1 a;obtain⟨l1,k1,N,l2⟩:=bW;intro O Q X;have l3: ∀g b c d k,k1 b c=g->l1 b c->hG D e u f l b c d k->
    ∃C S E,post D s e u f l p C S E/\Arrives m (lone (O.at d (.code r:: .inLoop r::Q)) X k) O Q X C S E:=by
   intro g
   induction g using Nat.strongRecOn with
   | _ g ih=>
    intro b c d k l4 N h;obtain⟨C,i,j,o,W⟩:=oU L G r I K _ b c d k h (l2 b c N) O (.inLoop r::Q) X;cases C with
    |normal=>obtain⟨T,z,V,l5,l6⟩:=o;obtain⟨l7,l8,l9,n0,n1⟩:=ih (k1 T z) (l4▸l6) T z i j rfl l5 V;exact⟨l7,l8,l9,n0,.of_steps (Steps.trans W (.one step_inLoop)) n1⟩
    |exit id=>exact⟨.exit id,i,j,o,.pass rfl (λ_ _=> .inl a9a) W⟩
    |goto j9=>trivial
    |ret=>exact⟨.ret,i,j,o,.pass rfl (λ_ _=> .inl a9a) W⟩
    |panic B=>exact⟨.panic B,i,j,o,.pass rfl (λ_ _=> .inl a9a) W⟩
    |outgrown=>trivial
  obtain⟨C,S,E,o,W⟩:=l3 _ b c d k rfl N h;exact⟨C,S,E,o,.of_steps (.one step_loop) W⟩
 | .exit id,x,a,p,b,c,d,k,h,bW=>by
  simp only[gR,a4H]at a;subst a;exact wp_exit ⟨b,c,h,bW⟩
 | .ret,x,a,p,b,c,d,k,h,bW=>by
  simp only[gR,a4H]at a;subst a;exact wp_ret ⟨b,c,h,bW⟩
 | .refuse n4,x,a,p,b,c,d,k,h,bW=>by
  simp only[gR,a4H]at a;subst a;trivial
structure aq where
 ntmps:Nat
 nparams:Nat
 code:dH
 results:List (Nat×Option (Bool×Nat))
def q9 (b:Program):ResultVar->Option (Nat×Option (Bool×Nat))
 | .tmp a=>some (a,none)
 | .cell d a=>match b.underlying a,km b a with
  |some c,some e=>if c.isRow=true\/e=1 then some (d,some (c.isRow,e))else none
  | _,_=>none
def Env.all (a:Env) (c:Nat) (b:Nat):Env:=
 match c with
 |1=> {a with ts:=List.range b}
 |2=> {a with ty:=true}
 |5=> {a with Aw:=true}
 |6=> {a with ts:=List.range b,vY:=true}
 | _=>a
def dr (a:Program) (c:Nat) (d:FuncId):Option aq:=
 match a.funcs[d]? with
 |some fn=>match fn.body with
  |some b=>match gR a ((IT a b).all c fn.ntmps) fn.ntmps b,fs (q9 a) fn.results.toList with
   |some h,some rs=>if fn.params.size<=fn.ntmps then some ⟨fn.ntmps,fn.params.size,h,rs⟩else none
   | _,_=>none
  |none=>none
 |none=>none
def gi (b:Fr) (c:U):Nat×Option (Bool×Nat)->Option R
 |(a,none)=>some (b a)
 |(a,some (agg,e))=>match b a with
  | .ptr d off=>match c.read d with
   |some cs=>if off+e<=cs.length then some (aX agg e (cs.drop off))else none
   |none=>none
  | _=>none
def iT (a:Fr) (b:U) (c:List (Nat×Option (Bool×Nat))):Option R:=
 match fs (gi a b) c with
 |some [d]=>some d
 |some h=>some (.aK h)
 |none=>none
def qa (d:aq) (h:R->U->Prop):gh->Fr->U->Prop
 | .exit _,_,_=>False
 | _,k,a=> ∃b c,iT k a d.results=some b/\c.sub a/\h b c
def lR (a:List R):Fr:=λb=>a.getD b (.aK [])
def rH (b:Array Value):ResultVar->Sem Value
 | .tmp a=>pure (b.getD a undef)
 | .cell c a=>do loadVar a (<-asAddr (b.getD c undef))
theorem IW {o:Act}{p:ResultVar}{k:Nat×Option (Bool×Nat)} (z:aY u (o.tmps.getD k.1 undef) (j k.1)) (P:Holds u f l) (d:q9 m p=some k) (b:gi j f k=some n):
  ∃v,(rH o.tmps p).run m l= .ok v l/\aY u v n:=by
 cases p with
 |tmp r=>simp only[q9,a4H]at d;subst d;simp only[gi,a4H]at b;subst b;exact⟨_,rfl,z⟩
 |cell C r=>
  simp only[q9]at d;split at d
  case h_2=>cases d
  rename_i x e E S;split at d
  case isFalse=>cases d
  rename_i V;obtain rfl:=a4v d;simp only[gi]at b;split at b
  case h_2=>cases b
  rename_i h a W;split at b
  case h_2=>cases b
  rename_i I g;split at b
  case isFalse=>cases b
  rename_i i;obtain rfl:=a4v b;have F:aY u (o.tmps.getD C undef) (j C):=z;rw[W]at F;have q:=F.kR;obtain⟨s,c,T,K,t,G⟩:=P.read g;have M:=G.1;cases y:x.isRow with
  |true=>
   have w:l.rangeAt h a ((c.toList.drop a).take e):=by intro N v O;grind[cell_of_row]
   have A:((c.toList.drop a).take e).length=e:=a9b;have L:=run_loadVar_mid l h a r ((c.toList.drop a).take e) x w E y (by rw[A];exact S);refine⟨.agg ((c.toList.drop a).take e).toArray,by simp only[rH,Sem.run_bind,q,asAddr,Sem.run_pure,Result.andThen_ok,L],?_⟩;rw[show((c.toList.drop a).take e).toArray=c.extract a (a+e) by grind];exact aY.aX G s a e i
  |false=>
   obtain rfl:=w2 V y;have B:a<c.size:=a8Z;have H:l.cell? ⟨h,a,none⟩=some (c.getD a undef):=by rw[cell_of_row l h a c T _ t];simp[B]
   have L:=vN l r x ⟨h,a,none⟩ _ E y H;grind[undef,rH,Sem.run_bind,asAddr,Sem.run_pure,Result.andThen_ok,aY.vM]
theorem B7 {p:bl}{E:Fr}{F:U}{G:Act}{r:World} (L:Holds p F r): ∀(k:List ResultVar) (c:List (Nat×Option (Bool×Nat))) (d:List R),(∀o∈c,aY p (G.tmps.getD o.1 undef) (E o.1))->fs (q9 m) k=some c->fs (gi E F) c=some d->
  ∃h:List Value,(k.mapM (rH G.tmps)).run m r= .ok h r/\h.length=d.length/\ ∀(x:Nat) (y:Value) (z:R),h[x]? =some y->d[x]? =some z->aY p y z
 | [],c,d,C,a,b=>by
  simp only[fs,a4H]at a;subst a;simp only[fs,a4H]at b;simp_all
 |j::k,c,d,C,a,b=>by
  simp only[fs]at a;split at a
  case h_2=>cases a
  rename_i o P S T;obtain rfl:=a4v a;simp only[fs]at b;split at b
  case h_2=>cases b
  rename_i l V W e;obtain rfl:=a4v b;obtain⟨v,n,q⟩:=IW (C o a9a) L S W;obtain⟨h,s,f,t⟩:=B7 L k P V (λg i=>C g (by simp[i])) T e;refine⟨v::h,?_,by simp[f],λx y z u w=> ?_⟩;simp_all;grind
theorem IX {k:Act}{c:Func}{o:List (Nat×Option (Bool×Nat))} (L: ∀F∈o,aY u (k.tmps.getD F.1 undef) (j F.1)) (P:Holds u f l) (S:fs (q9 m) c.results.toList=some o) (p:iT j f o=some n):
  ∃v,(results c k.tmps).run m l= .ok v l/\aY u v n:=by
 unfold iT at p;have G: ∀d,fs (gi j f) o=some d-> ∃a:Array Value,(results c k.tmps).run m l= .ok (if T:a.size=1 then a[0]else .tuple a) l/\a.toList.length=d.length/\ ∀(x) (y) (z),a.toList[x]? =some y->d[x]? =some z->aY u y z:=λd r=>by
  obtain⟨a,b,C,h⟩:=B7 P c.results.toList o d L S r;refine⟨a.toArray,?_,by trivial,λx y z e V=>h x y z (by trivial) V⟩;have W:results c k.tmps=(do let a <-c.results.mapM (rH k.tmps);pure (if T:a.size=1 then a[0]else .tuple a)):=rfl;rw[W,Sem.run_bind,Array.mapM_eq_mapM_toList,Sem.run_map];rw[b];rfl
 split at p
 .rename_i g r;obtain rfl:=a4v p;obtain⟨a,b,C,h⟩:=G _ r;have E:a.size=1:=by trivial
  rw[dif_pos E]at b;refine⟨_,b,h 0 _ _ ?_ rfl⟩;simp
 .rename_i d i r;obtain rfl:=a4v p;obtain⟨a,b,C,h⟩:=G _ r;have E:a.size≠1:=by grind[List.length_eq_one_iff]
  rw[dif_neg E]at b;exact⟨_,b,.aK _ _ (br.dP.2 ⟨C,h⟩).1 (br.dP.2 ⟨C,h⟩).2⟩
 .cases p
theorem IY (A:m.follows .mixedOrders=true) {C:aq} (b:dr m e b5=some C) (B:g.length<=C.ntmps) (q:bS ⟨m,a7⟩ C.code (qa C s) (lR g) f):hE m b5 g f s (up a7):=by
 intro h r o t H;unfold dr at b;split at b
 case h_2=>cases b
 rename_i p I;split at b
 case h_2=>cases b
 rename_i K M;split at b
 case h_2=>cases b
 rename_i N O Q X;split at b
 case isFalse=>cases b
 rename_i k3;obtain rfl:=a4v b;simp only at B q;refine calls_of_wp I M ?_;have u:=t.1;have Y:hG ([],[]) p.ntmps o f r (lR g) f {tmps:=h++Array.replicate (p.ntmps - h.size) undef,defers:= []} r:=by
  refine⟨a9b,⟨rfl,λS T=>by simp at T⟩,o,λc=> ?_,.refl H⟩;by_cases E:c<g.length
  .have V:lR g c=g[c]:=by simp[lR,E]
   rw[V];have:=t.2 c g[c] (a4w E);have W:(h++Array.replicate (p.ntmps - h.size) undef).getD c undef=h.getD c undef:=by simp[a8D,u,E]
   rw[W];exact this
  .have V:lR g c= .aK []:=by simp[lR,E]
   rw[V];have W:(h++Array.replicate (p.ntmps - h.size) undef).getD c undef=undef:=by simp only[a5t,a8D,u];grind
   rw[W];exact aY.undef o
 refine wp_mono (oU A (λS T=>by simp at T) K N Q _ _ _ _ _ Y q) λZ i x F=> ?_;have w:(∃G y,hG ([],[]) p.ntmps o f r G y i x/\ ∃a L,iT G y O=some a/\L.sub y/\s a L)->
   i.defers= []/\ ∃v,(results p i.tmps).run m x= .ok v x/\((∃z a d k,Ending.returned v= .returned z/\Step o f r d k x/\aY d z a/\s a k)\/(∃z a d k,Ending.returned v= .panicked [{v:=z,recovered:=false}]/\Step o f r d k x/\aY d z a/\up a7 a k)):=by
  rintro⟨G,y,⟨_,j,d,j9,P⟩,a,L,k0,k1,l⟩;obtain⟨v,k2,n⟩:=IX (λS _=>j9 S.1) P.holds X k0;exact⟨j.1,v,k2,.inl ⟨v,a,d,L,rfl,P.drop k1,n,l⟩⟩
 cases Z with
 |normal=>exact w F
 |ret=>exact w F
 |exit id=>obtain⟨G,y,_,k4⟩:=F;trivial
 |goto k5=>trivial
 |panic k6=>obtain⟨j,v,a,d,k,rfl,P,n,l,_⟩:=F;exact⟨j.1,.inr ⟨v,a,d,k,rfl,P,n,l⟩⟩
 |outgrown=>trivial
def IZ (b:m.follows .mixedOrders=true) {a:aq} (c:dr m e b5=some a) (d:g.length<=a.ntmps) (h:bS (Ctx.of m) a.code (qa a s) (lR g) f):AC m b5 g f s:=
 (IY b c d h).H5
end
abbrev aF (a:Nat):Operand:= .tmp a
abbrev lS (a:Int):Operand:= .const (.int .i64 a)
abbrev qb:Operand:= .const (.bool false)
abbrev J0:Operand:= .const (.slice none 0 0)
abbrev bD (a:Nat) (b:cb):c7:=⟨some a,b,none⟩
abbrev on (a:cb):c7:=⟨none,a,none⟩
abbrev fa (a:Nat) (b:Bool) (c:Nat) (d:cb):c7:=⟨some c,d,some (a,b)⟩
abbrev aB (a b:Nat):c7:=⟨some a,.eZ (.tmp b),none⟩
abbrev cD (a:Nat) (b:BinOp) (c d:Nat):c7:=⟨some a,.bin b (.tmp c) (.tmp d),none⟩
abbrev ft (a:Nat) (b:BinOp) (c:Nat) (d:Int):c7:=⟨some a,.bin b (.tmp c) (.const (.int .i64 d)),none⟩
abbrev oV (a b:Nat):c7:=⟨some a,.len (.tmp b),none⟩
abbrev bf (a:Nat):di:=⟨a,[],[]⟩
end Go.bx
set_option maxRecDepth 100000
namespace Go.Proofs.YtlgnfcaolejgeaaGreat
open Go Go.bx
theorem hm:Tryz.prog.follows .mixedOrders=true:=a9e
abbrev im:=List R
def J1:Nat->Operand
 |0=>(.const (.int .i64 0))
 |1=>(.const (.bool false))
 |2=>(.const (.int .i64 1))
 |3=>(.const (.slice none 0 0))
 |4=>(.const (.bool true))
 |5=>(.const (.pointer none))
 |6=>(.const (.int .i64 8))
 | _=>(.const (.int .i64 4))
def J2:Nat->Operand
 |0=>(.const (.int .i64 2))
 |1=>(.const (.int .u8 2))
 |2=>(.const (.int .u8 3))
 |3=>(.const (.int .u8 1))
 |4=>(.const (.int .i64 3))
 |5=>(.const (.int .i64 (-1)))
 |6=>(.const (.int .i64 64))
 | _=>(.const (.int .i64 21))
def J3:Nat->Operand
 |0=>(.const (.int .u8 0))
 |1=>(.const (.int .u64 0))
 |2=>(.const (.int .i64 16))
 |3=>(.const (.int .i64 1048576))
 |4=>(.const (.int .i64 6))
 |5=>(.const (.int .i64 9))
 |6=>(.const (.string ⟨#[116]⟩))
 | _=>(.const (.int .i64 7))
def J4:Nat->Operand
 |0=>(.const (.int .u64 8))
 |1=>(.const (.int .u64 32))
 |2=>(.const (.int .i64 10))
 |3=>(.const (.int .u64 9223372036854775808))
 |4=>(.const (.int .i64 5))
 |5=>(.const (.int .i64 56))
 |6=>(.const (.int .u64 16))
 | _=>(.const (.int .u64 256))
def J5:Nat->Operand
 |0=>(.const (.int .u8 4))
 |1=>(.const (.int .i64 256))
 |2=>(.const (.string ⟨#[99,97,110,110,111,116,32,98,101,32,110,101,103,97,116,105,118,101]⟩))
 |3=>(.const (.int .i64 32))
 |4=>(.const (.int .u64 4294967295))
 |5=>(.const (.int .i64 40))
 |6=>(.const (.int .i64 100))
 | _=>(.const (.int .i64 20))
def J6:Nat->Operand
 |0=>(.const (.string ⟨#[105,100]⟩))
 |1=>(.const (.int .u8 67))
 |2=>(.func 237)
 |3=>(.const (.int .u8 80))
 |4=>(.const (.int .u8 128))
 |5=>(.const (.int .u64 24))
 |6=>(.const (.int .u32 1779033703))
 | _=>(.const (.int .u32 3144134277))
def J7:Nat->Operand
 |0=>(.const (.int .u32 1013904242))
 |1=>(.const (.int .u32 2773480762))
 |2=>(.const (.int .u32 1359893119))
 |3=>(.const (.int .u32 2600822924))
 |4=>(.const (.int .u32 528734635))
 |5=>(.const (.int .u32 1541459225))
 |6=>(.const (.int .u32 256))
 | _=>(.const (.int .u32 1116352408))
def J8:Nat->Operand
 |0=>(.const (.int .u32 1899447441))
 |1=>(.const (.int .u32 3049323471))
 |2=>(.const (.int .u32 3921009573))
 |3=>(.const (.int .u32 961987163))
 |4=>(.const (.int .u32 1508970993))
 |5=>(.const (.int .u32 2453635748))
 |6=>(.const (.int .u32 2870763221))
 | _=>(.const (.int .u32 3624381080))
def J9:Nat->Operand
 |0=>(.const (.int .u32 310598401))
 |1=>(.const (.int .u32 607225278))
 |2=>(.const (.int .u32 1426881987))
 |3=>(.const (.int .u32 1925078388))
 |4=>(.const (.int .u32 2162078206))
 |5=>(.const (.int .u32 2614888103))
 |6=>(.const (.int .u32 3248222580))
 | _=>(.const (.int .u32 3835390401))
def Ja:Nat->Operand
 |0=>(.const (.int .u32 4022224774))
 |1=>(.const (.int .u32 264347078))
 |2=>(.const (.int .u32 604807628))
 |3=>(.const (.int .u32 770255983))
 |4=>(.const (.int .u32 1249150122))
 |5=>(.const (.int .u32 1555081692))
 |6=>(.const (.int .u32 1996064986))
 | _=>(.const (.int .u32 2554220882))
def Jb:Nat->Operand
 |0=>(.const (.int .u32 2821834349))
 |1=>(.const (.int .u32 2952996808))
 |2=>(.const (.int .u32 3210313671))
 |3=>(.const (.int .u32 3336571891))
 |4=>(.const (.int .u32 3584528711))
 |5=>(.const (.int .u32 113926993))
 |6=>(.const (.int .u32 338241895))
 | _=>(.const (.int .u32 666307205))
def Jc:Nat->Operand
 |0=>(.const (.int .u32 773529912))
 |1=>(.const (.int .u32 1294757372))
 |2=>(.const (.int .u32 1396182291))
 |3=>(.const (.int .u32 1695183700))
 |4=>(.const (.int .u32 1986661051))
 |5=>(.const (.int .u32 2177026350))
 |6=>(.const (.int .u32 2456956037))
 | _=>(.const (.int .u32 2730485921))
def Jd:Nat->Operand
 |0=>(.const (.int .u32 2820302411))
 |1=>(.const (.int .u32 3259730800))
 |2=>(.const (.int .u32 3345764771))
 |3=>(.const (.int .u32 3516065817))
 |4=>(.const (.int .u32 3600352804))
 |5=>(.const (.int .u32 4094571909))
 |6=>(.const (.int .u32 275423344))
 | _=>(.const (.int .u32 430227734))
def Je:Nat->Operand
 |0=>(.const (.int .u32 506948616))
 |1=>(.const (.int .u32 659060556))
 |2=>(.const (.int .u32 883997877))
 |3=>(.const (.int .u32 958139571))
 |4=>(.const (.int .u32 1322822218))
 |5=>(.const (.int .u32 1537002063))
 |6=>(.const (.int .u32 1747873779))
 | _=>(.const (.int .u32 1955562222))
def Jf:Nat->Operand
 |0=>(.const (.int .u32 2024104815))
 |1=>(.const (.int .u32 2227730452))
 |2=>(.const (.int .u32 2361852424))
 |3=>(.const (.int .u32 2428436474))
 |4=>(.const (.int .u32 2756734187))
 |5=>(.const (.int .u32 3204031479))
 |6=>(.const (.int .u32 3329325298))
 | _=>(.const (.int .u64 1))
def Jg:Nat->Operand
 |0=>(.const (.int .i64 15))
 |1=>(.const (.int .u64 2))
 |2=>(.const (.int .u32 0))
 |3=>(.const (.string ⟨#[108,101,110,32,111,117,116,32,111,102,32,114,97,110,103,101]⟩))
 |4=>(.const (.int .i64 30))
 |5=>(.const (.string ⟨#[97]⟩))
 |6=>(.const (.int .i64 300))
 | _=>(.const (.int .i64 50))
def Jh:Nat->Operand
 |0=>(.func 47)
 |1=>(.func 48)
 |2=>(.func 49)
 |3=>(.func 50)
 |4=>(.func 71)
 |5=>(.const (.int .i64 (-9223372036854775808)))
 |6=>(.const (.int .i64 9223372036854775807))
 | _=>(.func 84)
def Ji:Nat->Operand
 |0=>(.func 85)
 |1=>(.func 86)
 |2=>(.func 87)
 |3=>(.func 119)
 |4=>(.const (.int .i64 1000))
 |5=>(.const (.int .u64 9223372036854775807))
 |6=>(.const (.string ⟨#[116,104,101,32,114,101,115,117,108,116,32,111,102,32,40,108,101,110,40,120,41,32,42,32,99,111,117,110,116,41,32,111,118,101,114,102,108,111,119,115]⟩))
 | _=>(.const (.int .i32 97))
def Jj:Nat->Operand
 |0=>(.const (.int .i32 122))
 |1=>(.const (.int .i32 48))
 |2=>(.const (.int .i32 57))
 |3=>(.const (.int .i32 95))
 |4=>(.const (.int .u8 97))
 |5=>(.const (.int .u8 122))
 |6=>(.const (.int .u8 48))
 | _=>(.const (.int .u8 57))
def Jk:Nat->Operand
 |0=>(.const (.int .u8 95))
 |1=>(.const (.int .i64 17))
 |2=>(.const (.int .i64 22))
 |3=>(.const (.int .i64 65536))
 |4=>(.const (.int .u64 18446744073709551615))
 |5=>(.func 227)
 |6=>(.const (.int .i64 255))
 | _=>(.const (.int .i64 24))
def Jl:Nat->Operand
 |0=>(.func 287)
 |1=>(.func 288)
 |2=>(.const (.string ⟨#[]⟩))
 |3=>(.const (.int .u64 4294967296))
 |4=>(.const (.int .u64 65536))
 |5=>(.const (.int .i64 (-6)))
 |6=>(.const (.int .i64 (-11)))
 | _=>(.const (.int .i64 (-25)))
def Jm:Nat->Operand
 |0=>(.const (.int .i64 (-2)))
 |1=>(.const (.int .i64 (-13)))
 |2=>(.const (.int .i64 (-22)))
 |3=>(.const (.int .u64 7))
 |4=>(.const (.int .u64 18))
 |5=>(.const (.int .u32 8))
 |6=>(.const (.int .u64 17))
 | _=>(.const (.int .u64 19))
def Jn:Nat->Operand
 |0=>(.const (.int .u32 1024))
 |1=>(.const (.int .u32 4294967295))
 |2=>(.const (.int .u64 6))
 |3=>(.const (.int .u64 11))
 |4=>(.const (.int .u64 25))
 |5=>(.const (.int .u64 13))
 |6=>(.const (.int .u64 22))
 | _=>(.const .nilFunc)
def Jo:Nat->Operand
 |0=>(.const (.int .i64 (-7)))
 |1=>(.const (.int .i64 (-18)))
 |2=>(.const (.int .u64 3))
 |3=>(.const (.int .i64 (-17)))
 |4=>(.const (.int .i64 (-19)))
 |5=>(.const (.int .u64 10))
 |6=>(.const (.int .u64 31))
 | _=>(.const (.int .i64 63))
def Jp (a:Nat):Operand:=
 match a/8%8 with
 |0=>J1 (a%8)
 |1=>J2 (a%8)
 |2=>J3 (a%8)
 |3=>J4 (a%8)
 |4=>J5 (a%8)
 |5=>J6 (a%8)
 |6=>J7 (a%8)
 | _=>J8 (a%8)
def Jq (a:Nat):Operand:=
 match a/8%8 with
 |0=>J9 (a%8)
 |1=>Ja (a%8)
 |2=>Jb (a%8)
 |3=>Jc (a%8)
 |4=>Jd (a%8)
 |5=>Je (a%8)
 |6=>Jf (a%8)
 | _=>Jg (a%8)
def Jr (a:Nat):Operand:=
 match a/8%8 with
 |0=>Jh (a%8)
 |1=>Ji (a%8)
 |2=>Jj (a%8)
 |3=>Jk (a%8)
 |4=>Jl (a%8)
 |5=>Jm (a%8)
 |6=>Jn (a%8)
 | _=>Jo (a%8)
def B8 (a:Nat):Operand:=
 match a/64 with
 |0=>Jp a
 |1=>Jq a
 | _=>Jr a
def Js:Nat->cb
 |0=> .kj
 |1=>(.kd 87 (.tmp 0))
 |2=>(.ju 1 32 (.tmp 5) none none)
 |3=>(.eqv true [(2,(.int .u64))] (.tmp 36) (.tmp 37))
 |4=>(.ki (.tmp 6))
 |5=>(.mD (.tmp 7))
 |6=>(.lG (.tmp 13) (.tmp 14))
 | _=>(.eqv false [(32,(.int .u8))] (.tmp 6) (.tmp 8))
def Jt:Nat->cb
 |0=>(.eqv false [(2,(.int .u64))] (.tmp 6) (.tmp 7))
 |1=>(.lK true [(32,(.int .u8))] (.J [] .nil) (.tmp 12) (.tmp 13))
 |2=>(.kd 77 (.tmp 1))
 |3=>(.ju 1 32 (.tmp 3) none none)
 |4=>(.kf 1 32 (.tmp 59) none none true)
 |5=>(.pW false 1 8 (.tmp 50) (.tmp 51))
 |6=>(.kf 1 32 (.tmp 3) none none false)
 | _=>(.mA 1 (.tmp 11) (.tmp 12))
def Ju:Nat->cb
 |0=>(.lG (.const (.string ⟨#[0,1,2,2,3,3,3,3,4,4,4,4,4,4,4,4,5,5,5,5,5,5,5,5,5,5,5,5,5,5,5,5,6,6,6,6,6,6,6,6,6,6,6,6,6,6,6,6,6,6,6,6,6,6,6,6,6,6,6,6,6,6,6,6,7,7,7,7,7,7,7,7,7,7,7,7,7,7,7,7,7,7,7,7,7,7,7,7,7,7,7,7,7,7,7,7,7,7,7,7,7,7,7,7,7,7,7,7,7,7,7,7,7,7,7,7,7,7,7,7,7,7,7,7,7,7,7,7,8,8,8,8,8,8,8,8,8,8,8,8,8,8,8,8,8,8,8,8,8,8,8,8,8,8,8,8,8,8,8,8,8,8,8,8,8,8,8,8,8,8,8,8,8,8,8,8,8,8,8,8,8,8,8,8,8,8,8,8,8,8,8,8,8,8,8,8,8,8,8,8,8,8,8,8,8,8,8,8,8,8,8,8,8,8,8,8,8,8,8,8,8,8,8,8,8,8,8,8,8,8,8,8,8,8,8,8,8,8,8,8,8,8,8,8,8,8,8,8,8,8,8,8,8,8,8,8]⟩)) (.tmp 21))
 |1=>(.lK true [(32,(.int .u8))] (.J [] .nil) (.tmp 14) (.tmp 15))
 | _=>(.lL [(32,(.int .u8))] (.tmp 25) (.tmp 26) (.tmp 28))
def Jv (a:Nat):cb:=
 match a/8 with
 |0=>Js (a%8)
 |1=>Jt (a%8)
 | _=>Ju (a%8)
def Jw (a:Nat):Nat:=if 96<a then a - 97 else if 64<a then a - 39 else if 47<a then a+4 else a+26
def Jx (a:List im) (b:Nat):im:=a.getD b []
variable{b0:Type}
section
def cU (k:List Nat) (b:Nat->List Nat->b0):b0:=
 match k with
 |c::a=>if c<69 then b c a else if c=69 then(match a with|d::h::a=>b (d*71+h) a| _=>b 0 [])else(match a with|d::h::o::a=>b ((d*71+h)*71+o) a| _=>b 0 [])
 | []=>b 0 []
def Jy (a b:Nat) (c:Operand->List Nat->b0) (d:List Nat):b0:=
 match a - b with
 |h=>c (.tmp h) d
def bJ (h:Nat) (k:List Nat) (b:Operand->List Nat->b0):b0:=
 match k with
 |c::a=>if c<20 then b (.tmp c) a else if c<36 then Jy h (c - 20) b a else if c<70 then b (B8 (c - 36)) a else cU a λd a=>if d<1000 then b (.tmp d) a else b (B8 (d - 1000)) a
 | []=>b J0 []
def iU (b:List Nat) (a:Nat->List Nat->b0):b0:=
 match b with
 |c::d=>a c d
 | []=>a 0 []
def wq (a:List Nat) (b:Bool->List Nat->b0):b0:=iU a λc a=>if c=0 then b false a else b true a
def rI (b:List im) (a:List Nat) (c:im->List Nat->b0):b0:=iU a λd a=>c (Jx b d) a
def oW {c:Type} (d:List Nat->(c->List Nat->b0)->b0):Nat->List Nat->(List c->List Nat->b0)->b0
 |0,a,b=>b [] a
 |h+1,a,b=>d a λk a=>oW d h a λo a=>b (k::o) a
def qc (b:Nat) (a:List Nat) (c:List Operand->List Nat->b0):b0:=iU a λd a=>oW (bJ b) d a c
def rJ (c:Nat) (a:List Nat) (b:Option Operand->List Nat->b0):b0:=iU a λd a=>if d=0 then b none a else bJ c a λh a=>b (some h) a
def Jz (b:Nat) (a:List Nat) (c:Nat×Nat×Operand->List Nat->b0):b0:=cU a λd a=>cU a λh a=>bJ b a λk a=>c (d,h,k) a
def JA (b:Nat) (a:List Nat) (c:List (Nat×Nat×Operand)->List Nat->b0):b0:=iU a λd a=>oW (Jz b) d a c
def JB (a:List Nat) (b:UnOp->List Nat->b0):b0:=iU a λc a=>b (match c with|0=> .neg|1=> .xor|2=> .not| _=> .plus) a
def B9 (a:List Nat) (b:IntKind->List Nat->b0):b0:=iU a λc a=>b (match c with|0=> .i8|1=> .i16|2=> .i32|3=> .i64|4=> .u8|5=> .u16|6=> .u32| _=> .u64) a
def JC (a:List Nat) (b:di->List Nat->b0):b0:=cU a λc a=>iU a λd a=>oW cU d a λh a=>iU a λk a=>oW cU k a λo a=>b ⟨c,h,o⟩ a
def JD (a:List Nat) (b:Nat×Option (Bool×Nat)->List Nat->b0):b0:=cU a λc a=>iU a λd a=>if d=0 then b (c,none) a else cU a λh a=>b (c,some (if d=1 then false else true,h)) a
end
def JE (k:List im) (c:Nat):Nat->List Nat->cb×List Nat
 |0=>λa=>bJ c a λb a=>(.eZ b,a)
 |1=>λa=>bJ c a λb a=>(.load false 1 b,a)
 |2=>λa=>cU a λb a=>bJ c a λd a=>(.kO b d,a)
 |3=>λa=>cU a λb a=>qc c a λd a=>(.fT b d,a)
 |4=>λa=>cU a λb a=>bJ c a λd a=>(.load true b d,a)
 |5=>λa=>cU a λb a=>bJ c a λd a=>bJ c a λh a=>(.store b d h,a)
 |6=>λa=>bJ c a λb a=>(.len b,a)
 | _=>λa=>cU a λb a=>bJ c a λd a=>bJ c a λh a=>(.dG b d h,a)
def JF (h:List im) (d:Nat):Nat->List Nat->cb×List Nat
 |0=>λa=>bJ d a λb a=>cU a λc a=>(.ext b c,a)
 |1=>λa=>bJ d a λb a=>bJ d a λc a=>(.bin .add b c,a)
 |2=>λa=>bJ d a λb a=>(.pU b,a)
 |3=>λa=>bJ d a λb a=>bJ d a λc a=>bJ d a λk a=>(.pick b c k,a)
 |4=>λa=>bJ d a λb a=>bJ d a λc a=>(.bin .lss b c,a)
 |5=>λa=>cU a λb a=>bJ d a λc a=>(.box b c,a)
 |6=>λa=>bJ d a λb a=>bJ d a λc a=>(.bin .eql b c,a)
 | _=>λa=>cU a λb a=>rI h a λc a=>(.alloc b c,a)
def JG (o:List im) (d:Nat):Nat->List Nat->cb×List Nat
 |0=>λa=>rI o a λb a=>JA d a λc a=>(.lH b c,a)
 |1=>λa=>JB a λb a=>bJ d a λc a=>(.un b c,a)
 |2=>λa=>bJ d a λb a=>bJ d a λc a=>(.bin .neq b c,a)
 |3=>λa=>cU a λb a=>bJ d a λc a=>rJ d a λh a=>rJ d a λk a=>rJ d a λp a=>(.lM b c h k p,a)
 |4=>λa=>cU a λb a=>qc d a λc a=>(.ke b c,a)
 |5=>λa=>B9 a λb a=>bJ d a λc a=>(.iN b c,a)
 |6=>λa=>cU a λb a=>cU a λc a=>bJ d a λh a=>bJ d a λk a=>(.lJ b c h k,a)
 | _=>λa=>cU a λb a=>cU a λc a=>bJ d a λh a=>bJ d a λk a=>(.app b c h k,a)
def JH (o:List im) (b:Nat):Nat->List Nat->cb×List Nat
 |0=>λa=>bJ b a λc a=>bJ b a λd a=>(.bin .gtr c d,a)
 |1=>λa=>cU a λc a=>cU a λd a=>bJ b a λh a=>bJ b a λk a=>(.pV c d h k,a)
 |2=>λa=>bJ b a λc a=>bJ b a λd a=>(.bin .sub c d,a)
 |3=>λa=>cU a λc a=>qc b a λd a=>(.kh c d,a)
 |4=>λa=>bJ b a λc a=>bJ b a λd a=>(.bin .geq c d,a)
 |5=>λa=>bJ b a λc a=>bJ b a λd a=>(.bin .xor c d,a)
 |6=>λa=>bJ b a λc a=>bJ b a λd a=>(.bin .mul c d,a)
 | _=>λa=>cU a λc a=>bJ b a λd a=>rJ b a λh a=>rJ b a λk a=>(.oO c d h k,a)
def JI (k:List im) (b:Nat):Nat->List Nat->cb×List Nat
 |0=>λa=>bJ b a λc a=>bJ b a λd a=>(.bin .shr c d,a)
 |1=>λa=>cU a λc a=>bJ b a λd a=>bJ b a λh a=>(.mG c d h,a)
 |2=>λa=>bJ b a λc a=>bJ b a λd a=>(.bin .leq c d,a)
 |3=>λa=>cU a λc a=>qc b a λd a=>qc b a λh a=>(.bG c d h,a)
 |4=>λa=>bJ b a λc a=>bJ b a λd a=>(.bin .rem c d,a)
 |5=>λa=>bJ b a λc a=>qc b a λd a=>(.iO c d,a)
 |6=>λa=>bJ b a λc a=>bJ b a λd a=>(.bin .quo c d,a)
 | _=>λa=>bJ b a λc a=>bJ b a λd a=>(.bin .and c d,a)
def JJ (o:List im) (c:Nat):Nat->List Nat->cb×List Nat
 |0=>λa=>wq a λb a=>bJ c a λd a=>bJ c a λh a=>(.pY b d h,a)
 |1=>λa=>wq a λb a=>B9 a λd a=>bJ c a λh a=>bJ c a λk a=>(.lI b d h k,a)
 |2=>λa=>wq a λb a=>bJ c a λd a=>(.mB b d,a)
 |3=>λa=>bJ c a λb a=>bJ c a λd a=>(.bin .shl b d,a)
 |4=>λa=>bJ c a λb a=>bJ c a λd a=>(.bin .or b d,a)
 |5=>λa=>bJ c a λb a=>(.pX b,a)
 |6=>λa=>bJ c a λb a=>(.mE b,a)
 | _=>λa=>cU a λb a=>bJ c a λd a=>(.q1 b d,a)
def JK (k:List im) (c:Nat):Nat->List Nat->cb×List Nat
 |0=>λa=>bJ c a λb a=>(.mC b,a)
 |1=>λa=>bJ c a λb a=>(.pZ b,a)
 |2=>λa=>cU a λb a=>cU a λd a=>rI k a λh a=>bJ c a λo a=>bJ c a λp a=>(.mH b d h o p,a)
 |3=>λa=>bJ c a λb a=>bJ c a λd a=>(.mI b d,a)
 |4=>λa=>bJ c a λb a=>(.q0 b,a)
 |5=>λa=>cU a λb a=>rI k a λd a=>bJ c a λh a=>(.mF b d h,a)
 |6=>λa=>cU a λb a=>cU a λd a=>rI k a λh a=>bJ c a λo a=>bJ c a λp a=>(.kg b d h o p,a)
 | _=>λa=>cU a λr a=>(Jv r,a)
def Ba (b:List im) (c:Nat) (a:Nat):List Nat->cb×List Nat:=
 match a/8 with
 |0=>JE b c (a%8)
 |1=>JF b c (a%8)
 |2=>JG b c (a%8)
 |3=>JH b c (a%8)
 |4=>JI b c (a%8)
 |5=>JJ b c (a%8)
 | _=>JK b c (a%8)
def nQ (c:List im):Nat->Nat->Option (Nat×Bool)->List Nat->List c7×Nat×List Nat
 |0,b,_,a=>([],b,a)
 |p+1,b,d,a=>iU a λh a=>
  if h<56 then match Ba c b h a with|(r,a)=>match nQ c p (b+1) d a with|(k,o,a)=>(⟨some (b+1),r,d⟩::k,o,a)
  else if h=56 then cU a λx a=>iU a λh a=>match Ba c b h a with|(r,a)=>match x with
   |0=>match nQ c p b d a with|(k,o,a)=>(⟨none,r,d⟩::k,o,a)
   |x+1=>match nQ c p x d a with|(k,o,a)=>(⟨some x,r,d⟩::k,o,a)
  else if h=57 then([],b,a)
  else cU a λy a=>nQ c p b (if y=0 then none else some (y/2 - 1,if y%2=1 then true else false)) a
def nR (c:List im):Nat->Nat->List Nat->dH×Nat×List Nat
 |0,b,a=>(.skip,b,a)
 |d+1,b,a=>iU a λr a=>match r with
  |0=>(.skip,b,a)
  |1=>match nQ c d b none a with|(h,b,a)=>(.plain h,b,a)
  |2=>match nQ c d b none a with|(h,b,a)=>(.draw h ((List.range h.length).map bf),b,a)
  |3=>match nR c d b a with|(k,b,a)=>match nR c d b a with|(o,b,a)=>(.seq k o,b,a)
  |4=>bJ b a λx a=>match nR c d b a with|(k,b,a)=>match nR c d b a with|(o,b,a)=>(.cond x k o,b,a)
  |5=>cU a λp a=>match nR c d b a with|(k,b,a)=>(.block p k,b,a)
  |6=>match nR c d b a with|(k,b,a)=>(.loop k,b,a)
  |7=>cU a λp a=>(.exit p,b,a)
  |8=>(.ret,b,a)
  |9=>(.refuse,b,a)
  |10=>match nQ c d b none a with|(h,b,a)=>cU a λy a=>oW JC y a λz a=>(.draw h z,b,a)
  | _=>match nQ c d b none a with|(h,b,a)=>match nR c d b a with|(o,b,a)=>(.seq (.plain h) o,b,a)
def JL (h:List im) (b:List Char):aq:=
 cU (b.map λc=>Jw c.toNat) λk a=>cU a λd a=>iU a λb a=>oW JD b a λo a=>match nR h 999 d a with|(c,_,_)=>⟨k,d,c,o⟩
abbrev av (a b:Nat) (c:aq):Prop:=dr Tryz.prog a b=some c
variable{e i v O b8 j0:Nat}
def aw {a:aq} (b:dr Tryz.prog e i=some a:=by kernel_rfl):av e i a:=b
abbrev ax (m:String) {a:List Char}{b:List R->List R->List R->List R->List R->List R->List R->List R->List R->List R->List R->List R->List R->List R->List R->List R->List R->List R->List R->List R->List R->List R->List R->List R->List R->List R->List R->aq} (_:String.ofList a=m:=by rfl) (_: ∀c d h k o p r x y z C D E F G L P S T V W e f g i j l:List R,JL [c,d,h,k,o,p,r,x,y,z,C,D,E,F,G,L,P,S,T,V,W,e,f,g,i,j,l] a=b c d h k o p r x y z C D E F G L P S T V W e f g i j l:=by intros;conv=>lhs;cbv):aq:=
 b (((List.replicate 32 (.v (.int .u8 0))):List R)++([(.J [] .nil),(.J [] .nil)]:List R)++([(.v (.int .i64 0)),(.v (.int .i64 0))]:List R)++([(.J [] .nil)]:List R)) [(.J [] .nil),(.J [] .nil)] [(.v (.int .u8 0)),(.J [] .nil),(.J [] .nil)] (([(.v (.string ⟨#[]⟩))]:List R)++([(.J [] .nil)]:List R)++((List.replicate 32 (.v (.int .u8 0))):List R)++([(.J [] .nil),(.J [] .nil)]:List R)++([(.v (.int .i64 0)),(.v (.int .i64 0))]:List R)++([(.J [] .nil)]:List R)++((List.replicate 32 (.v (.int .u8 0))):List R)++([(.J [] .nil),(.J [] .nil)]:List R)++([(.v (.int .i64 0)),(.v (.int .i64 0))]:List R)++([(.J [] .nil)]:List R)) (List.replicate 32 (.v (.int .u8 0))) [(.v (.int .u64 0)),(.v (.int .u64 0))] [(.J [] .nil),(.v (.bool false))] [(.v (.bool false)),(.J [] .nil),(.J [] .nil)] [(.v (.int .u8 0)),(.v (.string ⟨#[]⟩)),(.J [] .nil),(.J [] .nil)] [(.J [] .nil),(.v (.int .i64 0))] [(.v (.pointer none)),(.v (.int .i64 0))] (List.replicate 8 (.v (.int .u32 0))) (List.replicate 64 (.v (.int .u32 0))) [(.J [] .nil)] [(.J [] .nil),(.v (.bool false)),(.v (.pointer none)),(.v (.pointer none))] [(.v (.pointer none)),(.J [] .nil)] [(.v (.string ⟨#[]⟩)),(.J [] .nil),(.J [] .nil),(.v (.pointer none)),(.v (.pointer none))] (List.replicate 5 (.v .nilFunc)) (((List.replicate 32 (.v (.int .u8 0))):List R)++([(.J [] .nil),(.J [] .nil)]:List R)++([(.v (.int .i64 0)),(.v (.int .i64 0))]:List R)++([(.J [] .nil)]:List R)++([(.v (.int .u64 0)),(.v (.int .u64 0))]:List R)++([(.v (.int .i64 0)),(.v (.int .i64 0))]:List R)) [(.v (.int .i64 0))] [(.J [] .nil),(.J [] .nil),(.v (.int .u8 0)),(.v (.int .i64 0)),(.J [] .nil),(.v (.int .i64 0)),(.v (.bool false))] [(.v (.int .u8 0)),(.v (.int .i64 0)),(.J [] .nil)] [(.v (.pointer none)),(.J [] .nil),(.J [] .nil),(.v (.int .u8 0)),(.v (.int .i64 0)),(.J [] .nil),(.v (.int .i64 0)),(.v (.bool false)),(.v (.int .i64 0)),(.J [] .nil),(.v (.int .i64 0)),(.v (.int .i64 0)),(.v (.int .i64 0)),(.J [] .nil)] [(.v (.map none)),(.J [] .nil),(.J [] .nil),(.v (.bool false))] (((List.replicate 8 (.v (.int .u32 0))):List R)++([(.J [] .nil)]:List R)++([(.v (.int .u64 0))]:List R)) [(.v (.int .u8 0))] [(.v (.int .u32 0))]
def JM:aq:=ax "+bVcbeal4faL5dl4odiarcn5eol4faL5iadl4qaadjbpaq6Kabdjbs6alrOt5eul4faO5ial4xaadkbu4wau4ziuaixb4gava,z5dl4BafOauP5eul4faO5ial4Dafdsbu4iau5l4Fagdtbu4jau5dlaK5fagdl4Hajabgumwuau6+beajmu,+p76alwuL5euahadfbl4Rahabajhevueeuducyu5baiabajhevueeudvcyu5b4PajjuM4kau5dl43afdwbu5eul4faO5iadl45afdybuagdzbudxcwurcuau6+b3ahdybuaidzbudxcwurcu6alAOuau6+caahdAbuafdAbuObwu6alzOu5eul4faL5iadl4laK5fcgdl4+bhakagkucaubugumzu5euahcdfdl4+brafagkucaubuakhbvubukucaubudBcEu4+bqau4+bDiuaiHb4mava,+bD5l4+bFamsuKau6+c>alagkucaubuakhbvubukuccubudCcEurcu6alHOu5eul4faL5iab4+boakjuM4lau5l4faO5i"
def JN:av 0 4 JM:=aw
def wu:aq:=ax "+bnabaal4baL5l4ndDa4cam5dl4oabOanP5eol4baL5ial4qabubb,+p8qidabVbb6cbqducpr4das5l4uabubcM<qidabUbb6dbuductu4eau5l4yabubcM4qidabUbb6dbuducwu4fau5l4CabubdSWRqidabUbb6dbuducwu4gau5l4GabubcM4qidab*bb6dbuducwu4hau5l4LabdBcu64Kau4Niuaixb4iava,N5l4PabqicabTbb6ducvu4kau5l4TabdBcu64Sau4Viuaixb4lava,V5l4XacouKau6+bGadouK6alwuLau6+bOaeouQ6alwuLau6+bWafou46alwuLau6+b4agou56alwuLau6+b<aiouK6alwuLau6+cbahubcM<ubbudCcwu6alyuLau6+cnajouK6alwuLau6+cvalouW6alwuL4bau5i"
def JO:av 0 8 wu:=aw
def JP:aq:=ax "7bbcalaL5dl4gaagfyg,+p95ehl4daO5iadlaK5fagdl4jadaagjmik5elahadfbdl4paaadheopcbqbrTsyt,+oSau6Saaadhevuccubuguyu,+oT6alBOuau6:aaadhevucdubuguyu,+p:6alBOu5eul4daO5ial4faK5fcgdl4OaeaaadhevuccubugumAu5euahcdfdl4YaaadhevuccubuaehbvubuTuyu,+oS5eul4daO5iab4WaejuM4fau5b4nadjmM4ean5l4daL5i"
def JQ:av 0 9 JP:=aw
def JR:aq:=ax "KbccadalaPaP5l4idDaqnan2i4fahaj5dlaK5fagdl4lagaaglmkman6Fagmp,+oR6aloqL5erahadfbl4vaeaaaghevueeuducyu5bafaaaghevueeudvcyu5b4tagjsM4hat5dl4Haedwbu5eul4daPaP5ial4Jaeaf4dava,J5i"
def JS:av 0 10 JR:=aw
def JT:aq:=ax "=ddgahaial4haNaLaK5l4raakqcbrbsabdLctu4qau4xipaipb4kp+bsd4af+bfj,wa,x5dl4zakrcu5eul4haNaLaW5ial4Be+bfjdNbudObu4mpAb4afcl,C5dk4EcalbucblbuacachbyK4afbuwhbxK4afbuw5kaaabaacaadaaeaafaagaahabdiaajaadk4NaakucaubuccjeLueclqucacufbMe+bfjdNbudMeAywu4Mau4YiuaiGbiHc4npNj4afcm,Xa,Ya,Z5taaabaacaadaaeaafaagaahaaiaajbpddfgkbpalaamaanaaoaapaaqaaraasaadl41aosuKau6+bNcambuguouK6alyOu5eulao4haNaLa,85ial4:cambuhbuKbu4hauaOaK5i"
def JU:av 0 12 JT:=aw
def JV:aq:=ax "Ccbeal4faK5dlaK5fagdlafaakhcaibjgkmgl5emahadfbl4qaakpcaqbrafhbstbukucaubuabovu5eulaf4fau5iab4oafjnM4gao5l4faX5i"
def JW:av 0 13 JV:=aw
def JX:aq:=ax "Acbeal4faL5dl4haaggabgishj5ekl4faL5iadlaK5fagdl4mafaagmmln5eoahadfbdc4saaafhbrsbtabafhbvubusyu5eul4faL5iab4qafjpM4gaq5l4faO5i"
def JY:av 0 14 JX:=aw
def JZ:aq:=ax "obbcalaP5dkaakdcaebfaakhcbibjdTbkqpcabgbbln+bxm4dan5maaabaacaadaaeaafaagaahaaiabdjaakaalaai"
def K0:av 0 18 JZ:=aw
def K1:aq:=ax "4bbcalaP5l4hqnan2g4eah5dlaK5fagdl4jaeaakjcakblgmmin5eoahadfbl4saakrcasbtaehbvubu4gau5c4zadadkucaubuafkucaubuafkucbubuafkuccubuafkucdubuafkuceubuqqfab,GbbGcbCdbyebunYuubbuxbi,Cuk,ycau4afbuw5b4qaejpM4faq5l44ad4dau5i"
def K2:av 0 19 K1:=aw
def K3:aq:=ax "rcbealn<baK5dl4heeddUbgrch5eil4faM5ial4kqrebb,+p;cb,+p<db,+p=eb,+p>4gp+bJr4afffj5dc4lcadbkzbfflbmaaeedLncop4faq5i"
def K4:av 0 20 K3:=aw
def K5:aq:=ax "+edcbealn<baK5dl4teeddZbsrct5eul4faM5ial4waacbdbudncwu4gau5dl4AcadbuouV5eudlafCuK5eul4faR5iadl4Faakucaubuguyu75eul4fa:5ial4haN5laL5dk4LcbdbuubaccdbuxbqwuqqcabybbunYu4jau5jaaabaadaaeaacaafabbgaahaaiaadlaK5fagdl4Tajaakucaubugumzu5euahadfbddc42ahrcuau6+bQaikucaubuaakucaubuajhbvubukucaubumEu6alJuL5eulagaiubbuxbiwu4hau5baO5ab4+bgagaakucaubuajhbvubuubbuxbiCu4hau5b40ajjuM4kau5dl4+bqahrcu5eubagaiubbuxbiwu4hau5al4+bwaaagkvcau4afbuw5l4faK5iadl4+bAafmuK5eul4faW5iadl4+bCcadbuouT5eul4laN5dlaK5fcgdl4+bFalaakucaubugumzu5euahcdfdl4+bOalafsvu5eubakaakucaubualhbvubuubbuxbiCu4lau5ab4+bMaljuM4mau5l4+b1aaakkvcau4afbuw5l4faK5ial4+b5aakucaubuafhbvubu4nau5ddc4+b<cddbuguamkucbubugujuMsAu5eul4fa45ial4oaN5laL5dlaK5fegdl4+cdapamkuccubugumzu5euahedffddc4+cmamkuccubuaphbvubuhbuKbucddbuhbuKbuoyu5eudlcadbuouU5eul4faQ5iadc4+cDamkuccubuaphbvubucddbudocwu5eul4paO5hfaab4+cNanamkuccubuaphbvubuubbuxbyCu4oau5b4+ckapjuM4qau5dc4+cXamkucaubuamkucbubuqqcabybbunYu4rau5dl4+c7cadbuou*5eudlaorcu5eul4fa55ial4+c<aqankvccu4afbuw5dc4+c+aqamkucdubucddbud0cwu4+c*au4+dgiuaiDbkDcdu4afbux5c4+dlaqamkuceubucddbud1cwu4+dkau4+dtiuaiDbkDceu4afbux5laqqvaanubacddbuxbiwuubbuxbyzudScBukDccu4afbuw5dc4+dKaqamkucdubucddbud2dwuK4+dJau4+dSiuaiDbkDcdu4afbux5c4+dXaqamkuceubucddbud3cwu4+dWau4+d5iuaiDbkDceu4afbux5lBbaaakucaubuwbiyu4sau5l4+d?arafaqhbwv4afbuv5laaarkvcau4afbuw5l4faK5i"
def K6:av 0 21 K5:=aw
def K7:aq:=ax "obbcalaL5l4iaadAbhd4bi4haj4ligaigbigc4eakalam5l4oaf4dan5i"
def K8:av 0 22 K7:=aw
def K9:aq:=ax "Bcbeal4faL5dl4haaggabgishj5ekl4faL5iadlaK5fagdl4mafaagmmln5eoahadfbdc4saaafh+bfrse+bftabafh+bfvue+bfud5cyurcu5eul4faL5iab4qafjpM4gaq5l4faO5i"
def Ka:av 1 23 K9:=aw
def Kb:aq:=ax "vbbcalaN5l4jaakicbjbkd6bl4iam4oihaihb4eanao5l4radd7bq4qar4tipaipb4gasat5l4vaf4dau5i"
def Kc:av 0 24 Kb:=aw
def Kd:aq:=ax "TbbcalaN5laN5dlaK5fagdl4haeaakhcaibjgkmgl5emahadfbl4qaakpcaqbraehbstbu4gau5k4xadafkucaubuafkucbubuafkucdubud8buafkuceubud9buqdeabIbbEcLzNLuu+bfbux+bf+d?,wu4eau5xaaabaacaadaaeaafaagaahaaiaajaakaalaamaaoaapaaqaaraanadeirsaceitaauaavaawaab4oaejnM4fao5l4Tad4dau5i"
def Ke:av 0 25 Kd:=aw
def Kf:aq:=ax "hbbcalaP5laakdcaebf4dag5i"
def Kg:av 0 26 Kf:=aw
def Kh:aq:=ax "Ecceafal4faNaK5l4kaakjcbkblabdLcmn4jao4qiiaiib4hp+bsd4af+bfgpaq5dl4sahrcr5esl4faNaW5iadk4uaaktcaubuccgeLue+bfgdNbud:dywuiuaivb4fava,D5naaabaacaadaaeaafaagaahacdfiaajaakaalaamaai"
def Ki:av 0 27 Kh:=aw
def Kj:aq:=ax "Bcbeal4faL5dl4haaggabgishj5ekl4faL5iadlaK5fagdl4mafaagmmln5eoahadfbdc4saaafhbrsbtabafhbvubudocyurcu5eul4faL5iab4qafjpM4gaq5l4faO5i"
def Kk:av 0 28 Kj:=aw
def Kl:aq:=ax "eabaal4baP5ld;aqpbabbn+bxc4bad5i"
def Km:av 0 29 Kl:=aw
def Kn:aq:=ax "vccec+bffal4fp+bsdaL5dl4jaagiaK5faglmkj5delahadfblh+bfike+bfm4ip+bsd4af+bfhn5l4pcahboabopq5erle+bfh4af+bfes4gaO5iab4ujkM4lat5l4vqda4af+bfeu4gaL5i"
def Ko:av 0 37 Kn:=aw
def Kp:aq:=ax "+bQediccjakaln+bqbnEc4jpNjaKaK5dl4uehgadd*cturcu5eulqja4afciu4kaKaM5ial4zaaehgadqwdabwbhvibun+b4u4mau5dl4EaleLfd+a+cvu5fagdlalkucnubuguyuK5euahafblalkucnubud+a,cu,+p?5lalkucnubuhPuKcaueLu4np+bqa4afLm,X5l4ZalalkucnubutPubMaakzcnu4afbuw5dlaleLmd+bbcvu5euhbal4;aaeLmadd+bcdwvu4:au4?iuaizb4op+b+c4afdn,>a,?5dl4+a+aosuK5eulqja4afciu4kaKaZ5ial4+bbalkuclubujuMkyclu4afbuw5dlcbnbuguaK5fcglmuv5deuahcdfdlhcxvecu4rp+ccg4afcq,+bn5b4+bpalecqd+bdcvu5bjAM4+blau5l4+btccnbuguaK5feglmuv5deuahedfflhLxveLu4tp+bqa4afLs,+by5b4+bAaleLsd+a+cvu5bjAM4+bwau5dk4+bEalkucjubualkuckubuqjcabybbualkuclubu4afciy4kauaK5qaaabaacaadaaeaafaagaahaaiaajaakaalaamaanabmoaapaai"
def Kq:av 6 38 Kp:=aw
def Kr:aq:=ax "hbbcal4cn+bsaaK5lcbbbdgejfM4dag5i"
def Ks:av 0 39 Kr:=aw
def Kt:aq:=ax "rbbccclpAb5dlaamdMae6maaygQ6alfOh5eilqba4afccj5ialubb,+p*aad+becklubb,+p+aad+becnoqbcabmbbp4afccq5i"
def Ku:av 0 40 Kt:=aw
def Kv:aq:=ax "Qcbeal4dnAa4faL5dl4habmgMah6sabyjQ6aliOkal6Acacbngoabspq6almOras6Ocbcbuguabsvu6altOu5eul4faL5iadlaK5fagdl4Bafabmvu5euahadfbdc4Gcacbuafhbvubucbcbuafhbvubuyzu5eul4faL5iab4EafjuM4gau5l4faO5i"
def Kw:av 0 41 Kv:=aw
def Kx:aq:=ax "+bgcbeal4dnCa4faL5dlabmfMag6qabyiQ6alhOj5ekl4faL5iadl4mcacblom05enlcbcboopKaq6LcccbsgtouK6alruL4fau5iadl4ycacbuouVau62cacbuouT6alxOu5eulcbcbuyuKau6+a,cbcbuouKau6+bicacbuouT6+a,lxuL6alCOuau6+bucbcbuabAuMIwu6alzuLau6+bIcccbuguouK6alyuL4fau5ial46cacbuouUau6+b0cbcbuouK6alxuLau6+b:abyuM6alwuLau6+b,cccbuguabAuMowu6alAuL4fau5i"
def Ky:av 0 42 Kx:=aw
def Kz:aq:=ax "+blcbeal4dnCa4faN5laN5dlaK5fagdl4lagabglmkm5enahadfbdc4redcabaghbrsbtgudQcqurcuau6YabaghbvubuguabhbuKbugusyu6alEOu5eul4faN5iab4pagjoM4hap5dlaK5fcgdl4Lahabgumwu5euahcdfdl4jaN5laK5dfegddc4Rajafgumwuau6+byedcabahhbvubuafajhbvubud+bfdCyurcu6alFuL5euahefflaiafajhbvubuubbuxbyzu4jau5b4?ajjuM4kau5l4+a+aiabahhbvubuubbuxbyzu4jau5l4+bfaiafajFbvbuaxbyxu4jau5b4+bkai4gau5b4PahjuM4iau5l4+blaf4fau5i"
def KA:av 0 44 Kz:=aw
def KB:aq:=ax "ibbcalaN5dlaaQad5eel4daN5ial4gB+bfaaaw+bf+d?fg4dah5i"
def KC:av 6 45 KB:=aw
def KD:aq:=ax "Zbbcal4cn<aaL5dlcbbbdd+bgbercf5egl4daL5iadl4icabbh5fal4loiV4kak5ejl4mccbbld+bhbman6FcdbbpgqorK6alosL4dat5il4woiT4vau5eul4xccbbuguouKau63cdbbuguouK6alyuL4dau5idl4IoiU4Hau5euab4Joi*4Hau5eul4KccbbuguouKau6+bkcdbbuguCuS6alyuLau6+bwcdbbuguIuQ6alyuL4dau5ial4daL5i"
def KE:av 0 46 KD:=aw
def KF:aq:=ax "Ccbealn<baK5dk4jaakicbjbkcbdbmccdbod+bjbpqdcabnbbqd+biclr4ias4uihaihb4gata,u5qaaabaacaadaaeaafaagaahaaiacdfjaakaalaamaanaaoaapaadl4wagouK5eubaaafkvcbu4afbuw5alag4fau5i"
def KG:av 0 47 KF:=aw
def KH:aq:=ax "ycbealn<baK5dc4jaakicbjbkcbdbmd+bkcln4iao4qihaihb4gapaq5dl4sagorK5esbaaafktcbu4afbuw5alag4fau5i"
def KI:av 0 48 KH:=aw
def KJ:aq:=ax "Pcbealn<baK5l4laaeedd+blckl4kam4oijaijb4gp+bsd4af+bffnao5dl4qagspK5eqlag4far5iadc4uaacbdbucddbuhbuKbudmdtyu4tau4Cisaisbisc4iawa,C4ha,D5dfal4GagsuK4Fau5eul4Iag4fau5il4Kai4Jau5eul4faQ5ial4Laae+bffcddbud+bmfxwu,+p,,+qa4fau5i"
def KK:av 0 49 KJ:=aw
def KL:aq:=ax "vcbealn<baK5l4jaaeedd+blcij4iak4mihaihb4gp+bsd4af+bfflam5dl4oagsnK5eolag4fap5ial4raae+bffcddbsd+bmfqrt,+qb,+qc4fau5i"
def KM:av 0 50 KL:=aw
def KN:aq:=ax "+bGbbcal4cn<aaL5dl4gcbbbfd+brbgrch5eil4daL5iadl4kcabbjokV5eldl4eaK5fagdl4nadccbbngommp5eqahadfbdl4uccbbtadhbvubud+brburcuau62ccbbuadhbvubuou,+oU6alAOu5eul4daL5ial4faK5fcgdl4Jaeadmvu5euahcdfddc4Occbbuaehbvubuccbbuadhbvubuozu5eul4daL5iab4MaejuM4fau5b4sadjrM4eas5l4ZccbbuguyuKau6+bOccbbugumuQ6alyuLau6+b0cdbbuguouK6alyuL4dau5iadl4?cabbuouT5eulccbbugucdbbugujxuouK4dau5ial4+bhcabbuouUau6+cucabbuou*6alxOuau6+cFccbbuguouK6alyuLau6+cRcdbbuguyuM6alyuLau6+c3cdbbugumu56alyuL4dau5i"
def KO:av 1 51 KN:=aw
def KP:aq:=ax "Dcceafal4faPaL5l4kaaabd+bsdjkK4jal4niiaiib4haman5dl4pahao6Hagd+btbqgrESsagd+bubumtu6alpuL5eubagd+btbud+bvcuK4hau5al4Cagah4fava,C5i"
def KQ:av 0 52 KP:=aw
def KR:aq:=ax "Pcceafal4faPaL5dl4iaad+bxbhabd+bwcijrck5ellaa4famaL5ial4oaaabd+bycno4hap5dl4ragkqcbrbsgtouM5eulagkucbubuhbuKbu4fauaO5iaddc4DagkucbubuguagkucaubugujzuouK5eul4faPaO5ial4Pag4fauaO5i"
def KS:av 0 53 KR:=aw
def KT:aq:=ax "+bvdcgahal4haPaL5dl4laaOakP5ellabqocabmbbOn+cyn4haoaO5iadc4qaakpcaqbraaktcbubuaakuccubuaakucdubuqoeabsbbCcbydbun+cyu4jau5dl4Iaakucaubuabdocvu5eulaikucbu4afbuO5dkaiacd+bzcvuaakucbuburcu4haza,X5kaaabaadaaeaafaagaahaacabgiaajaaial4kaL5ddc4ZabaakucaubuacabguKwud+bAdCyu5eub4:aiaakuccubuabacjuMd2dxwu49au4+baiuaiEbkEccu4afbux4kaw5b4+bfaiaakucdubuabacjuMd2dxwu4+beau4+boiuaiEbkEcdu4afbux4kaw5l4+bsaiacd+bzcvuaj4hava,+bu5i"
def Bb:av 0 54 KT:=aw
def KU:aq:=ax "vcceafal4faPaL5dlaaOagP5ehlabubbiqbbabjn+cwk4falaO5iadl4naad+bxbmabd+bwcno5eplaa4faqaL5ial4saaabd+bCcrsd+bBbt4fauaO5i"
def Bc:av 0 55 KU:=aw
def KV:aq:=ax "tbdcadaealaNaNaL5dkaakfcbgbhd+bDbiaakkcclbmd+bDbnaakpcdqbr4dajaoas5raaabaacaadaafaagaahaaiaakaalaamaanaaeacinjabnoaapaaqaai"
def KW:av 0 56 KV:=aw
def KX:aq:=ax "2cbeal4dn+bsan+bsbaL5dl4hcacbgcadbishjak6ycbcbmgncbdbpgqsor6allOsat6QccceLuccdeLud+bEcwurcu6alAOuau66cNceLucNdeLud+bEcwurcu6alAOu5eul4faL5iadlaK5fagdl4Lafcbcbugumxu5euahadfbdc4Scbcbuafhbvubucbdbuafhbvubuszu5eul4faL5iab4QafjuM4gau5l4faO5i"
def KY:av 1 57 KX:=aw
def KZ:aq:=ax "9bccadalaNaK5dl4kaad+bFbjrck5ell4daNaM5ial4nqjan+cKm4fan5l4paeaagpveqd+bGcor5dlaagtaK5faglmuv5deuahadfblh+bftve+bfu4hp+bsd4af+bfg,y5l4Aaecagbu0ud+bHcxu5laecbgbuguveud+bGcyu5dlcbgbuguaK5fcglmuv5deuahcdfdlhbxvbu4jau5b4Saeai0ud+bHcwu5bjBM4Oau5l4XaeccgeLud+bIcwu5baecNgeLud+bIcwu5bj,vM4wau5l46aed+bJbuaed+bKbu4dawa,85i"
def L0:av 0 58 KZ:=aw
def L1:aq:=ax "NbccadalaNaK5l4jaad+bLbi4faj5laN5dl4laed+bMbkvdlPadm5aK5faglmon5depahadfbbafaed+bNbru+bfbsx+bf+d?qt4gau5b4wjoM4pau5dl4xaed+bObusuK5eul4daNaZ5iadl4Bafd6bu4Aau4Diuaixb4hava,D5l4FahsuKau6>agaad+bPcvurcu6alyOu5eul4daNaZ5ial4Naf4dauaK5i"
def L2:av 0 59 L1:=aw
def L3:aq:=ax "pbbccLlp+bqa5dl4gaaOafP5eglqaa4afLch5ial4kaad+bRbjd+bQbk4jal4niiaiib4ep+bqa4afLdman5l4peLd4afLco5i"
def Be:av 0 60 L3:=aw
def L4:aq:=ax "pbbccLlp+bqa5dl4gaaOafP5eglqaa4afLch5ial4kaad+bSbjd+bQbk4jal4niiaiib4ep+bqa4afLdman5l4peLd4afLco5i"
def Bf:av 0 61 L4:=aw
def L5:aq:=ax "Bdcgahaln+bqb4haNaK5dl4lacd+bTckNrcl5eml4haNaM5ial4paaacqkcabobbpeLed+bUcqr4oas4uinainb4jata,u5dl4wajsuK5eulaj4haNa,x5ial4zaid+bVcu,+qd5lai4hauaK5i"
def L6:av 6 62 L5:=aw
def L7:aq:=ax "eabaal4baP5l3aqxbabbn+cFc4bad5i"
def L8:av 0 63 L7:=aw
def L9:aq:=ax "6cbeal4dnEa4faL5dfal4habmgMah6sabyjQ6aliOkal6Acacecnabd+b4coprcq6almOr4gas5efl4faL5il4vcgcbu4uau5etl4xcfcbuouKau61ccccaubuou06alyuLau6=ccccbubuouK6alyuLau6+bgcccccubuguouK6alzuL4fau5ial4Tccceduabd+b5cvuau6+bCcfcbuCuX6alxuLau6+bMcfcbuIu,+qe6alxuL4fau5i"
def La:av 6 68 L9:=aw
def Lb:aq:=ax "+bCcaln+bqb5ddc4iaakhcbicgjbkal6BcIdbnyoK6almpLaq6LaakscbtcauecucGdecud+b6cwu6alruL5eucaakuckubucIdbujwukAcku4afbuw5addcaakucbuehueLdd+b7cvurcu5euialaakucmubujuMkycmu4afbuw5dceLdaakucmubuqscaLyObu4fp+b;s4afPe,35ddk46aakucbucauecucGdecud+b8cwu45au4>iuaiDb4gpAb4afcf,=a,>5oaaabaacaadaaeaafaagaahblaiaajaakaalaamaanaal4*agau6+b*aakucbucguburcu6alAuL5euc4+bhaakucbuccueduecfd+b9cvu4+bgau4+boiuaiCbiDccLe4afcuxcNe4afbux5acaaaakucnubuePeBPbuwP+ckwukBcnu4afbuw5"
def Lc:av 6 69 Lb:=aw
def Ld:aq:=ax "Fcbeal4dn+b;an+b;baK5dl4hcLcecgcLdecid+b;chj4gak5fal4nafsmK4man5ell4paf4fao5il4rcNcbqcNdbssrt4qau5epdl4wcNcbucNdbumwu5eul4faX5ial4faM5ial4BcOcbucOdbuAwu4fau5i"
def Le:av 6 71 Ld:=aw
def Lf:aq:=ax ":cbealn+bqbaL5dc4haakgcbhcgibjrckal6BaakncbocfpbqCrK6almsLat6Raakucjubuguaakucbucfubuozu6alFuL4gau5dc4Iafau6+baaakucbucfubuouKau6+bnaakucbuehueLdaakucjubuaakucjubuguAuMhbAubud+b<dHGu6+bal,POu6al,IuL4fau5i"
def Lg:av 6 72 Lf:=aw
def Lh:aq:=ax "Wdcgcdhaln+bqb4hp+b+caK5l4paacaeeGpd+b=coq4oar4tinainb4jasat5dl4vajsuK5eulqca4afdgu4iaZ5ial4zaiacd+b>cvu4yau4Ciuaiyb4lp+b+c4afdk,B4ka,C5dl4EajsuK5eulqca4afdgu4iaZ5iadl4Iedkacd+b?cvu4Hau4Liuaiyb4mp+bqa4afLl,Ka,L5l4NamsuKau6+bleLleLed+b*cvurcu6alyOu5eulqca4afdgu4iaZ5ial4Wedk4afdgu4iaK5i"
def Li:av 0 73 Lh:=aw
def Lj:aq:=ax "0caln+ccb5ddccbdbercfag6qaakicbjcakeclcadbnd+b+cmorcp6alhOq5eriadlaakscbtcgubu5eulaakuckubujuMkycku4afbuw5iakaaaakucbuccueduaakucjubucadbuBbbuwbyxud+cacCuaakucbuehud+b,cyuk,Ecju4afbuw5xaaabaacaadaaeaafaagaahaaiaajaakaalaapaaqaaraasaamaanacfsoabstaauaavaawaa"
def Lk:av 6 74 Lj:=aw
def Ll:aq:=ax "Wcbeal4faN5dl4kabmjK5ekbVj,+oO4aWl5al4oaagnvhoabvhqd+cbcpr4nas4uimaimb4gata,u5dl4wafyu1au6Wagyu,+qf6alwOu5eubVj,+qg4aWu5alagvdu2bituu4iau5l4GahaaHbvu4jau5dfagdl4Jaiahgumwu5euahafbcaiahaitbvbuaaahaitbvabuaHbxujBu4jau5l4Wah4fau5i"
def Lm:av 6 75 Ll:=aw
def Ln:aq:=ax "Xdbgal4enCa4haL5l4neddabd+cccmn4mao4qilailb4ip+b9f4afchpaq5l4teddacd+cccst4sau4wirairb4kp+b9f4afcj,va,w5dl4yaircuau60akrcu6alwOuau68abguacguswu6alzOu5eul4haL5iadl4Lechecj3d5eulechecjd+cdcvu4hau5iadc4RabhbuKbuachbuKbumxu4hau5i"
def Lo:av 0 76 Ln:=aw
def Lp:aq:=ax "SbbcalaL5dl4haa3e5fagl3fiia5dejahafbliibiic4eakal5l4naeCm,+qhan6FaeIp,+qi6aloqL4gar5l4tafrcsat6RadouKau6Waemu,+qjau62aeyu,+qk6WlwOuau6;aesu,+ql6WlwuL6RlEOu6alIuL5eul4daL5ial4LaaTuCuMau6+bkaaTuIu26alxuL4dau5i"
def Lq:av 0 77 Lp:=aw
def Lr:aq:=ax "JbbcalaL5dl4gaagfaK5faglmhg5deiahadfblahhbfhbk4eajal5l4naed+bgbmrcnao6Gaeoq,+oU6alpOras6OaaadFbvabuaed+cecvu6altOu5eul4daL5iab4BjhM4iau5l4CaaguCuMau6;aaguIu76alxuL4dau5i"
def Ls:av 0 78 Lr:=aw
def Lt:aq:=ax "Jcceafaln+bsbaNaK5dl4jaad+bFbircjak6ye+bfdd+cfbmrcn6allOo5epl4faNaM5ial4saacadbsd+cgcrt4rau4wiqaiqb4hava,w5dfal4zah4yau5eul4faNaR5il4BaaguCuQ4Aau5eul4faNa:5iadk4EaadTbuage+bfdB+bfbud+chdxwu4fauaK5iaaacaadaabbebdeaafaagaahaai"
def Lu:av 6 79 Lt:=aw
def Lv:aq:=ax "ibbcalaN5dlaaQad5eel4daN5ial4gubaaaxbqfg4dah5i"
def Lw:av 0 80 Lv:=aw
def Lx:aq:=ax "zcceafal4faNaK5dl4jaad+bFbircj5ekl4faNaM5ial4naaabd+cgcmn4mao4qilailb4hapaq5dl4sahrcr5esl4faNaW5ial4uaadTbtagagjuMd+cidxwu4fauaK5i"
def Ly:av 0 81 Lx:=aw
def Lz:aq:=ax "Fccec+bffaln<bp+bsdaK5dk4kaakjcbkblcbdbndLcmo4jap4riiaiib4hp+bsd4af+bfgqar5naaabaacaadaaeaafaagbkahaaiaajaakaalaamaadfal4uahrct4tau5esl4we+bfg4af+bfeu4gaW5idk4ycddbugue+bfgdNbuswu4xau5haaabaacaadaaeabbfaagaaeul4Ee+bfg4af+bfeu4ga45ial4Fe+bfg4af+bfeu4gaK5i"
def LA:av 0 82 Lz:=aw
def LB:aq:=ax "+a,fbkaln+bsb4laK5l4re+bfgdNbq4mar5dk4uadaakucaubuccgeLuacalLteywvu4tau4Eisaisb4np+bqa4afLm,Da,E5qaaabaacaadaaeaafaagaahaaiaajbnakaalaamaanaaoaapaadl4GansuK5eulan4lau5iadk4KaeaakucaubucNgeLuacalLCeywvu4Jau4UiuaiFb4pp+bqa4afLo,T4oa,U5qaaabaacaadaaeaafaagaahaaiaajbnakaalaamaanaaoaapaadl4WansuK5eulan4lau5iadk4ZeLmeLoccg4afLuwcNg4afLuw5gaaabaacaadabbeaafaadc44aakucbubue+bfgd+cjcvu43au4:iuaiBb4qav4oa,:5dl4<anouK5eubaaapkvcbu4afbuw5alan4lau5i"
def LC:av 0 83 LB:=aw
def LD:aq:=ax "yecicLjaln+bqb4jp+bqaaK5dladacubbld+bTckmrcn5eolqaa4afLip4kaM5ial4raaadqkcabqbbreLfacd+ckestuKiuaivb4afLiv4kau5i"
def LF:av 0 84 LD:=aw
def LG:aq:=ax "UecicLjaln+bqb4jp+bqaaK5dl4oadacubbod+clcnprcq5erlqaa4afLis4kaM5ial4uaaadqkcabtbbu4lp+dok4afck,v5dl4xeLfd+cmbu5euleckacubbud+cncwuiuaivb4afLiv4kau5ial4GeckeLfacd+codwvu4Fau4Kiuaizb4mava,K5dl4MamsuK5eulqaaam4afLiv4kau5ial4Qeckald+cpcvuiuaivb4afLiv4kau5i"
def LH:av 0 85 LG:=aw
def LI:aq:=ax "TecicLjaln+bqb4jp+bqaaK5dl4nadacubbnd+bTcmorcp5eqlqaa4afLir4kaM5ial4taaadqkcabsbbt4lp+cZk4afck,u5l4xeckeLfacd+cqewvuK4wau4Biuaizb4afLfv4mau5dl4DalouKau6;cIfbuESucJfbumwu6alAuL5euleckeLfd+crdvuKiuaivb4afLiv4kau5ial4SeLfal4afLiv4kau5i"
def LJ:av 0 86 LI:=aw
def LK:aq:=ax ">ecicLjaln+bqb4jp+bqaaK5dl4oadacubbod+clcnprcq5erlqaa4afLis4kaM5iadl4ueLfd+cmbt5eulqaa4afLiu4ka55ial4xaaadqkcabvbbu4lp+dok4afck,y5l4BeckeLfacd+csdwvu4Aau4Fiuaizb4mp+dvh4afdl,Ea,F5dfal4IamsuK4Hau5eul4Kqaaam4afLiv4kau5il4Ncalbuau6+bmcblbuguouK6alyuL4Mau5eul4Vqaa4afLiu4kaK5il4Xcalburcuau6+bIcclbuguouM6alyuL4Wau5eul46cclbuhLuKeLu4afLiu4kaK5ial4:eckedld+ctcvuiuaivb4afLiv4kau5i"
def LL:av 0 87 LK:=aw
def LM:aq:=ax "YbbcalaL5dlaK5fagdl4iadaaTimhj5ekahadfbl4oaaad3g4fap5l4raeCq,+qmar6NaeIt,+qn6alsuL4gau5l4xaeCu,+qoau6ZaeIu,+qp6alwuL4hau5l4Dafrcuau6;adouKau6*agrcuau6+beaesu,+qq6*lwuL6;lAOu6alEuL5eul4daL5iab4madjlM4eam5l4RaaTuyuKau6+bwaaTumu,+qr6alxuL4dau5i"
def LN:av 1 88 LM:=aw
def LO:aq:=ax "+bndcgahal4haPaL5dl4laaOakP5ell4haPaL5iadc4naakmcanboaakqcbrbsaakuccubuaakucdubuqoeabpbbtcbydbun+cyu4jau5dl4Faakucaubuabdocvu5eulaikucbu4afbuL5dcaiaakucbubu4haya,R5ial4kaL5ddc4TabaakucaubuacabguKwud+bAdCyu5eub44aiaakuccubuabacjuMd+bsdxwu43au4=iuaiEbkEccu4afbux4kaw5b4+a,aiaakucdubuabacjuMd+bsdxwu4+a+au4+biiuaiEbkEcdu4afbux4kaw5l4+bmaiaj4hava,+bm5i"
def Bg:av 0 89 LO:=aw
def LP:aq:=ax "DbbcalaN5dl4faaOaeP5efl4daN5iadk4haakgcchbid+btbjaaklcdmbnd+btboxbykp4eaq5maaabaacaadaafaagaahaaiaaeabijaakaalaadl4saakrcbsbt5eubadaakucaubuubbuxbyzu4eau5al4Dad4dau5i"
def Bh:av 0 90 LP:=aw
def LQ:aq:=ax "rbbcalaK5dlaaOadP5eel4daK5iadk4gaakfccgbhd+bubijMjaaklcdmbnd+bubojkp4daq5naaabaacaadaagaahaaiaajaaeabjfaakaalaamaai"
def Bi:av 0 91 LQ:=aw
def LR:aq:=ax "Ocbeal4faP5dl4iaaghoiK5ejl4faP5ial4laaabaahbmKbngoKlpd+cuckq4gar5l4tafgsMtS4hau5dk4wafaghbvubuafagFbvabuabjuMd+bvcwuafagjuMFbwbuaabjuMd+bvcwuqoeabHbbOcbBdbun+cyu4fau5uaaabaacaadaaeaafaagaahaaiaakaalaamaanaaoaapaajabdqabdraasaataai"
def wv:av 0 92 LR:=aw
def LS:aq:=ax "scbeal4faL5dlaK5fagdlafaaghmgi5ejahadfbl4naaafhbmnboabdocpq5erl4faO5iab4lafjkM4gal5l4faL5i"
def LU:av 0 93 LS:=aw
def LV:aq:=ax "HbbcalaN5dl4gaaOafP5egl4daN5ial4iubaaakicajbkxbyhl4eam5dlaK5fagdl4oaeaakocbpbqgrmns5etahadfbb4xadaakucbubuaehbvubud+bxbuxbyCu4eau5b4vaejuM4fau5l4Had4dau5i"
def wx:av 0 94 LV:=aw
def LW:aq:=ax "+cxcbeal4faP5dl4paakocbpbqgrosK5etlqban+cwu4gau5dlaK5fagdl4xagaakucaubugumzu5euahadfbl4Gaakucaubuaghbvubuabdocvurcu5eucafafkucaubuaakucaubuaghbvubuBbbuwbyCukHcau4afbuw5ab4EagjuM4hau5l46af4fau5ial47aaabd+cvcvu4iau5l4:Bbaaakucbubuwbiyu4jau5l4*aiahaakucbubuahhbvubuabd+bycvuhbED4afbuv5ddcaiahhbvubukucaubuguaiahhbvubukucbubugujCuyuM5eulaiqbbbbun+cwu4fau5ial4+bEahAuM4kau5dl4+bGahouK5eub4kaK5adc4+bIaiajhbvubuaiajjuMhbwubu4laza,+bP5laN5dl4+bRaakucbubuahhbvubukucbubuguouK5eukBbaakkucaubuwbyyualkucaubuwbyyud+cwbu4nau5nbaacaadaaeaagaahaaiaajaaaaafabjkaalaamaak4+b?Bbaakkucbubuwbiyualkucbubuwbiyud+cxbu4nau5nbaacaadaaeaagaahaaiaajaaaaafabjkaalaamaalaN5l4+cianaiajtbvabuawbixu4oau5l4+cnanamwbivu4oau5l4+cqanaiajjuStbwbuaawbiyuqbbbbun+cwu4fau5i"
def Bj:av 6 95 LW:=aw
def LX:aq:=ax "Dcbeal4faP5dk4haakgcchbid+bubjaaklcdmbnd+buboPbdkp4gaq5maaabaacaadaafaagaahaaiaaeabijaakaalaadl4safaad+bubsEStMuWjuMyru5eulaad+btbuabd+bvcvu4fau5ial4Daa4fau5i"
def LY:av 0 96 LX:=aw
def LZ:aq:=ax "Ydbgal4haL5ddc4jaaachbijbkabachbmnboslp5eqdcaaachbrsbtabachbvubumyu4hau5iadlaK5fagdl4Bahaagumwu5euahadfbdc4Haaahhbvubuabahhbvubusyu5eudcaaahhbvubuabahhbvubumyu4hau5iab4FahjuM4iau5l4haL5i"
def M0:av 0 97 LZ:=aw
def M1:aq:=ax "obbcalaP5dfagdlaagdyeM5efahafbbaad+cxbg4bah5dl4jaagiojK5ekl4daP5ial4maahblKbm4dan5i"
def M3:av 0 98 M1:=aw
def M4:aq:=ax "0cbeal4faN5dl4iaakhcbibjgkolK5emlaakncaobpabd+cycqrd+cwbs4fat5ial4vaaabd+cvcvu4gau5laN5l4yagaakucbubuafFbvabuxbiAu4hau5l4Gagaakucbubuafhbvubuabd+bCcvuxbiDu4hau5l4RagaakucbubuafjuMFbwbuaxbiBud+cxbu4fau5i"
def Bk:av 0 99 M4:=aw
def M5:aq:=ax "ibbcalaN5dlaaQad5eel4daN5ial4gubaaaxbbfg4dah5i"
def M6:av 0 100 M5:=aw
def M7:aq:=ax "Mcbeal4dn+bqan+bqbaL5lcaceGfcadeGh3haj6xcIcblcIdbnomo6alkpLaq6LcJcbscJdbuotu6alruLau6ZcGcecucGdecud+czcwu6alzuLau6=cKcbucKdbudocwu6alzuL4fau5i"
def M8:av 1 101 M7:=aw
def M9:aq:=ax "IbbcalaL5dl4gaagfaK5faglmhg5deiahadfblahh+bffhe+bfk4fp+bsd4eaj4af+bfel5dc4ne+bfed+cfbmrcnao6GadyqKar6NaaadAuMh+bftucaubucaebuCwu6GlsuL6alpOu5eul4daL5iab4FjhM4iau5l4GaaguIuQ4dau5i"
def Ma:av 0 102 M9:=aw
def Mb:aq:=ax "icab4faaabubbfd+cAdeOg5"
def Mc:av 0 103 Mb:=aw
def Md:aq:=ax "rcadl4fabgeyf35eglaakhcbi4afbj:5ialaaabgld+cBckm5baaabd+cAdoOp5"
def Me:av 0 104 Md:=aw
def Mf:aq:=ax "Kcaln+bqb5l4haacadeGhd+cCcgi5laacIdbld+cBckm5laacJdbpd+cBcoq5lcGdcasbtcGdcbubucKdbuubdzwuguaK5faglmuv5deuahadfblhbxvbu4gau5b4Haaafd+cDcvu5bjAM4Dau5"
def Mg:av 0 105 Mf:=aw
def Mh:aq:=ax "nbbcalaN5dlaakdcbebfsgK5ehl4daN5ial4jaakicajbkd+cEbl4dam5i"
def Mi:av 0 106 Mh:=aw
def Mj:aq:=ax "hbbcalaK5laakdcbebf4dag5i"
def Mk:av 0 107 Mj:=aw
def Ml:aq:=ax "hbbcalaP5laad+cEbdqjbaben+dIf4dag5i"
def Mm:av 0 108 Ml:=aw
def Mn:aq:=ax "pbbcala05l4haad+cFcgM4gah4jifaifb4eaiaj5dl4laerck5ell4da05ial4nadhbmKbn4dao5i"
def Mo:av 0 109 Mn:=aw
def Mp:aq:=ax "Ebbcc+bflp+bsd5l4faad+cGce2Xfqdbabg4ep+bsd4af+bfdh5dl4jaad+bMbivdjPadkQaK5faglmml5denahadfbkcbdboaad+cGcq2Xrubbsxbqptcbd4afbuv5jaaabaacaadabbeaafaagaahaaiaabjmM4nau5l4yaad+cHbuccd4afLuv5laad+cHbucNd4afLuv5le+bfd4af+bfcu5i"
def Mq:av 0 110 Mp:=aw
def Mr:aq:=ax "pbbcalaK5dlaakdcaebfggyhK5eibaad+cIcj,+qs5alaaklcbmbn4dao5i"
def Ms:av 0 111 Mr:=aw
def Mt:aq:=ax "Acbeal4faL5dl4haaggabgishj5ekl4faL5iadl4maaglaK5faglmnm5deoahadfblan4gap5dc4raaafhbqrbsabafhbvubustu5eul4faL5iab4AjnM4oau5l4faO5i"
def Mu:av 0 112 Mt:=aw
def Mv:aq:=ax "+bMbcccLdal4cn+b+ap+bqaaL5l4iedbd+cKbhd+cJbiqabaGj4fp+bqa4afLek5dlaK5fagdl4mafcbbbmgnmlo5epahadfbl4tcJebsjtMcJe4afbuv5lcbbbuafhcvucbubu5eulcIebujuMcIe4afbuv5ccGeecucbbbuafhcvucaubucbbbuafhcvucaubuqbcabAbbud+cLcHucGe4afcuv5ab4rafjqM4gar5dlaK5fcgdl4Yagccbbugumxu5euahcdfddc45cJebuccbbuaghLvucJubujAucJe4afbuv5dccIebuccbbuaghLvucIubujAucIe4afbuv5ccGeecuccbbuaghLvucGuecud+cLcAucGe4afcuv5b43agjuM4hau5dl4+bqcabbuouT5eubcbbbuhcuKcaubucKe4afbuv5adlcabbuouU5eubccbbuhLuKcKubucKe4afbuv5adlcJebuyu35eulqaa4afLcu4eaL5ial4+bMeLe4afLcu4eaO5i"
def Mw:av 1 113 Mv:=aw
def Mx:aq:=ax "zbbccdlp+b+c5dkaakdcaebfaakhcbibjqgcabgbbkucblaaknccobpd8bqaakscdtbud8buuLcruqcdabVbbmcbu4afdcu5xaaabaacaadaaeaafaagaahaaiaakaalaamaanaapaaqaaraasaaobjddhstbjcdhjbuauaavaawaai"
def My:av 0 114 Mx:=aw
def Mz:aq:=ax "1bbccdlp+b+c5l4hqcbabT4ep+b+c4afddg5dlaK5fagdl4iaeaakicajbkglmhm5enahadfbc4rcbdbqaakscatbuaehbvubuqgcabubbOucbuxcGrucbd4afbuv5b4paejoM4fap5dlaK5fcgdl4Eafaakucbubugumzu5euahcdfdl4Ncad4afbuU5kccdbuaakucbubuafhbvubud9buuLbuxL+bXDuccd4afbuv5oaaabaacaadaaeaafaagaahaaiaajabbkaalaamaanaab4LafjuM4gau5l41edd4afdcu5i"
def Bl:av 0 115 Mz:=aw
def MA:aq:=ax "rcbeal4dnda4faL5lbcCfMag6rbcIiQ6alhjLak6zabJ+cNabcd+cMcmnrco6allpL4faq5i"
def MB:av 0 116 MA:=aw
def MC:aq:=ax "2cceafal4dn+cZan+bqbaNaK5dl4pcIdboopK5eql4faNaK5ial4tecceLdd+cOcst4sau4wirairbirc4hp+ccg4afcg,va,wa,x5dl4zaisuK5eulai4faNa,A5ial4kaN5dl4Ccbgbu5eubajcagbuBbbuwbyxu4kau5adl4JahguaK5faglmuv5deuahadfblhLxveLu4mp+bqa4afLl,N5l4QecceLld+bUcvu4Pau4Tiuaiyb4nava,T5dl4VansuK5eulan4faNa,W5iab4Yajamwbyvu4kau5b41j,KM4Lau5l42aj4fauaK5i"
def MD:av 6 117 MC:=aw
def ME:aq:=ax "icbeal4faK5laaabd+bXcfg4fah5i"
def MF:av 0 119 ME:=aw
def MG:aq:=ax "Kcbeal4faK5dl4kaagjaK5faglmlk5demahadfblalhbjlbo4ganap5dl4rafabgrCqs5etl4faM5ial4vabafhbvubu4iau5l4zagahd+cRcvu4jau5l4CaisuK5eulai4fau5iab4FjlM4mau5dl4Gaaguabgumwu5eul4faX5ial4faK5i"
def MH:av 0 120 MG:=aw
def MI:aq:=ax "kbbccGlp+bge5l4fd+cSa4eae5l4gadaad+cTcfg5ladd+cUbi4afGcj5i"
def MJ:av 0 121 MI:=aw
def MK:aq:=ax "gbbccGlp+bge5laad+cXad+cWcde4afGcf5i"
def ML:av 1 123 MK:=aw
def MM:aq:=ax "pbbcalaN5laaMd,+qtKe+vefaaMh+Ki+vejaaKl+vemBbdgkn4dao5i"
def MN:av 1 125 MM:=aw
def MO:aq:=ax "xbbcalaN5l4gaagfvegBbbh4eai5dlaK5fagdl4kaeaagkmjl5emahadfbb4qadaaaehbqrbsd+cZbtwbbpu4eau5b4oaejnM4fao5l4xad4dau5i"
def MP:av 1 126 MO:=aw
def MQ:aq:=ax "Ccbeal4dnAa4faL5dlabmfMag6qabyiQ6alhOjak6ycacbmgnabsop6allOqar6Mcbcbtguabsvu6alsOu5eul4faL5ial4AabJ+c1abcd+c0cvu4fau5i"
def MR:av 0 127 MQ:=aw
def MS:aq:=ax "+becbeal4dnCa4faL5dlabmfMag6qabyiQ6alhOj5ekl4faL5iadl4mcacbl5fal4pom04oao5enl4qcbcbpoqKar6NcccbtguouK6alsuL4fau5il4AomV4zau5eul4BcbcbuCuMau69cbcbuabmvu6alyuLau6+bccccbuguouK6alyuL4fau5il4RomT4Qau5eul4ScbcbuCuKau6+bycbcbuabmvu6alyuLau6+bKcccbuguouK6alyuL4fau5il48omU47au5eul49cbcbuouKau6+b6abCuS6alwuLau6+b>cccbuguabAuMowu6alAuL4fau5ial4faL5i"
def MT:av 0 128 MS:=aw
def MU:aq:=ax "Bcbeal4dnEan+bqbaL5dlcIdbfogKah6scacecjcGdecld+c4ckmrcn6aliOo5epl4faL5iadl4rcgcbq5erlcacecscGdecud+b6cturcu4fau5ial4zcfcbusuK4fau5i"
def MV:av 6 130 MU:=aw
def MW:aq:=ax "1cceccfal4dnAanAbpAbaL5dl4jeccecdd+c4cijrck5ellqba4afcem4gaL5ial4oeccd+c5bn4hpAb4afcgo5dl4qcagbpgqaK5faglmsr5detahadfblas4iau5k4wcagbuahcbgbuahcacbuahhbvubucadbuahhbvubuPbdzucbcbuahhbvubucbdbuahhbvubuPadzuhb,w,x4afbuGhb,z,A4afbuw5GaaabaacaadaaeaafaagaahaaiaajaakaalaamaanaaoaapaaqaaraasaataauaavaawaaxaayaazaaAaaBaaCaaDabeEaaFaabjsM4tau5l41ecg4afceu4gaO5i"
def MX:av 0 131 MW:=aw
def MY:aq:=ax "9cdeccfagal4dnCanAbp+b9faKaK5dl4jecdcadbjgkd+b4cilrcman6Eedccadbqgrd+b5cpsrct6aloOu5eulqfa4afceu4gaKaM5ial4ycadbucbcbuhbwubud+c6bu4ip+b9f4afch,D5dl4Fcacbu5fal4IouT4Hau5eub4Jcbdbucbcbuhbwubud+c7bu4afchu5l4RoDU4Qau5euc4TcccbucadbuFbubMacbdbuFbubMaqbcabxbbud+c8cBu4Sau43iuaiFb4afchv5adkechcadbuhbuKbu4afcey4gauaK5iaaabaacaadaaeaafaccegaahaai"
def MZ:av 0 132 MY:=aw
def N0:aq:=ax "Dcbeal4dn+b9an+b9baK5dfal4heccecd3i4gai5efl4faK5il4lcacbkcadbmmlnao6Gcacbqcadbsortau6Tcbcbucbdbumwu6GlzuL6alpOu4kau5ejl4faX5ial4faM5i"
def N1:av 0 134 N0:=aw
def N2:aq:=ax "zdbgal4enEan+bqb4haL5l4lcadeckcGeecmd+b8cln4kao4qijaijb4ipAb4afchpaq5l4saiar6Nccdedtechacd+c;dwvu6alsuL4hau5i"
def N3:av 6 135 N2:=aw
def N4:aq:=ax "vcceafaln+bgbaNaK5dc4kaakjcakbleGd3j4jao4qiiaiib4hapaq5dl4sahrcr5esl4faNa55ial4uagd+bDbt4fauaK5i"
def N5:av 0 136 N4:=aw
def N6:aq:=ax "+bdccecdfal4fp+b+caK5l4maad+bLbl4ham5l4oagd+bMbnqcbabo4ip+b+c4afdhp5dl4ragd+bMbqvdraK5faglmts5deuahadfblagd+c<bu4jau5k4ycbhbuagabd+c=cvuaiqgcabvbbuBcbuwcGAucbh4afbuv5laaabaacaadaafaaeabbgaahaaiaajaakaabjtM4uau5dl4Jagd+bMbuvduaK5fcglmuv5deuahcdfdkcchbuagabd+c>cvuBLbuwL+bXyucch4afbuv5jaaabaacaadaaeabbfaagaahaaiaabjDM4Mau5dl4Xagd+bObusuKau6+bHedhabd+c?cvurcu6alyOu5eulqca4afdeu4gaZ5iadl48edhabd+c*cvu47au4;iuaiyb4kava,;5l4=aksuKau6+b;ajaad+bPcvurcu6alyOu5eulqca4afdeu4gaZ5ial4+bdedh4afdeu4gaK5i"
def N7:av 1 137 N6:=aw
def N8:aq:=ax "+bEccecLfal4dn+b+a4fp+bqaaK5l4pedcabd+c*cop4oaq4sinainb4haras5dl4uahstK5eulqaaah4afLev4gau5iadk4yagd+c+bucbcbuguqacaGxJbu4jp+bqa4afLi,C5iaaacaadaaeaabbgbdfaagaahaadl4EcbcbuguaK5faglmuv5deuahadfblhcxvecu4lp+ccg4afck,J5l4Lcbkbu5eulcIibujuMcIi4afbuv5kcGiecucakbud+dabud+c,cxucGi4afcuv5iaaabaacaadaaeabbfaagaahaaabj,GM4Hau5dl4ZcccbuguaK5fcglmuv5deuahcdfdlhLxveLu4np+bqa4afLm,45l46cIibucImbujwucIi4afbuv5lcJibucJmbujwucJi4afbuv5bcGiecucGmecud+c,cwucGi4afcuv5bj,1M42au5dl4+bgcJibuyu35eulqaa4afLeu4gaM5iadl4+bkcacbu5fel4+bnouT4+bmau5eub4+bocbcbuhcuKcaubud+dbbucKi4afbuv5l4+bwoDU4+bvau5eub4+bxcccbuhLuKcKubud+dbbucKi4afbuv5aleLi4afLeu4gaK5i"
def N9:av 0 138 N8:=aw
def Na:aq:=ax "Mcbeal4dn+bqan+bqbaL5lcaceGfcadeGh3haj6xcIcblcIdbnomo6alkpLaq6LcJcbscJdbuotu6alruLau6ZcGcecucGdecud+dccwu6alzuLau6=cKcbucKdbud+ddcwu6alzuL4fau5i"
def Nb:av 0 139 Na:=aw
def Nc:aq:=ax "pcbeal4dnAanybaL5leccbdggd+b4cfhai6vbdgkJ+deaccdd+c0clm6aljnL4fao5i"
def Nd:av 0 140 Nc:=aw
def Nf:aq:=ax "ucbealnEbaN5dlcfdbfCgKah6taagjcfdblykm6alinL5eolaacfdbqtbpabra4fas5ial4uaa4fat5i"
def Ng:av 6 141 Nf:=aw
def Nh:aq:=ax "Mcbeal4dnCa4faN5laN5dl4jabgiaK5faglmkj5delahadfblhbikbm4ian5dl4pedcahgpd+b5coqrcras6OahguabhbuKbugusyu6altOu5eul4faN5iab4Dafahd+dbbuBbbuwbyxu4gau5b4IjkM4lau5l4JafJ+dgabcd+dfcvu5laf4fau5i"
def Ni:av 6 142 Nh:=aw
def Nj:aq:=ax "Ecceafal4fa1a15deLl4maavglabvgnd+dicmo4lap4rikaikb4haqar5l4tagvhsahvhu4fata,v5ial4yaaabd+djcvu4xau4Biuaiyb4java,B5l4Daiaj4fava,D5i"
def Nk:av 0 143 Nj:=aw
def Nl:aq:=ax "Lcceccfal4dnCa4fp+b9faL5dl4iedcabgidQchjrck5ellqfa4afcem4gaL5iadl4ocacbnooU5epdcabFbqbMacccbsd+dkcrtiuaivb4afcev4gau5ial4yabcbcbuhbwubuvhuju;4hau5dl4FcacbuouT5eubagA,+quu4hau5al4Kagqfbbbu4afceu4gaO5i"
def Nn:av 0 144 Nl:=aw
def No:aq:=ax "ucbeal4dn+b9an+b9baL5dlcacbfcadbhsgi5ejlcacbkcadbmmln4fao5ial4qcbcbpcbdbrmqs4fat5i"
def Np:av 1 145 No:=aw
def Nq:aq:=ax "jcbeal4faL5laaabd+dlcfgChK4fai5i"
def Nr:av 0 146 Nq:=aw
def Ns:aq:=ax ";bbcal4cn+bsaaL5l4fe+bfbdNbe4eaf5dfal4icabbhcbbbjqidabVbbicbkdUblrcm4han5egl4daL5il4qccbeLpadd+dmcqrrcsat6QcNbeLuadd+dmcvurcu6alzOuau64ccbcIubucNbcIubusxu6alBOuau6+bdccbcKubuguyuK6alzOu4pau5eol4daL5ial4ScNbeLud+cmbuau6+bxcNbcKubuguadovuau6+bMcNbcJubucNbcIubuoxu6+bxlBuL6alJOu4dau5i"
def Nt:av 0 147 Ns:=aw
def Nu:aq:=ax "lcceafal4faKaL5laaabd+dndgh,+qviiaiib4fajak5i"
def Nv:av 0 148 Nu:=aw
def Nw:aq:=ax "+bydbgal4haN5l4laaabt+bfkblaa5lacgn4iao5dl4qahopK5eqlaa4har5ial4taags4jat5dl4vabaiovu5eulaaacw+bf+d?vu4hau5iadl4BaiahjvuaaUuywu5eulaaabt+bfvabuaaiahjvuabAvuY+bf+d?dzu4kau5l4Qajabt+bfvbuaaacH+bfvu5dcajabahjvut+bfxbuaaaaabt+bfvbuaaH+bfxu5laj4hau5ial45aaaiahjvut+bfxabua4bau5dl4:acaaabahjvut+bfxbuaaZzurcu5eudcaaabahjvut+bfxbuaaaaabt+bfvbuaaH+bfxu5laaabt+bfvbuaaacH+bfvu5laa4hau5ial4+boaaait+bfvbuaaacH+bfvu5laaabt+bfvbuaaahd+dqcvu5laa4hau5i"
def Bm:av 6 149 Nw:=aw
def Nx:aq:=ax "Hdbgal4haN5l4jaaabacaaglt+bfibjbkbm5dlabacoop5eqlaa4har5ial4taags4iat5dc4vaaabt+bfvabuaaaact+bfvbuaaw+bf+d?xu4bau5l4Caaaaguaht+bfxbvbua4a1+bfdu5laa4hau5i"
def Ny:av 6 150 Nx:=aw
def Nz:aq:=ax "Hcceafaln+bsbaNaK5dl4kaad+bFbjrckal6Ae+bfdd+cfbnrco6almOp5eql4faNaM5ial4taacadbtd+cgcsu4sau4xirairb4hava,x5dl4zahrcu5eul4faNaW5ial4BaadTbu4jau5l4Daiage+bfdh+bfwv4af+bfuv5lai4fauaK5i"
def NA:av 0 151 Nz:=aw
def NB:aq:=ax "+bTecicLjal4fn+cZan+bqb4jp+bqaaK5dl4peLfd+cmbo5epleceacqgcabrbbOeLfeLfd+dreqstuiuaivb4afLiv4kau5ial4AeceeLfd+cOcvu4zau4Diuaiybizc4lp+ccg4afck,Ca,Da,E5dfal46amsuK45au5eul48qaaam4afLiv4kau5il4;cakbuacd+ddcvuau6+b<cbkbu6alwuL4:au5eul4+baqaa4afLiu4kaQ5il4+bccakbuacd+ddcvu4+bbau5eub4+bgcbk4afbuO5l4Geceaccakbuadd+dseyxvu4oau5dc4NalanecealanhLvueLuacadjuMd+ckeBxwu4Mau4YiuaiGbhLGF4afLuw4nav5l41amsuK5eulqaaam4afLiv4kau5iadc4+bieceeckalhLuKeLualhLuMeLud+dreBAxu4+bhau4+briuaiEb4afLfv4nau5ddc4+btamouKau6+cRalhLuKcJubualhLuMcJubuPbdyucJfbuESuMuWjuMyzu6alJuL5euleceeLfadd+crdwvuiuaivb4afLiv4kau5ial4+bSeLfam4afLiv4kau5i"
def NC:av 0 152 NB:=aw
def ND:aq:=ax "rcbeal4dnda4faL5lbcCfMag6rbcIiQ6alhjLak6zabJ+dtabcd+cMcmnrco6allpL4faq5i"
def NF:av 0 153 ND:=aw
def NG:aq:=ax "gbbcal4cn+bqaaL5leLbqaad+b*cde4daf5i"
def NH:av 0 154 NG:=aw
def NI:aq:=ax "GccecLfal4dn+doa4fp+bqaaK5l4kqcbabT4hp+b+c4afdgj5dl4labgkaK5faglmml5denahadfblhbkmbo4jap5b4rcbgbqaiqgcabsbbOucbtxcGrucbg4afbuv5bjmM4nau5l4zcacbuedgcbcbud+dudxwuiuaivb4afLev4gau5i"
def NJ:av 0 155 NI:=aw
def NK:aq:=ax "+bddcgahal4en+doan+bqb4haNaK5l4qecdeLed+dvcpq4par4tioaiob4jp+b+c4afdisat5dl4vajsuK5eulaj4haNa,w5iadl4ycaibuouT5eul4Cedid+dxbuacd+dwdvu,+oW4Bau4Giuaizb4lava,G5dl4Ial5eul4haNaQ5iadk4Jedid+dxbuakacBbbud+dAdxwuecdJ+cnbuad+dzcwuiuaivb4hava,S5naaacaadaagaahaabbebgeaafabgiaajaakaalaamaaial4Uediacd+dBcvu4nau5dc4YecdccibuamhLvueLuacd+codAvu4Xau46iuaiDb4oav4ka,65dl48ajsuK5eulaj4haNa,95iadk4;ccibuamamjuMand+dDeyxvuecdJ+dEbuad+dCcwuiuaivb4hava,+bc5oaaabaacaadaaeaafaahaaiaagabhjaakaalaamaanaai"
def NL:av 1 156 NK:=aw
def NM:aq:=ax "IccecLfal4dn+doa4fp+bqaaK5dfagdl4jabgiyjM5ekahafbdk4nababgnd+dHbod+dGcmpeccJ+dEbrad+dFcqs4mat4vilailb4hava,v5naaabaacaafaagaadabfeabfhaaiaajaakaalaamaadl4xahsuK5eulqaaah4afLev4gau5iab4Bag4cau5dl4CabguouK5eulqaa4afLeu4gaK5ial4GabhLuKeLu4afLeu4gaK5i"
def NN:av 0 157 NM:=aw
def NO:aq:=ax "+blecicLjal4fn+cZan+bqb4jp+bqaaK5dl4peLfd+cmbo5epleLf4afLiq4ka55ial4teceeLfd+cOcst4sau4wirairbirc4lp+ccg4afck,va,wa,x5dfal4ZamsuK4Yau5eul41qaaam4afLiv4kau5il44cakbuacd+ddcvuau6+bYcbkburcu6alxuL43au5eul4=qaa4afLiu4ka55il4?cakbuacd+ddcvu4>au5eub4+bacbk4afbuL5l4zeceaccakbuadd+dseyxvu4oau5dc4GalanecealanhLvueLuacadjuMd+cqeBxwu4Fau4RiuaiGbhLGF4afLuw4nav5l4UamsuK5eulqaaam4afLiv4kau5iadc4+bbeceeckalhLuKeLualhLuMeLud+dreBAxuiuaivb4afLiv4kau5i"
def NP:av 0 158 NO:=aw
def NQ:aq:=ax "AdcgcLhal4en+cZan+bqb4hp+bqaaK5l4mecdeLed+bUclm4lan4pikaikb4jaoap5dl4rajsqK5erlqaaaj4afLgs4iat5ial4vecdaiacd+dIdwvuiuaivb4afLgv4iau5i"
def NR:av 0 159 NQ:=aw
def NS:aq:=ax "+bgdcgcdhal4en+doan+bqb4hp+dvhaK5l4recdeLed+dvcqr4qas4uipaipb4jp+b+c4afdita,u5dl4wajsuK5eulqhaaj4afdgv4iau5ial4Aedid+dJbu4lp+dvh4afdk,A5dl4Ccakbu5eul4Fcbkbuacd+dwdvu,+oW4Eau4Jiuaizb4mava,J5dl4Lamrcu5eulqha4afdgu4ia55ial4OcbkbualaljuMd+dKdxwucbk4afbuv5ledk4afdgu4iaK5ial4Wediacd+dBcvu4oau5dk40ecdcckbuanhLvueLuacd+csdAvu4Zau48iuaiDb4pp+dvh4afdo,74ka,85oaaabaacaadaaeaafaagaahblaiaajaakaalaamaanaadl4:ajsuK5eulqhaaj4afdgv4iau5ial4?ecdcckbuanedod+dLeywvu4>au4+bciuaiBbcck4afbuw4kav5l4+bfedkaj4afdgv4iau5i"
def NT:av 1 160 NS:=aw
def NU:aq:=ax "uccecLfal4dn+doan+dvbp+bqaaK5dlcadbg5ehlecccbdbjd+cncikilailb4afLem4gan5ial4peccccdbpd+dEcoqirairb4afLes4gat5i"
def NV:av 0 161 NU:=aw
def NW:aq:=ax "1cbeal4faN5laN5dlaK5fagdl4kagaagkmjl5emahadfbl4iaN5laK5dfcgddc4qaiafgqmpras6Pafaihbvubuaaaghbvubuabd+bAdzvu6altuL5euahcfdlahafaihbvubuubbuxbyzu4iau5b4NaijuM4jau5l4Pahaaaghbvubuubbuxbyzu4iau5b4WahafaiFbvbuaxbyxu4gau5b4oagjnM4hao5l41af4fau5i"
def NX:av 0 162 NW:=aw
def NY:aq:=ax "Dcbeal4faK5laK5dlaK5fagdlagaakicbjbkglmhm5enahadfbl4rabaakrcbsbtaghbvubud+dNbud+dMcqurcu5eubag4gau5ab4pagjoM4hap5l4Daf4fau5i"
def NZ:av 0 163 NY:=aw
def O0:aq:=ax "NbbcalaN5laN5laK5l4iaaghd+dObi4gaj5dlaK5fagdl4lagafglmkm5enahadfbl4radubaaaaeaeafaghbvubujyuFbsbtbuxbyruqbbabun+cwuubbuxbiqu4eau5b4Haeafaghbvubujyu4fau5b4pagjoM4hap5l4Nad4dau5i"
def O1:av 0 164 O0:=aw
def O2:aq:=ax "NbbcalaN5laN5laK5l4iaaghd+dObi4gaj5dlaK5fagdl4lagafglmkm5enahadfbl4radubaaaaeaeafaghbvubujyuFbsbtbuxbiruqbbbbun+cwuubbuxbiqu4eau5b4Haeafaghbvubujyu4fau5b4pagjoM4hap5l4Nad4dau5i"
def O3:av 0 165 O2:=aw
def O4:aq:=ax "Lcbeal4faN5laN5laK5dfagdlagaagimhjak6zaaaghbmnboabd+dMcpq6allrL5esahafblafaaaghbvubuubbuxbytu4gau5b4BagjuM4hau5l4Dafabubbuxbywu4gau5l4HafaaagFbvbuaxbyxu4fau5i"
def O5:av 0 166 O4:=aw
def O6:aq:=ax "rcbeal4dnAanAbaL5lcacbfcadbhdocgiaj6xcbcblcbdbndocmo6alkpL4faq5i"
def O7:av 0 167 O6:=aw
def O8:aq:=ax "udadl4habrcg5ehlaakicbj4afbk:5iabaaaakmcanboacxbbpqklcas4afbtr5"
def O9:av 0 168 O8:=aw
def Oa:aq:=ax "vcab4faaabCfKag6rabIi36alhjLabGl>vemabGo8vepabverubdnqsd+cAdekt5"
def Ob:av 0 169 Oa:=aw
def Oc:aq:=ax "hcal3k5baa3ld+cAdeOf5"
def Od:av 0 170 Oc:=aw
def Oe:aq:=ax "Bcadl4habggyh,+qw5eilaakjcbk4afbl:5ialaaabgnveod+bGcmp5labgraK5faglmts5deuahadfblhbrtbu4gau5b4yaaafd+dPcvu5bjtM4uau5"
def Of:av 0 171 Oe:=aw
def Og:aq:=ax "ibbcalaN5dlaaQad5eel4daN5ial4gubaaaxbbfg4dah5i"
def Oh:av 0 172 Og:=aw
def Oi:aq:=ax "Scceafal4faNaL5dl4iaakhcbibjokKal6Babaakocapbqgryns6almtL5eubaad+cIcu,+oT5adlaakucbubusuK5eul4faNaL5ial4DaakucaubuabFbvabu4hau5l4JaaaakucaubuabFbvbuakAcau4afbuw5lag4fauaO5i"
def Oj:av 0 173 Oi:=aw
def Ol:aq:=ax "rcbeal4faN5l4jaaaaabd+dQcjkd+cFcil4iam4oihaihb4ganao5l4qafd+cEbp4faq5i"
def Om:av 0 174 Ol:=aw
def On:aq:=ax "GbbccLlp+bqa5l4haad+dRbgqabaGh4ep+bqa4afLdi5l4kaad+dQcj3cId4afblk5laad+dQcm3cJd4afbon5dlcGdcapcGdcbrcKdubdqstguaK5faglmuv5deuahadfblhbxvbu4gau5b4Bafaad+c=cuQkw4afbuv5bjBM4xau5l4GeLd4afLcu5i"
def Oo:av 0 175 On:=aw
def Oq:aq:=ax "ncal4faakecbfbgohK5eibaaabkjcbl4afbmk5a"
def Ot:av 0 176 Oq:=aw
def Ou:aq:=ax "hbbccGlp+bge5laaBbbdd+cYc,+oXed+b0bf4afGcg5i"
def Ov:av 1 177 Ou:=aw
def Ow:aq:=ax "+btbbcal4cn+b+aaN5l4icabbhcbbbjgkvelBbcim4ean5dlaK5fagdl4paecbbbpgqmor5esahadfbl4wadcbbbuaehcvucbubud+dSbuwbbBu4eau5b4Fadcbbbuaehcvucaubud+b3buwbbBu4eau5b4uaejtM4fau5l4OadccbbuguveuBbbuwbbzu4eau5dl4gaK5fcgdl4Vafccbbugumxu5euahcdfdl42ccbbuafhLvueLu4hp+bqa4afLg,55l47adcag3mwbbwu4eau5l4;adcIgbud+b2buwbbxu4eau5l4*adcJgbud+b2buwbbxu4eau5l4+bcadcGgcaubud+b3buwbbyu4eau5l4+biadcGgcbubud+b3buwbbyu4eau5b4+boadcKgbud+b3buwbbxu4eau5b40afjuM4gau5l4+btad4dau5i"
def Ox:av 1 178 Ow:=aw
def Oy:aq:=ax "+bmcbeccl4dnAanAbpAb5dk4kecccacbkgldPcjmecdcadbpgqdPcor4ganas5maaabaacaadaafaagaahaaiaaeacfhjaakaalaadl4uafat6Ragrcu6alwuL5eulecc4afceu5iadlagau63afrcu6alwuL5eulecd4afceu5iadlafrcuau6*cacbugucadbugusxu6alBOu5eulqba4afceu5ial4ipAb5dlaK5fagdl4Saicacbugumxu5euahadfbdc4ZcahbucacbuaihbvubucadbuaihbvubuPadzuubbuxbiGucah4afbuv5ccbhbucbcbuaihbvubucbdbuaihbvubuPbdzuubbuxbiGucbh4afbuv5b4XaijuM4jau5l4+bmech4afceu5i"
def Oz:av 0 179 Oy:=aw
def OA:aq:=ax "jcbeal4faL5laaabd+dTcfgChK4fai5i"
def OB:av 0 180 OA:=aw
def OC:aq:=ax "ibbdal4eaL5laagebbsfg4eah5i"
def Bn:av 0 181 OC:=aw
def OD:aq:=ax "Gcdeccfagal4dn+cZan+bqbp+ccgaNaK5l4lcacbkeLdcbcbnd+bcdlmo4kap4rijaijb4ip+b+c4afdhqar5dl4taissKat6QcahbusuV6alxOu5eulqga4afceu4gaNaZ5iadk4BcbhbuhcuKecucchbu4afcew4gauaK5jaaabaacaadaaeaafaagabfhaaiaai"
def OE:av 0 182 OD:=aw
def OF:aq:=ax "ucbeal4faK5l4iaad+d4bh4gai5l4kabd+d4bj4hak5dl4maf5eldlag5eml4faK5ial4faX5iadl4oag5enl4faM5iadl4paaabmop5eql4faX5iadl4saaabyrs5etl4faM5ial4faK5i"
def OG:av 0 185 OF:=aw
def OH:aq:=ax "eabaal4baP5ld+d5aqybaibn+eZc4bad5i"
def OI:av 0 186 OH:=aw
def OJ:aq:=ax "Zcadl4gaakfcjgbhoi15ejbaad+d5akkcam4afinl5alaakocjpbqabgsvhtjrukocju4afbuw5lubaaakuciubuxbbyuabxbbvu4fau5dfagdl4HaeguCuY5euahafbdcaaaakucaueiuaeFbuabYd+d6cwukBcau4afiuw5baeFbubYa4fau5b4Waaaekvciu4afbuw5"
def OK:av 0 187 OJ:=aw
def OL:aq:=ax "+bmbbccGlp+bge5l4jaakicajeik4ep+eWl4afidl5dl4naakmcjnboop15eqbd+d5a4afidr5alubaaaktciubuxbbsuubb,+oYxbbvu4fau5dfagdl4BaeguKuYsu=5euahafbbaeubb0xbbvu4fau5l4IaeaakucjubuE8ud+d7buxbbAu4fau5dfcgdl4QaeguyuK5euahcdfdc4VeidaeFbuabYd+d6cwu4afidu5b4TaeFbubYa4fau5lp+bge5dl4ZeidaK5feglmuQ5deuahedfflav3n4hava,25b44agERuagERujuMagERujuSagERujuWahGu,+oZveuahGu>veuahGu8veuahveuzbGf,44afbuDzbGf,74afbuBzbGf,:4afbuzzbGfI4afbuy5bj,ZM40au5l4+bmeGf4afGcu5i"
def OM:av 0 188 OL:=aw
def ON:aq:=ax "Acbeal4faN5l4jaaubbi4gaj5dl4labgkaK5faglmml5denahadfblhbkmbo4iap5b4rafahgrvhsd+d7btxbbquahxbbvu4gau5b4zjmM4nau5l4Aaf4fau5i"
def OO:av 0 189 ON:=aw
def OP:aq:=ax "+bhcbecGl4fp+bge5l4nBbaaawbbmnBbb,+oYwbbop4gaq5dfagdl4safgrKsYst=5euahafbbafBbb0wbbvu4gau5l4zaaguvhuE8u4hau5dlaK5fcgdl4DahmuQ5euahcdfdb4HafagahEQuA=uvhuGyuKu?veuBbbuwbbDu4gau5b4FahjuM4iau5l4SBbi,+o0,+o1,+o2,+o3,+o4,+o5,+o6,+o74jau5dlaK5fegdl4Tajafgumwu5euahedffb4ZaiafajajjuYFbxbwbuabd+d8dAvu4jau5b4XajjuY4kau5lp+bge5dlaK5fggdl47almu,+oP5euahgdfhb4;alaialMuRhbwubualKuREQuA,+qxuvhuGzuKu,+o8veuzbGkH4afbuv5b49aljuM4mau5l4+bheGk4afGeu5i"
def OQ:av 1 190 OP:=aw
def OR:aq:=ax "cabaal4baN5lBb<,+o9,+o:,+o;,+o<,+o=,+o>,+o?,+o*,+o+,+o,,+pa,+pb,+pc,+pd,+pe,+pf,+pg,+ph,+pi,+pj,+pk,+pl,+pm,+pn,+po,+pp,+pq,+pr,+ps,+pt,+pu,+pv,+pw,+px,+py,+pz,+pA,+pB,+pC,+pD,+pE,+pF,+pG,+pH,+pI,+pJ,+pK,+pL,+pM,+pN,+pO,+pP,+pQ,+pR,+pS,+pT,+pU,+pV,+pW,+pX,+pY,+pZ,+p0,+p14bab5i"
def OS:av 1 191 OR:=aw
def OT:aq:=ax "Tcbeal4faN5l4kaaBbbj4gak5dlaK5fagdl4magabgmmln5eoahadfbl4sabaghbrsbtguvhu4iau5dlaK5fcgdl4yaimuQ5euahcdfdb4CafahaiEQuA=uvhuGyuKu?veuBbbuwbbDu4gau5b4AaijuM4jau5b4Nafabaghbvubuwbbyu4gau5b4qagjpM4haq5l4Taf4fau5i"
def OU:av 1 192 OT:=aw
def OV:aq:=ax "xbbcalaN5l4haavhgjh;4eai5l4k2bbzQQ4faj5dla75fagdl4lafCkK5elahadfbl4paeafadKq?verhbop4afbts5badMu?4eau5b4nafAmM4gan5l4xae4dau5i"
def OW:av 1 193 OV:=aw
def OX:aq:=ax "pcbeal4faL5dl4haaaK5faglmhg5deiahadfblah4gaj5l4labafLkblrcm5enl4faL5iab4pjhM4iao5l4faO5i"
def OY:av 0 194 OX:=aw
def OZ:aq:=ax "pbbdal4eaL5dccabbeaahbfgbhcbbbjaahbklbmIin4eao5i"
def P0:av 0 195 OZ:=aw
def P1:aq:=ax "rcbeal4dnAanAbaL5lecccacbgghd+b4cfiaj6xecdcacbmgnd+b4clo6alkpL4faq5i"
def P2:av 0 196 P1:=aw
def P3:aq:=ax "pcbeal4dnAanAbaL5leccecdd+c2cfgah6tcacbjgkJ+d9accdd+c0clm6alinL4fao5i"
def P4:av 0 198 P3:=aw
def P5:aq:=ax "kbbcccl4cnAapAb5dkcabbdd+dbbecbbbgd+dbbhqbcabfbbi4afccj5iaaabaadaaeaacabefaagaahaai"
def P6:av 1 199 P5:=aw
def P7:aq:=ax "hbbccclp+b9f5laavhdDe;qfbbbf4afccg5i"
def P8:av 0 200 P7:=aw
def P9:aq:=ax "Wdbgal4enCanAb4haL5l4oeddeced+b9cno4nap4rimaimbimc4ip+b9f4afchqaras5l4veddacd+d?cvu4uau4yitaitb4lp+b9f4afck,xa,y5dc4AajouKau65alouK6alwuLau6=acgucaebuguoxu6alAuLau6+bkeckachbuKbuechaid+d*ezwvu6alBuL4hau5i"
def Pa:av 0 205 P9:=aw
def Pb:aq:=ax "mbbcalaL5l4faad+bMbe4eaf5dl4hadygV5ehbaad+cIciZ5aladokV4dal5i"
def Pc:av 0 206 Pb:=aw
def Pd:aq:=ax "Lcbeal4faN5l4jaad+bMbivdj4gak5dl4mafabylm5enbaad+cIco:5al4haN5dl4rafaK5faglmrq5desahadfblaad+d+bt4iau5l4waakucbubuouK5eubagahubbuxbiwu4hau5ab4FjrM4sau5dl4GaakucbubusuK5eul4faN5ial4Lag4fau5i"
def Pe:av 0 207 Pd:=aw
def Pf:aq:=ax "EcbecLl4fp+bqa5l4haad+dRbgqabaGh4gp+bqa4afLfi5l4kaad+dQcj3cIf4afblk5laad+dQcm3cJf4afbon5laaabd+c=cpqcGfcas4afbtr5laaabd+c=cvucGfcbu4afbuw5laaabd+c=cvucKf4afbuv5leLf4afLeu5i"
def Pg:av 0 208 Pf:=aw
def Ph:aq:=ax "+bucbeal4dn+b+andbaL5dlbdmfMag6qbdyiQ6alhOjak6ycbcbmJ+eaabdd+d,cnorcp6allOqar6McccbtJ+ecabdd+ebcvurcu6alsOu5eul4faL5iadl4Acacbu5fal4DouV4Cau5eul4EcbcbuguouMau6+a+cccbuguouS6alyuLau6+bkcccbud+ebcu,+qy6alxuL4fau5il4Uo,AT4Tau5eul4VcbcbuguCuMau6+bGcbcbuguIuR6alyuLau6+bScccbuguouK6alyuLau6+b4cbcbud+d,cu,+qz6alxuL4fau5il4+a+o,AU4*au5eul4+a,cbcbuguouKau6+chcccbuguCuS6alyuLau6+ctcccbuguIuR6alyuLau6+cFcccbuJ+efabdd+ebcvu6alyuL4fau5ial4faL5i"
def Pj:av 0 209 Ph:=aw
def Pk:aq:=ax "+bqcceafal4dn+b+a4faNaK5dl4medcabd+c?clmrcn5eol4faNaM5ial4qqjan+cKp4haq5l4sagcacbsd+bGcrt5lagcbcbuguveud+bGcyu5dlcbcbuguaK5faglmuv5deuahadfblhcxvecu4jp+ccg4afci,H5l4Jagcbibud+egcwu5bagcaibud+cDcwu5bjFM4Fau5l4Sagcccbuguveud+bGcyu5dlcccbuguaK5fcglmuv5deuahcdfdlhLxveLu4lp+bqa4afLk,35l45agcakeGud+cCcwu5lagcIkbud+cBcwu5lagcJkbud+cBcwu5lagcGkcaubud+cDcxu5lagcGkcbubud+cDcxu5bagcKkbud+cDcwu5bj,0M41au5l4+bnagd+bJbuagd+bKbu4fawa,+bp5i"
def Pl:av 0 210 Pk:=aw
def Pm:aq:=ax "gbbccGlp+bge5laad+ehbdd+bYbe4afGcf5i"
def Pn:av 0 211 Pm:=aw
def Po:aq:=ax "+brcbeccl4dnAanAbpAb5dk4kecccacbkgld+b4cjmecdcadbpgqd+b4cor4ganas5maaabaacaadaafaagaahaaiaaeacfhjaakaalaadfal4vafau6Tagrcu6alwuL4uau5etl4Aeccd+c5bu4afceu5il4Dagau69afrcu6alwuL4Cau5eul4Iecdd+c5bu4afceu5il4Lafrcuau6+bhcacbugucadbugusxu6alBOu4Kau5eul4Wqba4afceu5ialeccd+c5bu4ipAb4afch,X5dl4ZcahbuguaK5fbglmuv5deuahbdfclav4jau5k45cahbuaicbhbuaicacbuaihbvubucadbuaihbvubuPadzucbcbuaihbvubucbdbuaihbvubuPbdzuhb,5,64afbuGhb,8,94afbuw5GaaabaacaadaaeaafaagaahaaiaajaakaalaamaanaaoaapaaqaaraasaataauaavaawaaxaayaazaaAaaBaaCaaDabeEaaFaabj,1M42au5l4+brech4afceu5i"
def Pp:av 1 212 Po:=aw
def Pq:aq:=ax "rbbccclpAb5dlaagdmeMaf6oaaghyiQ6algOj5eklqba4afccl5ialaad+dbbmaad+dbboqbcabnbbp4afccq5i"
def Pr:av 0 213 Pq:=aw
def Ps:aq:=ax "ibbcalaN5dlaaQad5eel4daN5ial4gBbaaawbifg4dah5i"
def Pt:av 1 214 Ps:=aw
def Pu:aq:=ax "rcbeal4dnAanAbaL5lcacbfcadbhd+ddcgiaj6xcbcblcbdbnd+ddcmo6alkpL4faq5i"
def Pv:av 0 215 Pu:=aw
def Pw:aq:=ax "Acbeal4faL5dl4haaggabgishj5ekl4faL5iadl4maaglaK5faglmnm5deoahadfblan4gap5dc4raaafhbqrbsabafhbvubustu5eul4faL5iab4AjnM4oau5l4faO5i"
def Px:av 0 216 Pw:=aw
def Py:aq:=ax "Bbbeal4faL5dccabbfaahbghbibcaahbklbmIjnao6HbcaahbqrbscbbbuaahbvubuItu6alpuL4fau5i"
def Pz:av 0 217 Py:=aw
def PA:aq:=ax "qcbfal4gaK5dfal4iedcaaabd+dhdhij4hak5egl4gaX5il4nedcabaad+dhdmno4map5ell4gaM5ial4gaK5i"
def PC:av 0 219 PA:=aw
def PD:aq:=ax "Vdbgal4enCa4haL5l4neddabd+d?cmn4mao4qilailb4ip+b9f4afchpaq5l4teddacd+d?cst4sau4wirairb4kp+b9f4afcj,va,w5dc4yaiouKau61akouK6alwuLau69abguacguowu6alzuLau6+beechabhbuKbuecjachbuKbud+d*eByxu6alDuL4hau5i"
def PE:av 0 220 PD:=aw
def PF:aq:=ax "Zcceafal4fa1a15l4paaNo,+oQ4hap5l4raaGq94iar5l4tabNs,+oQ4jat5l4vabGu94kau5l4xagaiEvu4lau5l4AahaiEvuakGu9jwu4mau5l4GalNu,+oQ4nau5l4IalGu94oau5l4KamagajEvujxu4nau5l4PahajEvuanjvuamGu9jwu4fau5l4XaaabEvu4gau5i"
def PG:av 0 222 PF:=aw
def PH:aq:=ax "tcbeal4faK5dl4haaggaK5faglmih5dejahadfblai4gak5l4mabaaafhbmnboolp5eqlaf4far5iab4tjiM4jas5l4faX5i"
def PI:av 0 224 PH:=aw
def PJ:aq:=ax "Xcbeal4dn+bqa4faL5dfal4heLcd+cmbg4gah5efl4faO5il4kcJcbjmkMal6AcJcbnyo36almOpaq6KcIcbsmtK6alrOuau6UcIcbucJcbuywu6alzOu4jau5eil4faL5il4FcIcbuouK4Eau5eul4IcGccaubuguouKau6+bicGccbubuguouK6alzuL4fau5ial4UcGcecuabd+b4cvu4fau5i"
def PK:av 0 225 PJ:=aw
def PL:aq:=ax "odcgahal4gn+ejcaKaL5laaabJ+emabfd+eldijkilailb4haman5i"
def PM:av 0 226 PL:=aw
def PN:aq:=ax "fbbcal4cn+bsaa,+qA5lcabbd4dae5i"
def PO:av 0 227 PN:=aw
def PQ:aq:=ax "xecicLjal4fn+cZan+ccbn+bqcn+bqdp+bqaaK5lcaebkecfucbmeLgeLhuLcopqcdabVbbncbqcbebsd+dudlrtiuaivb4afLiv4kau5i"
def PR:av 0 230 PQ:=aw
def PT:aq:=ax "qebial4fn+cZa4jaK5dleceadd+epcjkabacLlcmnmoK5epl4jaK5ial4jaM5i"
def PU:av 0 231 PT:=aw
def PV:aq:=ax "ibbdal4eaL5laagebbsfg4eah5i"
def PW:av 0 232 PV:=aw
def PX:aq:=ax "GdcgcLhaln+b+b4hp+bqaaK5l4oedeacd+b?cno4nap4rimaimb4jp+bqa4afLiqar5dl4tajssK5etlqaaaj4afLgv4iau5ial4yedeacd+c*cvu4xau4Biuaiyb4lava,B5l4Daaakd+eqcvu5leLi4afLgu4iaK5i"
def PY:av 0 233 PX:=aw
def PZ:aq:=ax "Fccecdfal4dn+doan+bqbp+b+caK5l4kcacbjeLdcbcbmd+bcdkln4jao4qiiaiib4hp+b+c4afdgpaq5dl4sahsrKas6OcagbusuTau6XcagbusuU6OlxuL6altOu5eulqca4afdeu4gaZ5ial4Fedg4afdeu4gaK5i"
def Q0:av 0 234 PZ:=aw
def Q1:aq:=ax "Xdcgahal4haKaL5l4naagm4jan5l4pai4kaKao5dfagdl4qajakmpq5erahafblajakjstvhuGu,+p2vdu4mau5l4zacaaalhbvubuabLzcvumuK5eubaljuM4kau5b4Jal4lau5l4Kajajaimvuau6+bkacaaajhbvubuabLzcvuouK6alCuL4haHa,W5i"
def Q2:av 0 235 Q1:=aw
def Q3:aq:=ax "ubbcal4cn+b+aaN5laN5dl4hcbbbgghaK5faglmji5dekahadfblhchjecl4gp+ccg4afcfm5b4oadcafboBbbpwbynq4ear5b4tjjM4kas5l4uad4dat5i"
def Q4:av 1 236 Q3:=aw
def Q5:aq:=ax "ncbeal4faK5dfal4haaabd+ercgh4gai5efl4faX5il4labaad+erckl4kam5ejl4faM5ial4faK5i"
def Q6:av 0 237 Q5:=aw
def Q7:aq:=ax "pcceafal4faNaK5laaaaghd+dHbid+etcgjabd+escklimaimb4fanao5i"
def Q8:av 0 238 Q7:=aw
def Q9:aq:=ax "+bydbgal4haN5l4laaabtbkblaa5lacgn4iao5dl4qahopK5eqlaa4har5ial4taags4jat5dl4vabaiovu5eulaaacwbyvu4hau5iadl4BaiahjvuaaUuywu5eulaaabtbvabuaaiahjvuabAvuYbynzu4kau5l4QajabtbvbuaaacHbvu5dcajabahjvutbxbuaaaaabtbvbuaaHbxu5laj4hau5ial45aaaiahjvutbxabua4bau5dl4:acaaabahjvutbxbuaaZzurcu5eudcaaabahjvutbxbuaaaaabtbvbuaaHbxu5laaabtbvbuaaacHbvu5laa4hau5ial4+boaaaitbvbuaaacHbvu5laaabtbvbuaaahd+evcvu5laa4hau5i"
def Qa:av 6 239 Q9:=aw
def Qb:aq:=ax "Bcbeal4dn+b+a4faK5laK5dfagdlafjgMcccbigjmhkal6BabcccboafjqMhLprcKsbtd+ercnurcu6almuL5euahafbbafjuM4gau5l4Baf4fau5i"
def Qc:av 0 240 Qb:=aw
def Qd:aq:=ax "pcceafal4faNaK5laaaaghd+dHbid+dGcgjabd+dFcklimaimb4fanao5i"
def Qe:av 0 241 Qd:=aw
def Qf:aq:=ax "+dlebial4jaN5l4qaaabactLpbqbra5dlabacotu5eulaaabadd+ewdwvu4jau5iadl4Bacaaguowu5eulaaabtLvabuaadwL+bXvu4kau5dl4Kajguaagumwu5eubaaajgutLwbuaa4a1Lau5alaj4jau5iadc4UaaabtLvabuaguadgujwuaaactLvbuaagujyu4lau5dl46akaaUuywu5eulaaabtLvabuaakabAvuYL+bXaxu4mau5l4+a+alabtLvbuaaadHLvu5dcalabadgujwutLybuaaaaactLvbuaaHLxu5lal4jau5ial4+boaaaktLvabua4nau5dl4+brabadgujwuacIvu5eulamabtLvbuaaadHLvu5dcamabadgujwutLybuaaaaactLvbuaaHLxu5laaaktLvbuaa4a1Lau5lam4jau5iadl4+bQamabadgujwutLybuaaadZvurcu5eudcamabadgujwutLybuaaaaactLvbuaaHLxu5lamabtLvbuaaadHLvu5lam4jau5ial4+b?adguacabAvuAxu4oau5dl4+ccamabactLwbvbuaadZvurcu5eudcamabactLwbvbuaadantLvbuaaHLxu5dcamaagutLwbuaaadantLvabuaHLxu5lamabtLvbuaaand+eycvu5lam4jau5iadl4+cFamaagutLwbuaaadZvurcu5eudcamaagutLwbuaaadantLvabuaHLxu5dcamabactLwbvbuaadantLvbuaaHLxu5lamabtLvbuaaand+eycvu5lam4jau5ial4+c8adaaactLvbuaad+ezcxu4pau5l4+c=amabtLvbuaaadHLvu5dcamabadgujwutLybuaaamabaojvutLxbuaaHLzu5lam4jau5i"
def Bo:av 6 242 Qf:=aw
def Qg:aq:=ax "pccecLfal4dn+doa4fp+bqaaK5lcacbgabqccabUcbicbcbkd+dudhjlimaimb4afLen4gao5i"
def Qh:av 0 243 Qg:=aw
def Qi:aq:=ax "Gcceafal4faNaK5laN5dl4maaglaK5faglmnm5deoahadfblhblnbp4jaq5l4tabaiLsbt4sau4wirairb4kp+bqa4afLj,va,w5dl4yaksuK5eulak4faNa,z5iab4BageLjBLbuwL+bXwu4hau5b4FjnM4oau5l4Gag4fauaK5i"
def Qj:av 1 244 Qi:=aw
def Qk:aq:=ax "Ncbeal4faN5laN5dl4jabaK5faglmji5dekahadfblaj4hal5l4naagmabagAopMnq4iar5dl4taagsabagAvuKtuyuK5eubahjuM4iau5al4CafaaahFLvabud+eAbuubbuxbyzu4gau5b4JaaahFLvbua4bau5b4MjjM4kau5l4Naf4fau5i"
def Ql:av 0 245 Qk:=aw
def Qm:aq:=ax "hbbcalaK5laajdRAeMMfR4dag5i"
def Qn:av 0 246 Qm:=aw
def Qo:aq:=ax ">dcgcLhal4en+cZa4hp+bqaaK5dl4nabgmonK5eolqaa4afLgp4iaK5ial4rabd+eBbq4car5l4tabecdacd+epctud+bVcsu5labguMuS4jau5dk4CecdabaitbvabuaacjuMd+dIdzwu4Bau4JiuaiCb4kp+bqa4afLj,Ia,J5naaabaacaadaaeaafaagbkahaaiaajaakaalaamaadl4LaksuK5eulqaaak4afLgv4iau5iadk4QecdabaijuMtbwbuaaacjuMd+dIdAwu4Pau4YiuaiDb4mp+bqa4afLl,X4la,Y5oaaabaacaadaaeaafaagaahblaiaajaakaalaamaanaadl40aksuK5eulqaaak4afLgv4iau5iadc44ecdabaihbvubuqgcabubbOeLjeLld+dreBwvuiuaivb4afLgv4iau5i"
def Bp:av 6 247 Qo:=aw
def Qp:aq:=ax "lbbccdl4cn+b+ap+dvh5dkcabbdoeTedbd+dxbgccbbiqhdabfbbhcbj4afdck5jaaabaacaadaafaagaaeacbghaaiaai"
def Qq:av 0 248 Qp:=aw
def Qr:aq:=ax "Hdbgal4haN5l4jaaabacaagltbibjbkbm5dlabacoop5eqlaa4har5ial4taags4iat5dc4vaaabtbvabuaaaactbvbuaawbyxu4bau5l4Caaaaguahtbxbvbua4a1bnu5laa4hau5i"
def Qs:av 6 249 Qr:=aw
def Qt:aq:=ax "+bfeciajal4fn+doa4in+dvdaNaK5dl4uedhd+eCbtrcu5eul4yeceedhd+ctcvu4xau4Biuaiyb4lp+bqa4afLk,Aa,B5l4DabaceLkhLwv4afLuv5labal4java,H5ial4JacAuMPbduK4nau5l4Mam4oau5dl4NacouK5eub4oaM5adk4QeceabanhLvueLud+dvcyu4Pau4WiuaiBb4pp+b+c4afdo,Va,W5maaabaacaadaaeaafbjagaahaaiaajaakaalaadl4YapsuK5eulap4jaNa,Z5iadk41edod+dJbuedh4rp+dvhp+dvh4afdq,14afdr,25haaacaabcdebcdbeaeaafabcgaadl44acouK5eukedhedod+dJbu4afdqw4afdru5faaabaacabadaaeaaal4:eceedqedrd+eDdwvu49au4>iuaizb4tav4qa,>5dl4*apsuK5eulap4jaNa,+a+5ial4+baabamamjuSasd+dDeyxvu4jauaK5i"
def Qu:av 1 250 Qt:=aw
def Qv:aq:=ax "kcbeal4faL5laad+eFbfabd+eFbhd+eEcgi4faj5i"
def Qw:av 0 251 Qv:=aw
def Qx:aq:=ax "hbbcalaN5laad+bxbdhbeKbf4dag5i"
def Qy:av 0 252 Qx:=aw
def Qz:aq:=ax "JbbcalaN5l4iaaMhR4eai5dl4kadERjaamkl5embadjnM4eao5alaN5dlaK5fagdl4qafadmpq5erahadfbl4vaaadMvu4hau5dl4yafaaadKvumxu5eubagjuM4hau5ab4Faeagubbuxbiwu4fau5b4tafjsM4gat5l4Jae4dau5i"
def QA:av 0 253 Qz:=aw
def QB:aq:=ax "tcal4habvhgDh;4fai5la=5fagdl4kafCjK5ekahadfbb4oaaaeafGopveqd+bGcnr5b4mafAlQ4gam5"
def QC:av 0 254 QB:=aw
def QD:aq:=ax "Mcbeal4faK5l4kaad+cFcjW4jak4miiaiib4galam5dl4oagrcn5eol4faK5iadc4qafhbpKbqvdrRs>afhbuMbuvduRu8StuafhbuSbuvduSyu4iau5dl4GahabPadu3ywu5eulaad+cIcu:5l4faK5ial4Mah4fau5i"
def QE:av 0 255 QD:=aw
def QF:aq:=ax "pbbccGlp+bge5lp+bge5l4iaad+cFch,+oP4hai4kigaigb4fajak5l4m3oae3p5leGd4afGco5i"
def QG:av 0 256 QF:=aw
def QH:aq:=ax "gbbcalaN5dlaa5edlBbbV4dae5ial4gBbb04daf5i"
def QI:av 1 257 QH:=aw
def QJ:aq:=ax "tcbeal4faK5dl4haaggaK5faglmih5dejahadfblai4gak5l4mabaaafhbmnboLlbp5eqlaf4far5iab4tjiM4jas5l4faX5i"
def QK:av 0 258 QJ:=aw
def QL:aq:=ax "gbbcalaL5laaaasde4daf5i"
def QM:av 0 269 QL:=aw
def QN:aq:=ax "cabacil4bp+eWl5lqliab,+o0bb,+o1cb,+o2db,+o3eb,+o4fb,+o5gb,+o6hb,+o74afiab5i"
def QO:av 0 270 QN:=aw
def QP:aq:=ax "+bYcbecil4dn+eWa4fp+eWl5dk4pabd+eLbod+eMaeic4gp+ftmp+ftmp+eWl4af<fp4af<gq4afihr5kaaadaabdefgbdcdefgbdecfgafbgagaahabdiabdjaadl4taK5faglmsY5detahadfblas4jau5dk4wzbihRbud+eNcu,+qDzbihRbud+eNcu,+qEDxuzbihRbud+eNcu,+qFDxu4kau5maaabaadaaeaahaaiaacaceifabigaajaakaalaadc4Hzbih7buajjvuzbihRbuzbih<buNwuzbihRburbuzbih4buNwuDAujGuaizb<gubujxuaizb<fubujxu4lau5dk46zbihKbud+eNcu,+qGzbihKbud+eNcu,+qHDxuzbihKbud+eNcu,+qIDxu4mau5maaabaadaaeaahaaiaacaceifabigaajaakaalaal4+a+alzbihKbuzbihMbuNwuzbihKbuzbihSbuNwuDzuzbihMbuzbihSbuNwuDzuj,*u4nau5b4+brakamjvuzbihKbuzbihMbuzbihSbuzbihWbuakjvuzbihRbuzbih<buzbih4buqliab,+bsbbIcbGdbEebAfbygbwhbu4afihu5bjsM4tau5dl4+bMaK5fcglmuQ5deuahcdfdlav4oau5c4+bPanzbihubuanzbicubujxuzbihA4afbuv5bjEM4+bMau5l4+bYeih4afieu5i"
def QQ:av 0 271 QP:=aw
def QR:aq:=ax "rbbcalaN5laN5dla=5fagdlaeCfK5egahadfbb4kadaaaeGklvemubbnxbbjo4eap5b4iaeAhQ4fai5l4rad4daq5i"
def QS:av 0 272 QR:=aw
def QT:aq:=ax "+dpdbgal4haN5l4v2beAYY4iau5dlaK5fagdl4waimu25euahadfbl4kaK5fcgdl4AajmuR5euahcdfdc4EahaiahaihbvubuE,+o8uabaiERuajjvuhbyubuvgujCuhbJI4afbuv5b4CajjuM4kau5b4yaijuM4jau5dl4la25fegdl4VakmuY5euahedffdc4ZahakAu,+p3hbwubuahakAuShbwubu4maza,75k49ahakahakAu2hbwubuald+eOcu,+qJald+eOcu,+qKDwualMu,+qLDwujCuahakAu7hbwubujzuamd+eOcu,+qMamd+eOcu,+qNDwuamMu,+qODwujCuhb,8,94afbuv5HaaabaacaadaaeaafaagaahaajaamaanaaqaaraasaataauaawaayaaBaaCaaiacgukacgulaaoaapaavaaxacguzacguAaaDaaEaaFaaGaab4XakjuM4lau5l4+bwBbaaawbevu4oau5dlaK5fggdl4+bzaomuY5euahgdfhdc4+bDanhbuRbuanhbu<buNxuanhbuRbuA,+qPuanhbu4buNxuDCu4qau5dk4+bTanhbu7buanhbuRbud+eOcu,+qQanhbuRbud+eOcu,+qRDyuanhbuRbud+eOcu,+qSDyujIuapjvuacaohbvubujyuahaohbvubujyu4rau5FaaabaacaadaaeaafaahaaiaajaamaanaaoaasaauaavaawaaxaazaaAaaBaaCaagafcjoxCkaecoxClaapadcxCqaaraataayaaDaaEaadc4+ceanhbuKbuanhbuMbuNxuanhbuKbuanhbuSbuNxuDBuanhbuMbuanhbuSbuNxuDBu4sau5dk4+cBanhbuKbud+eOcu,+p4anhbuKbud+eOcu,+qTDyuanhbuKbud+eOcu,+qUDyuarjvu4tau5raaabaacaaeaafaagaajaakaalaaoaadacglhabliaamaanaapaaqaac4+cRaqasjvuanhbuKbuanhbuMbuanhbuSbuanhbuWbuaqjvuanhbuRbuanhbu<buanhbu4buBbi,+cS,+cV,+cYIDAxu4oau5b4+bBaojuM4pau5dl4uaK5figdl4+c,atmuQ5euahidfjc4+ddanatanathbvubuaaathbvubujyuhbED4afbuv5b4+dbatjuM4uau5l4+dpan4hau5i"
def QU:av 1 273 QT:=aw
def QV:aq:=ax "Dbbeal4faL5dccabbfaahbghbicbcbkaahblmbnIjoap6JcacbraahbstbucbbbuaahbvubuIzu6alquL4fau5i"
def QW:av 0 274 QV:=aw
def QX:aq:=ax "Lcceccfal4dnCa4fp+b9faK5dledcabghd+b5cgircj5eklqfa4afcel4gaM5iadl4ncacbm5fal4qonT4pap5eol4rabcbcbrhbqsbtd+c7bu4afceu4gaK5il4yonU4xau5eudc4zabFbubMacccbud+eScwuiuaivb4afcev4gau5ial4Gabcbcbuhbwubud+c6bu4afceu4gaK5i"
def QY:av 0 280 QX:=aw
def QZ:aq:=ax "uebial4fn+b9a4hn+b9c4jaL5dl4leceecgd+b;ckl4kam5l4oajsnK5eolajmpK4jaq5ial4sabadmrs4jat5i"
def R0:av 0 281 QZ:=aw
def R1:aq:=ax "EbbcalaK5l4kaad+cFcjQ4jak4miiaiib4ealam5dl4oaercn5eol4daK5ial4ga15dl4qadgpaK5faglmrq5desahadfblhbprbt4iau5b4wafRu8ahvhuSwu4gau5b4BjrM4sau5l4CafDu;vdu4dau5i"
def R2:av 0 282 R1:=aw
def R3:aq:=ax "jcbealn+e:baL5laaJ+eUabdd+eTcfgrch4fai5i"
def R4:av 0 283 R3:=aw
def R5:aq:=ax "jbbdaln+ccaaL5lcacbegfbbogh4eai5i"
def R6:av 0 284 R5:=aw
def R7:aq:=ax "jcbealn+b=baL5laaJ+eWabdd+eVcfgrch4fai5i"
def R8:av 0 285 R7:=aw
def R9:aq:=ax "hbbdaln+bqaaL5leLcbbd+dmcef4eag5i"
def Ra:av 0 286 R9:=aw
def Rb:aq:=ax "hbbcal4cn+bqaaL5lcKbbdgeofK4dag5i"
def Rc:av 0 287 Rb:=aw
def Re:aq:=ax "fbbcal4cn+ccaaL5lcbbbd4dae5i"
def Rf:av 0 288 Re:=aw
def Rg:aq:=ax "obbdaln+bqaaL5lcKcbegfbboghai6veLcd+cmbkrcl6aljmL4ean5i"
def Rh:av 0 289 Rg:=aw
def Ri:aq:=ax "jcadl4fab5eelaad+bGcfV5iabaad+bGch05"
def Rj:av 0 290 Ri:=aw
def Rk:aq:=ax "gbbcalaN5laaubbdd+cVc,+oXe4daf5i"
def Rl:av 0 291 Rk:=aw
def Rm:aq:=ax "Xdcgahal4haKaL5l4naagm4jan5l4pai4kaKao5dfagdl4qajakmpq5erahafblajakjstvhuGu,+p2vdu4mau5l4zacaaalh+bfvue+bfuabLzcvumuK5eubaljuM4kau5b4Jal4lau5l4Kajajaimvuau6+bkacaaajh+bfvue+bfuabLzcvuouK6alCuL4haHa,W5i"
def Rn:av 0 295 Rm:=aw
def Ro:aq:=ax "lcbfaln+bsa4gaK5lbce+bfdLgbhabd+encij4gak5i"
def Rp:av 0 296 Ro:=aw
def Rq:aq:=ax "ucbeal4faK5l4iaad+eYbh4gai5l4kabd+eYbj4hak5dl4maf5eldlag5eml4faK5ial4faX5iadl4oag5enl4faM5iadl4paaabmop5eql4faX5iadl4saaabyrs5etl4faM5ial4faK5i"
def Rr:av 0 297 Rq:=aw
def Rs:aq:=ax "lcbeal4dn+cZa4fa,+qV5l4habcbcbhKgi4gpdt4afbfj5l4lJ+e0abf4fak5i"
def Rt:av 0 299 Rs:=aw
def Ru:aq:=ax "2cbecGl4fp+bge5l4jabd+c+bi4gp+bge4afGfj5ddc4maaklcambneGf3r4laq4sikaikb4haras5fal4vahrcu4uau5etk4xaakucaubueGfabd+bDbu4a3s5iaaabaacaadaaeaafaagacdehaal4Faakucduburcuau6+bcagabd+e1cvurcu6alyuL4Eau5eub4Qaaaaaaagabd+bDbukzcbu4afbuykAccu4afbuykBcdu4afbuO5aleGf4afGeu5i"
def Rv:av 0 300 Ru:=aw
def Rw:aq:=ax "6cbeal4faL5dl4kaagjd+e2bkrclam6Cabgoaagqspr6alnOs5etl4faL5ialaKa15dl4vaaguaK5faglmuv5deuahadfblav4iau5dk4Aaaahhbvubud+e3buabahhbvubud+e3buDzu4jau5maaabaacaadaafaagaahaaiaaeabijaakaalaal4Lagaimvuau6+bkagagaiDvumxu6alzuL5eubahai4gava,V5ab4Xj,wM4xau5dc4Yaaafhbvubuabafhbvubumyu4fau5i"
def Rx:av 0 301 Rw:=aw
def Ry:aq:=ax "Gcceafal4faNaK5laN5dl4maaglaK5faglmnm5deoahadfblhblnbp4jaq5l4tabaiLsbt4sau4wirairb4kp+bqa4afLj,va,w5dl4yaksuK5eulak4faNa,z5iab4BageLjBLbuwL+bXwu4hau5b4FjnM4oau5l4Gag4fauaK5i"
def Rz:av 1 302 Ry:=aw
def RA:aq:=ax "Ncbeal4faN5laN5dl4jabaK5faglmji5dekahadfblaj4hal5l4naagmabagAopMnq4iar5dl4taagsabagAvuKtuyuK5eubahjuM4iau5al4CafaaahFbvabud+eBbuubbuxbyzu4gau5b4JaaahFbvbua4bau5b4MjjM4kau5l4Naf4fau5i"
def RB:av 0 303 RA:=aw
def RC:aq:=ax "ibbcalaN5dlaaQad5eel4daN5ial4guLaaaxL+bXfg4dah5i"
def RD:av 0 310 RC:=aw
def RE:aq:=ax "ibbcalaN5dlaaQad5eel4daN5ial4gubaaaxbyfg4dah5i"
def RF:av 0 311 RE:=aw
def RG:aq:=ax "ibbcalaN5dlaaQad5eel4daN5ial4gBbaaawbyfg4dah5i"
def RH:av 6 311 RG:=aw
def RI:aq:=ax "lbbcal4cn+dvaaL5lcbbbdgeccbbgghjfimjS4dak5i"
def RJ:av 0 312 RI:=aw
def RK:aq:=ax "Gdcgahal4en+doan+dvbn+dvcaNaK5dlcaebi5ejdkcbebkcbfbmubclnd+e6boecdJ+cnbqad+dzcprisaisb4hata,u5naaabaacaadaagaahaaeaafabgiaajaakaalaamaaiadk4wccebuccfbuubcwud+e7buecdJ+dEbuad+dCcwuiuaivb4hava,F5naaabaacaadaagaahaaeaafabgiaajaakaalaamaai"
def RL:av 0 313 RK:=aw
def RM:aq:=ax "ucbeal4faL5dlaagfabghsgi5ejlaagkabgmmln4fao5ial4qaaXpabXrmqs4fat5i"
def RN:av 0 314 RM:=aw
def RO:aq:=ax "gbbcalaN5laad+e9bdd+e8be4daf5i"
def RP:av 0 315 RO:=aw
def RQ:aq:=ax "+bwbbcc<lp+ftm5lp+ftm5dl4laK5faglmk25delahadfblak4fam5c4oaeaaaeERphboqbrvgsRt,+oZaaaeERujuMhbxubuvguRu>SCuaaaeERujuShbxubuvguRu8SCuaaaeERujuWhbxubuvguSBuzb<dn4afbuv5bjkM4lau5dl4ga25fcgdl4YafmuY5euahcdfddc42afAu,+p3zb<dubuafAuSzb<dubu4haya,85l4:agd+eNcu,+qWagd+eNcu,+qXDwuagGu,+qYDwu4jau5l4+a,ahd+eNcu,+qZahd+eNcu,+q0DwuahGu,+q1Dwu4kau5c4+bhafafAu2zb<dubuaijvuafAu7zb<dubujyuajjvuzb<dH4afbuv5b40afjuM4gau5l4+bwe<d4af<cu5i"
def RR:av 0 321 RQ:=aw
def RS:aq:=ax "cabac<l4bp+ftm5lqm<ab,+o9bb,+o:cb,+o;db,+o<eb,+o=fb,+o>gb,+o?hb,+o*ib,+o+jb,+o,kb,+palb,+pbmb,+pcnb,+pdob,+pepb,+pfqb,+pgrb,+phsb,+pitb,+pjub,+pkvb,+plwb,+pmxb,+pnyb,+pozb,+ppAb,+pqBb,+prCb,+psDb,+ptEb,+puFb,+pvGb,+pwHb,+pxIb,+pyJb,+pzKb,+pALb,+pBMb,+pCNb,+pDOb,+pEPb,+pFQb,+pGRb,+pHSb,+pITb,+pJUb,+pKVb,+pLWb,+pMXb,+pNYb,+pOZb,+pP0b,+pQ1b,+pR2b,+pS3b,+pT4b,+pU5b,+pV6b,+pW7b,+pX8b,+pY9b,+pZ:b,+p0;b,+p14af<ab5i"
def RT:av 0 322 RS:=aw
def RU:aq:=ax "rcbeal4fa,+p55l4habvhgNh,+q24gai5l4kaaafRjkaaafA9nGmoSlp4faq5i"
def RV:av 0 323 RU:=aw
def RW:aq:=ax "ncbeal4fa,+p55laaabGfgaaabA9jRikShl4fam5i"
def RX:av 1 324 RW:=aw
def RY:aq:=ax "jcbeal4faL5laaabd+e=cfgChK4fai5i"
def RZ:av 0 329 RY:=aw
def S0:aq:=ax "ibbdaln+ccaaL5lbbeccLebfrcg4eah5i"
def S1:av 0 330 S0:=aw
def S2:aq:=ax "jcbeal4faL5laaabd+e>cfgChK4fai5i"
def S3:av 0 331 S2:=aw
def S4:aq:=ax "ibbdaln+bqaaL5lbbeLcLebfrcg4eah5i"
def S5:av 0 332 S4:=aw
def S6:aq:=ax "gbbcalaL5laaaasde4daf5i"
def S7:av 0 334 S6:=aw
def S8:aq:=ax "wcbfal4gaK5ddc4iaabchbhibjabbchblmbnd+cRcko4hap5l4ragsqK5erlag4gas5ial4uaaabd+bXctu4gau5i"
def S9:av 0 336 S8:=aw
def Sa:aq:=ax "kcbeal4faL5laaXfabXhogi4faj5i"
def Sb:av 0 337 Sa:=aw
def Sc:aq:=ax "jbbcalaL5laaCdMae6naaIgQ6alfhL4dai5i"
def Sd:av 0 338 Sc:=aw
def Se:aq:=ax "gbbcala15laavhdDe;4daf5i"
def Sf:av 0 339 Se:=aw
def Sg:aq:=ax "KbbcalaN5laK5dl4kaagjaK5faglmlk5demahadfblhbjlbn4gao5l4qadafgqjpr4eas5l4uadmtK5eubVj,+p64aWu5abjlM4mau5l4yadd+e,cNu4hau5dl4AaaguaK5fcglmuv5deuahcdfdlhbxvbu4jau5b4Gagaiwbyvu4hau5b4Jj,BM4Cau5l4Kag4dau5i"
def Sh:av 1 342 Sg:=aw
def Si:aq:=ax "KbbcalaN5laK5dl4kaagjaK5faglmlk5demahadfblhbjlbn4gao5l4qadafgqjpr4eas5l4uadmtK5eubVj,+p64aWu5abjlM4mau5l4yadd+facNu4hau5dl4AaaguaK5fcglmuv5deuahcdfdlhbxvbu4jau5b4GagaiwL+bXvu4hau5b4Jj,BM4Cau5l4Kag4dau5i"
def Sj:av 1 343 Si:=aw
def Sk:aq:=ax "GbbcalaN5laN5dlaK5fagdl4iaejh7aagjmik5elahadfbl4ga05dlaK5fcgdl4pagmoQ5epahcdfdb4tafETsaaaeagjvuhbxubujtu4gau5b4ragjqM4har5b4Cadafubbuxbbwu4eau5b4naejmQ4fan5l4Gad4dau5i"
def Sl:av 0 344 Sk:=aw
def Sm:aq:=ax "HbbcalaN5laN5dla,+q35fagdl4iaeChK5eiahadfbl4gaK5fcgdl4mafaagmmln5eoahcdfdl4saaafhbrsbtvhuju;4hau5b4yadagaevhuGwuKu,+p4veuubbuxbbBu4eau5b4qafjpM4gaq5b4kaeAjM4fak5l4Had4dau5i"
def Sn:av 0 345 Sm:=aw
def Sp:aq:=ax "tcbeal4faK5dl4haaggaK5faglmih5dejahadfblai4gak5l4mabaaafhcmnecoLlbp5eqlaf4far5iab4tjiM4jas5l4faX5i"
def Sq:av 0 349 Sp:=aw
def Sr:aq:=ax "tcbeal4faK5dl4haaggaK5faglmih5dejahadfblai4gak5l4mabaaafhLmneLoLlbp5eqlaf4far5iab4tjiM4jas5l4faX5i"
def Ss:av 0 350 Sr:=aw
def St:aq:=ax "Bcbeal4faN5dlabmfK5egbVj,+oO4aWh5adlabaaUjaaglAkmAin4cao5l4qabypK5eqbaaaaUstbrabtaabYbynvuaagutbwabua4bau5al4Baa4fau5i"
def Su:av 6 354 St:=aw
def Sv:aq:=ax "Bcbeal4faN5dlabmfK5egbVj,+oO4aWh5adlabaaUjaaglAkmAin4cao5l4qabypK5eqbaaaaUstLrabtaabYL+bXavuaagutLwabua4bau5al4Baa4fau5i"
def Sw:av 6 355 Sv:=aw
end Go.Proofs.YtlgnfcaolejgeaaGreat
