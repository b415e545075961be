import Derived.Test.YtcfpcblgmmeioaaGreatMA
import Derived.Lib.Overlaps
import Derived.Laws.Externs
import Derived.KernelRfl
set_option linter.all false
namespace Go.bD
open Go
variable{n b6:R}{t Z:R -> U -> Prop}{j:Fr}{f s e0:U}{g B c0:List R}{e i v M b9 j2:Nat}{u:bl}{m:Program}{e4:Value}{l h9:World}
section
variable  {o:Oper}{a:Act}   
def J4 (x:TypeId) (b:Operand) (y:o.op= .call {callee:= .builtin .cap,args:= #[b],argTypes:= #[x]}) (F:TypeId) (z:m.underlying x=some (.slice F)) (L:aQ b=true) (P:bO u a j) (C:Holds u f l) (h:G ⟨m,t⟩ (.mT b) j f Z):bW m t o a l u f Z:=by
 have c:=P.al b L;simp only[G]at h;generalize D:a.eval b=W at c;split at h
 case h_2=>trivial
 rename_i e d;unfold rU at d;split at d
 .rename_i S T k E p;rw[p]at c;obtain rfl:=a6x d;cases c with
  |ao S T k E hk V=>exact .same C (by simp[execOp,y,resolve,invoke,builtin,D,Builtin.cap_,run_underlying z,goInt]) (.v _ rfl) h
 .rename_i p;rw[p]at c;obtain rfl:=a6x d;cases c with
  |dg g k dt bZ r=>simp only[Own.lT]at r;subst r;have:=bZ rfl;subst this;exact .same C (by simp[execOp,y,resolve,invoke,builtin,D,Builtin.cap_,run_underlying z,goInt]) (.v _ rfl) h
  |J i off len k E n xs dt hk hlen V q s hH v r=>trivial
 .cases d
theorem J5 (z p:Nat) (x r d:Option Operand) (h b c:Int) (C:(x=none/\h=0)\/ ∃k,valOf a x=some (.int k h)) (D:(r=none/\b=z)\/ ∃k,valOf a r=some (.int k b)) (L:(d=none/\c=p)\/ ∃k,valOf a d=some (.int k c))
  (P:d=none\/r.isSome=true) (S:0<=h) (T:h<=b) (j:b<=c) (l:c<=p) (E:World):(Instr.sliceBounds true z p (valOf a x) (valOf a r) (valOf a d)).run m E= .ok (h.toNat,b.toNat,c.toNat) E:=by
 have n:(b.toNat)=b:=a8h aaU;have q:(c.toNat)=c:=a8h aaU;have V:0<=b:=aaU;have s:0<=c:=aaU;have W:b<=(p):=aaU;have y:valOf a none=none:=rfl;rcases L with ⟨rfl,rfl⟩|⟨t,hm⟩
 .rcases C with ⟨rfl,rfl⟩|⟨e,F⟩<;>rcases D with ⟨rfl,rfl⟩|⟨f,G⟩
  .rfl
  .simp only[Instr.sliceBounds,y,G];simp[run_sliceBound,W,V]
  .simp only[Instr.sliceBounds,y,F];simp[run_sliceBound,S,T]
  simp_all [Instr.sliceBounds,run_sliceBound]
 .have g:d≠none:=by rintro rfl;rw[y]at hm;cases hm
  have i:=P.resolve_left g;rcases D with ⟨rfl,rfl⟩|⟨f,G⟩
  .simp at i
  rcases C with ⟨rfl,rfl⟩|⟨e,F⟩;simp_all [Instr.sliceBounds,run_sliceBound];simp_all [Instr.sliceBounds,run_sliceBound]
def J6 (k3:TypeId) (V:Operand) (z D E:Option Operand) (k5:o.op= .slice k3 V z D E) (k6:E=none\/D.isSome=true) (Y:TypeId) (k7:m.underlying k3=some (.slice Y)) (W:Nat) (H:(m.info? Y).map (·.size)=some W) (k8:aQ V=true) (I:z.all aQ=true) (K:D.all aQ=true) (M:E.all aQ=true)
  (p:bO u a j) (N:Holds u f l) (e:G ⟨m,t⟩ (.lZ W V z D E) j f Z):bW m t o a l u f Z:=by
 have r:=p.al V k8;have O: ∀(g) (len k:Nat) (c h d:Int),((z=none/\c=0)\/ ∃n,valOf a z=some (.int n c))->((D=none/\h=len)\/ ∃n,valOf a D=some (.int n h))->((E=none/\d=k)\/ ∃n,valOf a E=some (.int n d))->0<=c->c<=h->h<=d->d<=k->
   a.eval V= .slice g len k->(execOp a.eval o).run m l= .ok (.value (sliced g c.toNat h.toNat d.toNat W)) l:=by
  intro g len k c h d q F L s v w x i;have k4:=J5 (m:=m) len k z D E c h d q F L k6 s v w x l;simp only[valOf]at k4;cases j9:m.info? Y with
  |none=>simp[j9]at H
  |some ii=>
   have k9:ii.size=W:=by simpa[j9] using H
   simp[execOp,k5,i,Instr.sliceAt,Instr.slice,run_underlying k7,k4,sizeOf,typeInfo,j9,k9,sliced]
 simp only[G]at e;generalize i:a.eval V=l7 at r;split at e
 case h_2=>trivial
 rename_i C b;unfold rV at b;split at b
 .rename_i A len k Q P;rw[P]at r;split at b
  case h_2=>cases b
  rename_i c h d y S hm;split at b
  case isFalse=>cases b
  rename_i x;obtain⟨rfl,s,v,w,k0⟩:=x;obtain rfl:=a6x b;have q:=gg p I y;have F:=gg p K S;have L:=gg p M hm;cases r with
  |ao A l0 k Q X k1=>
   have C:=O _ len k c h d (by trivial) F L s v w k0 i;refine .same N C ?_ e;cases z with
   |none=>
    simp only[cX,a6K]at y;subst y;simp only[a8t,a7H,if_false];have:sliced (some ⟨A,0,none⟩) ((0:Nat):Int).toNat h.toNat d.toNat Q= .slice (some ⟨A,0,none⟩) h.toNat d.toNat:=by unfold sliced;simp[Addr.add]
    rw[this];exact .ao _ _ _ _ X aaU
   |some z=>
    simp only[a8U,if_true];by_cases B:c<d
    .rw[if_pos B];unfold sliced;rw[if_neg aaU,a7F,hv,a7c];exact .bE _ _ _ _ _ X aaU
    .rw[if_neg B];unfold sliced;have:h.toNat - c.toNat=0:=aaU;rw[this];exact .dg _ _ _ (λl1=>by omega) (show d.toNat - c.toNat=0 by omega)
 .rename_i A k2 len k Q P;rw[P]at r;split at b
  case h_2=>cases b
  rename_i c h d y S hm;split at b
  case isFalse=>cases b
  rename_i x;obtain⟨rfl,s,v,w,k0⟩:=x;obtain rfl:=a6x b;have q:=gg p I y;have F:=gg p K S;have L:=gg p M hm;cases r with
  |bE A k2 l0 k Q X k1=>
   have C:=O _ len k c h d (by trivial) F L s v w k0 i;refine .same N C ?_ e;by_cases B:c<d
   .rw[if_pos B];unfold sliced;rw[if_neg aaU,a7F,hv];exact .bE _ _ _ _ _ X aaU
   .rw[if_neg B];unfold sliced;have:h.toNat - c.toNat=0:=aaU;rw[this];exact .dg _ _ _ (λl1=>by omega) (show d.toNat - c.toNat=0 by omega)
 .rename_i P;rw[P]at r;split at b
  case h_2=>cases b
  rename_i c h d y S hm;split at b
  case isFalse=>cases b
  rename_i x;obtain⟨rfl,rfl,rfl⟩:=x;obtain rfl:=a6x b;have q:=gg p I y;have F:=gg p K S;have L:=gg p M hm;cases r with
  |dg g k dt bZ T=>simp only[Own.lT]at T;subst T;have:=bZ rfl;subst this;have C:=O none 0 0 0 0 0 (by trivial) (by trivial) (by trivial) aaU aaU aaU aaU i;exact .same N C (.dg _ _ .nil (λ_=>rfl) rfl) e
  |J l2 k2 len k W l3 xs dt H hlen k1 l4 l5 hH l6 T=>trivial
 .rename_i P;rw[P]at r;split at b
  case h_2=>cases b
  rename_i c h d y S hm;split at b
  case isFalse=>cases b
  rename_i x;obtain⟨rfl,rfl,rfl⟩:=x;obtain rfl:=a6x b;have q:=gg p I y;have F:=gg p K S;have L:=gg p M hm;cases r with
  |dg g k dt bZ T=>simp only[Own.lT]at T;subst T;have C:=O g 0 0 0 0 0 (by trivial) (by trivial) (by trivial) aaU aaU aaU aaU i;refine .same N C ?_ e;unfold sliced;exact .dg _ _ .zero (λ_=>rfl) rfl
  |J l2 k2 len k W l3 xs dt H hlen k1 l4 l5 hH l6 T=>trivial
 .cases b
theorem wG {b:Array Value} (k:b.size=e) (F: ∀c∈b.toList,c.oneCell'=true) (C:0<e) (d:Nat):bw u (Builtin.zeroCells b d) (List.replicate d (b.toList.map cw)).flatten/\(∀r∈(List.replicate d (b.toList.map cw)).flatten,r.one=true):=by
 have x:(b.toList.map cw).length=e:=by simp[k]
 refine⟨bw.dU.2 ⟨by simp[size_zeroCells],λy c G h D=> ?_⟩,λr p=> ?_⟩
 .have z:y<d*e:=by grind[List.getElem?_eq_some_iff,lk]
  rw[wC _ _ _ (by rw[x];exact z),x,a7d]at D;rw[a8j]at h;have L:y%e<b.size:=by rw[k];exact a8E _ C
  simp only[Builtin.zeroCells,k]at h;rw[Array.getElem?_map]at h;simp only[aaF,z,if_true,a7F,a6K]at h;grind[Array.getElem?_eq_getElem,Option.some.injEq,aX.cw]
 .obtain⟨P,E,p⟩:=aa7.1 p;obtain rfl:=(List.mem_replicate.1 E).2;obtain⟨c,_,rfl⟩:=a6S.1 p;exact nZ c
theorem J7 (P:TypeId) (h:Operand) (C:o.op= .call {callee:= .builtin .clear,args:= #[h],argTypes:= #[P]}) (S:TypeId) (D:m.underlying P=some (.slice S)) (p:TypeInfo) (w:m.info? S=some p) (c:Value) (A:p.zero=some c) (V:c.cells.size=p.size) (W: ∀h∈c.cells.toList,h.oneCell'=true) (e:0<p.size)
  (B:aQ h=true) (H:bO u a j) (g:Holds u f l) (z:G ⟨m,t⟩ (.mU p.size (c.cells.toList.map cw) h) j f Z):bW m t o a l u f Z:=by
 have r:=H.al h B;simp only[G]at z;generalize E:a.eval h=k4 at r;split at z
 case h_2=>trivial
 rename_i k5 d;unfold lg at d;split at d
 .rename_i x k b F I L;rw[L]at r;split at d
  case h_2=>cases d
  rename_i k6 K;split at d
  case isFalse=>cases d
  rename_i M;obtain⟨rfl,N⟩:=M;obtain rfl:=a6x d;obtain⟨i,n⟩:=wG (u:=u) V W e b;have q:(List.replicate b (c.cells.toList.map cw)).flatten.length=b*p.size:=by rw[lk];simp[V]
  obtain⟨y,T,s,k7,O⟩:=Step.store g K k _ _ i n (by rw[q];exact N);refine .value (v:= .tuple #[]) ?_ O (.undef _) z;have v:=run_storeCells_at m x k T (Builtin.zeroCells c.cells b).toList 0 y l s (by have:=i.1;simp only[a9V];omega) (B2 W b);simp only[a8A]at v;have Q:(storeCells ⟨x,k,none⟩ (Builtin.zeroCells c.cells b).toList).run m l= .ok () (l.setRow x (dc y k (Builtin.zeroCells c.cells b).toList)):=by rw[v];rfl
  cases r with
  |bE x k b F I k8 X=>
   cases b with
   |zero=>
    have Y:(Builtin.zeroCells c.cells 0).toList= []:=a6F (by simp[size_zeroCells]);have j9:dc y k []=y:=by simp[dc]
    rw[Y,j9];have k0:=setRow_self l x y T (0,0) s;simp[execOp,C,resolve,invoke,builtin,E,Builtin.clear_,run_underlying D,k0]
   |succ b=>simp[execOp,C,resolve,invoke,builtin,E,Builtin.clear_,run_underlying D,zeroValue,w,A,typeInfo,Q]
 .rename_i k9 L;rw[L]at r;obtain rfl:=a6x d;have k1:(execOp a.eval o).run m l= .ok (.value (.tuple #[])) l:=by
   cases r with
   |dg k2 F dt bZ k3=>cases k2<;>simp[execOp,C,resolve,invoke,builtin,E,Builtin.clear_,run_underlying D]
   |J l0 k len F l1 l2 xs dt e q X l3 n hH l4 k3=>simp_all [execOp,resolve,invoke,builtin,Builtin.clear_,run_underlying]
  exact .same g k1 (.undef _) z
 .cases d
theorem J8 (G:aX u e4 n) (K:Holds u f l) (c:bV f e n=some (i,g)) (y:Program) (b:Nat) (x:b<=i):
  ∃z:List Value,(Builtin.firstCells e b e4).run y l= .ok z.toArray l/\bw u z.toArray (g.take (b*e))/\(g.take (b*e)).length=b*e:=by
 have L: ∀(P) (S) (T),aX u P S->bV f e S=some (b,T)->T=g.take (b*e)->(Builtin.firstCells e b P).run y l=(Builtin.firstCells e b e4).run y l->
   ∃z:List Value,(Builtin.firstCells e b e4).run y l= .ok z.toArray l/\bw u z.toArray (g.take (b*e))/\(g.take (b*e)).length=b*e:=by
  intro P S T M V t N;obtain⟨O,v,Q,k4,_⟩:=wB M K V y;refine⟨O,by rw[<-N];exact v.cells,?_,by rw[<-t,<-Q];exact v.size⟩;rw[<-t];refine bw.dU.2 ⟨by trivial,λC k5 W k6 k7=> ?_⟩;grind
 have k8:=c;unfold bV at c;split at c
 .rename_i p w;split at c
  case isFalse=>cases c
  rename_i k9;simp only[a6K,a7J]at c;obtain⟨rfl,rfl⟩:=c;have l0: ∀D∈p,D.cells.length=e:=by simp_all
  cases G with
  |dg X d w bZ Y=>simp only[a6G,Nat.le_zero]at x;subst x;exact⟨[],by cases X<;>simp[Builtin.firstCells,loadCells,loadCellsFrom],⟨aaV,λC W c=>by simp at c⟩,aaV⟩
  |J A r len d j Z p w hk hlen B H l1 hH l2 Y=>
   subst hlen;have j9: ∀D∈p.take b,D.cells.length=j:=λD k0=>H D (a6M k0);have k1:=((fX b H).2).symm;by_cases I:p= []
   .subst I;simp only[a6G,Nat.le_zero]at x;subst x;exact⟨[],by simp[Builtin.firstCells,loadCells,loadCellsFrom],⟨aaV,λC W c=>by simp at c⟩,aaV⟩
   obtain rfl:j=e:=by
    match p,I with
    |l3::l4,_=>simp_all
   refine L (.slice (some ⟨A,r,none⟩) b d) (.J (p.take b) .any) (flat (p.take b)) (.J A r b d j Z (p.take b) .any hk aaW aaU j9 (λl5 F=> ?_) (λC k2=>hH C (a7L k2 (a6O _ x))) (λC W l6=> ?_) trivial) ?_ k1 rfl;grind;grind
   .unfold bV;simp_all
 .rename_i k E d h;split at c
  case h_2=>cases c
  rename_i m q;split at c
  case isFalse=>cases c
  rename_i F;simp only[a6K,a7J]at c;obtain⟨rfl,rfl⟩:=c;obtain⟨rfl,k3⟩:=F;have V:b*h<=E*h:=a6O _ x;cases G with
  |ao k E d h s B=>refine L (.slice (some ⟨k,0,none⟩) b d) (.ao k b d h) (m.take (b*h)) (.ao k b d h s aaU) ?_ (by grind) rfl;simp only[bV,q];grind
 .rename_i k r E d h;split at c
  case h_2=>cases c
  rename_i m q;split at c
  case isFalse=>cases c
  rename_i F;simp only[a6K,a7J]at c;obtain⟨rfl,rfl⟩:=c;obtain⟨rfl,k3⟩:=F;have V:b*h<=E*h:=a6O _ x;cases G with
  |bE k r E d h s B=>refine L (.slice (some ⟨k,r,none⟩) b d) (.bE k r b d h) ((m.drop r).take (b*h)) (.bE k r b d h s aaU) ?_ (by grind) rfl;simp only[bV,q];grind
 .cases c
theorem J9 (M k3:TypeId) (D E:Operand) (i:o.op= .call {callee:= .builtin .copy,args:= #[D,E],argTypes:= #[M,k3]}) (n:TypeId) (q:m.underlying M=some (.slice n)) (d:Nat) (k4:(m.info? n).map (·.size)=some d)
  (k5:aQ D=true) (k6:aQ E=true) (N:bO u a j) (V:Holds u f l) (s:G ⟨m,t⟩ (.mV d D E) j f Z):bW m t o a l u f Z:=by
 have y:=N.al D k5;have O:=N.al E k6;simp only[G]at s;generalize W:a.eval D=k7 at y;split at s
 case h_2=>trivial
 rename_i l9 n0 c;unfold ma at c;split at c
 case h_2=>cases c
 rename_i p z Q;obtain⟨n1,e,n2,n3,k8⟩:=wB O V Q m;have n4:=e.size;have n5:z.length=p*d:=aaU;have X: ∀b,∃r:Array Value,(Builtin.firstCells d (min p b) (a.eval E)).run m l= .ok r l/\bw u r (z.take (b*d))/\(z.take (b*d)).length=min p b*d:=by intro b;obtain⟨r,n9,a00,a01⟩:=J8 O V Q m (min p b) aaU;grind[min,Nat.mul_le_mul_right,Nat.min_eq_left,List.take_of_length_le,Nat.min_eq_right]
 have k9: ∃v,m.info? n=some v/\v.size=d:=by simp_all
 obtain⟨v,w,A⟩:=k9;have a02: ∀(h k b x) (C),k7= .slice (some ⟨h,k,none⟩) b x->f h=some (.cells C)->k+b*d<=C.length->
   Z (.v (.int .i64 (min p b:Nat))) (f.set h (.cells (putAt C k (z.take (b*d)))))->bW m t o a l u f Z:=by
  intro h k b x C l0 B Y l1;obtain⟨r,F,L,g⟩:=X b;have H: ∀I∈z.take (b*d),I.one=true:=λI P=>k8 I (a6M P);have a03:min p b*d<=b*d:=a6O _ aaU;obtain⟨j9,T,l2,a04,l3⟩:=Step.store V B k (z.take (b*d)) r L H aaU;refine .value ?_ l3 (.v _ rfl) l1;have k0:=run_storeCells_at m h k T r.toList 0 j9 l l2 (by have:=L.1;simp;omega) (L.nX H);simp only[a8A]at k0;have l4:(storeCells ⟨h,k,none⟩ r.toList).run m l= .ok () (l.setRow h (dc j9 k r.toList)):=by rw[k0];rfl
  have k1:Nat.min p b=min p b:=rfl;rw[l0]at W;simp[execOp,i,resolve,invoke,builtin,W,Builtin.copy_,run_underlying q,e.len,sizeOf,typeInfo,w,A,F,l4,goInt]
 split at c
 .rename_i h k b x K S;rw[S]at y;split at c
  case h_2=>cases c
  rename_i C B;split at c
  case isFalse=>cases c
  rename_i P;obtain⟨rfl,Y⟩:=P;simp only[a6K,a7J]at c;obtain⟨rfl,rfl⟩:=c;cases y with
  |bE h k b x K l5 k2=>grind
 .rename_i h b x K S;rw[S]at y;split at c
  case h_2=>cases c
  rename_i C B;split at c
  case isFalse=>cases c
  rename_i P;obtain⟨rfl,Y⟩:=P;simp only[a6K,a7J]at c;obtain⟨rfl,rfl⟩:=c;cases y with
  |ao h b x K l5 k2=>simp_all
 .rename_i a05 S;rw[S]at y;simp only[a6K,a7J]at c;obtain⟨rfl,rfl⟩:=c;have c:(execOp a.eval o).run m l= .ok (.value (.int .i64 0)) l:=by
   obtain⟨r,F,L,g⟩:=X 0;have k1:Nat.min p 0=0:=Nat.min_zero p;rw[Nat.min_zero]at F;have l6:=a9S (by have:=L.1;simp at this;simpa using this);subst l6;cases y with
   |dg l7 x dt bZ l8=>cases l7<;>simp[execOp,i,resolve,invoke,builtin,W,Builtin.copy_,run_underlying q,e.len,sizeOf,typeInfo,w,A,k1,F,goInt,storeCells]
   |J a06 k len x d a07 xs dt k4 g k2 a08 H hH a09 l8=>simp at g;subst g;simp[execOp,i,resolve,invoke,builtin,W,Builtin.copy_,run_underlying q,e.len,sizeOf,typeInfo,w,A,F,goInt,storeCells]
  exact .same V c (.v _ rfl) s
 .cases c
theorem Ja (y:FuncId) (h:Func) (k p:Operand) (M:Array TypeId) (N:o.op= .call {callee:= .value (.func y),args:= #[k,p],argTypes:=M}) (O:m.funcs[y]? =some h) (Q:(h.name== "runtime.NumGoroutine")=false) (X:h.body.isNone=true) (Y:Extern.findNext h=none)
  (c:TypeId) (C:Array TypeId) (j9:Extern.find h=some (Extern.SlicesOverlaps.overlaps #[c,c] C)) (r:TypeId) (k0:m.underlying c=some (.slice r)) (D:Nat) (k1:(m.info? r).map (·.size)=some D)
  (k2:aQ k=true) (k3:aQ p=true) (w:bO u a j) (A:Holds u f l) (E:G ⟨m,t⟩ (.mX k p) j f Z):bW m t o a l u f Z:=by
 have B:=w.al k k2;have H:=w.al p k3;simp only[G]at E;generalize k4:a.eval k=a00 at B;generalize k5:a.eval p=a01 at H;split at E
 case h_2=>trivial
 rename_i a02 d;unfold lh at d;split at d
 case h_2=>cases d
 rename_i F L k6 k7;split at d
 case isFalse=>cases d
 rename_i k8;obtain⟨k9,l0,l1⟩:=k8;obtain rfl:=a6x d;have I: ∀(P:R) (S:Value) (b:Nat),cL P=some b->aX u S P-> ∃l2 l3 l4,S= .slice (some ⟨b,l2,none⟩) l3 l4:=by
  intro P S b x V;cases V<;>simp only[cL,a6K,reduceCtorEq]at x
  .subst x;simp
  .subst x;simp
 have K: ∀b,kq f b=true-> ∃z T,l.heap[b]? =some (.cells z T (0,0))/\z.size≠0:=by
  intro b W;unfold kq at W;split at W
  .rename_i a03 a04 l5;obtain⟨_,z,T,x,V,_⟩:=A.db b _ l5;exact⟨z,T,x,by rw[V.1];simp⟩
  .cases W
 obtain⟨e,g,i,rfl⟩:=I _ _ _ k6 B;obtain⟨n,q,c2,rfl⟩:=I _ _ _ k7 H;obtain⟨l6,l7,s,a05⟩:=K _ l0;obtain⟨l8,l9,n0,n1⟩:=K _ l1;have n2: ∀l,(Go.sizeOf r).run m l= .ok D l:=by
  intro l;cases n3:m.info? r with
  |none=>simp[n3]at k1
  |some ii=>simp_all [sizeOf,typeInfo]
 have n4:=Lib.run_overlaps_apart l c (C.getD 0 0) r k0 D n2 ⟨F,e,none⟩ ⟨L,n,none⟩ g i q c2 k9 l7 l9 l6.size l8.size (by simp[World.shape?,s]) (by simp[World.shape?,n0]) n1 (by simp[World.frozen?,s]) (by simp[World.frozen?,s]);have n5:(Extern.SlicesOverlaps.overlaps #[c,c] C #[.slice (some ⟨F,e,none⟩) g i,.slice (some ⟨L,n,none⟩) q c2]).run m l= .ok (.bool false) l:=n4;have v:=run_callFunc_extern O Q X Y j9 #[.slice (some ⟨F,e,none⟩) g i,.slice (some ⟨L,n,none⟩) q c2] l;rw[n5]at v;simp only[Result.andThen_ok]at v;refine .same A ?_ (.v _ rfl) E;have n9:a.eval (.func y)= .func (.func y) #[] #[]:=rfl;simp[execOp,N,resolve,n9,Deferred.ofValue,invoke,k4,k5,v]
def B7 (h:World) (x y E p:TypeId) (d:TypeInfo) (r:Value) (F:IntKind) (G:m.underlying x=some (.slice p)) (L:m.underlying y=some (.int F))
  (P:m.info? p=some d) (S:d.zero=some r) (z:Option Addr) (c k:Nat) (C:List Value) (u:0<d.size)
  (T:(Builtin.firstCells d.size c (.slice z c k)).run m h.drew= .ok C.toArray h.drew)
  (b:Nat) (v:0<b) (V:k<c+b) (w:((c+b:Nat):Int)<=9223372036854775807) (W:(c+b)*d.bytes<=140737488355328):
  (Builtin.append_ #[x,y] E #[.slice z c k,.int .i64 b]).run m h=
   .ok (.slice (some ⟨h.heap.size,0,none⟩) (c+b) (grownCap h (c+b) k p))
    (h.drew.alloc (.cells (C.toArray++Builtin.zeroCells r.cells b++Builtin.zeroCells r.cells (grownCap h (c+b) k p -(c+b))) p)):=by
 have e: ¬(c+b<=k):=aaU;have f: ¬(9223372036854775807<((c)+(b:Int))):=aaU;have g: ¬(281474976710656<Builtin.nextslicecap (c+b) k*d.bytes):=by have:=growslice_fits V W;omega
 have i:IntKind.i64.wrap (b)=b:=by rw[IntKind.wrap_i64];omega
 have j: ¬((b:Int)<0):=aaU;have A:b*d.bytes<=(c+b)*d.bytes:=a6O _ aaU;have l: ¬(281474976710656<(b)*(d.bytes:Int)):=by rw[<-Int.natCast_mul];omega
 have D:b≠0:=aaU;have n: ¬(b*d.size=0):=Nat.mul_ne_zero D aaU;have q:=λs=>run_underlying L s;have t: ¬(d.size=0):=aaU;simp[Builtin.append_,run_underlying G,q,sizeOf,typeInfo,zeroValue,P,S,asInt,asIntOf,i,j,e,n,D,t,f,g,l,Question.forced,T,newRow,grownCap]
theorem Jb (r x:Operand) (z C:TypeId) (s:IntKind) (k1:m.underlying C=some (.int s)) (k2:o.op= .call {callee:= .builtin .append,args:= #[r,x],argTypes:= #[z,C]}) (k:TypeId) (k3:m.underlying z=some (.slice k)) (d:TypeInfo) (k4:m.info? k=some d) (p:Value) (k5:d.zero=some p)
  (w:p.cells.size=d.size) (k6: ∀r∈p.cells.toList,r.oneCell'=true) (y:0<d.size) (l4:aQ r=true) (l5:aQ x=true) (k7:bO u a j) (P:Holds u f l) (S:G ⟨m,t⟩ (.mW d.size d.bytes (p.cells.toList.map cw) r x) j f Z):bW m t o a l u f Z:=by
 have D:=k7.al r l4;have V:=k7.al x l5;simp only[G]at S;generalize k8:a.eval r=l6 at D;generalize k9:a.eval x=a02 at V;have newRow: ∀(A:List Value) (b c h) (e),bw u A.toArray e->(∀W∈e,W.one=true)->b+c<=h->
   ∃E:List R,E.length=(h -(b+c))*d.size/\Step u f l u (f.set l.heap.size (.cells (e++(List.replicate c (p.cells.toList.map cw)).flatten++E))) (l.drew.alloc (.cells (A.toArray++Builtin.zeroCells p.cells c++Builtin.zeroCells p.cells (h -(b+c))) k)):=by
  intro A b c h e B H I;obtain⟨l7,a03⟩:=wG w k6 y c;obtain⟨l8,a04⟩:=wG w k6 y (h -(b+c));refine⟨(List.replicate (h -(b+c)) (p.cells.toList.map cw)).flatten,by rw[lk];simp[w],?_⟩;refine(Step.drew P).trans (Step.new P.drew _ k _ (λW g=> ?_) (bw.append (bw.append B l7) l8));grind
 split at S
 .rename_i i b h a05 c K M;rw[K]at D;rw[M]at V;obtain rfl:=V.dV;split at S
  case h_2=>trivial
  rename_i N l9;obtain⟨rfl,n0,l0,n1,O,n2,Q⟩:=S;obtain⟨H,X,T,a06,a07,l1⟩:=P.read l9;have a08:=l1.1;have Y:=a8h l0;cases D with
  |ao i b h n3 a09 I=>
   have a10:b*d.size<=N.length:=by rw[n0];exact a6O _ I
   have n4:(X.toList.take (b*d.size)).length=b*d.size:=aaW;have n5:(Builtin.firstCells d.size b (.slice (some ⟨i,0,none⟩) b h)).run m l.drew= .ok (X.toList.take (b*d.size)).toArray l.drew:=by
    refine run_firstCells_some l.drew d.size b ⟨i,0,none⟩ b h _ n4 (λl2 v D=> ?_);have a11:l2<b*d.size:=by grind
    rw[hv,a7c];show l.cell? _= _;grind[cell_of_row,List.getElem?_take_of_lt]
   have F:=B7 l z C o.type k d p s k3 k1 k4 k5 (some ⟨i,0,none⟩) b h _ y n5 c.toNat aaU n1 aaU O;rw[Y]at F;have L:=grownCap_ge l (b+c.toNat) h k;have j9:=grownCap_le_maxLen l (b+c.toNat) h k (by unfold maxLen;omega);have B:bw u (X.toList.take (b*d.size)).toArray (N.take (b*d.size)):=by rw[bw.dU]at l1|-;grind
   obtain⟨E,n,q⟩:=newRow _ b c.toNat (grownCap l (b+c.toNat) h k) (N.take (b*d.size)) B (λW g=>H W (a6M g)) L;exact .value (ja r x z C k2 (by rw[k8,k9];exact F)) q (.ao _ _ _ _ y L) (Q _ _ E P.ef L j9 n)
 .rename_i n9 l3 c K M;rw[K]at D;rw[M]at V;obtain rfl:=V.dV;obtain⟨rfl,rfl,l0,O,n2,Q⟩:=S;have Y:((c.toNat))=c:=a8h aaU;have a00:l6= .slice none 0 0:=by
   cases D with
   |dg a13 h l3 bZ k0=>simp only[Own.lT]at k0;subst k0;rw[bZ rfl]
   |J a14 off len h n3 a15 n9 l3 y hlen I a16 H hH a18 k0=>trivial
  subst a00;have F:=B7 l z C o.type k d p s k3 k1 k4 k5 none 0 0 [] y ab0 c.toNat aaU aaU aaU (by simpa using O);rw[Y]at F;simp only[a7c]at F;have L:=grownCap_ge l c.toNat 0 k;have j9:=grownCap_le_maxLen l c.toNat 0 k (by unfold maxLen;omega);obtain⟨E,n,q⟩:=newRow [] 0 c.toNat (grownCap l c.toNat 0 k) [] ⟨rfl,λl2 a19 a01=>by simp at a01⟩ (λW g=>by simp at g) aaU;simp only[a7c,a6T]at q n;exact .value (ja r x z C k2 (by rw[k8,k9];exact F)) q (.ao _ _ _ _ y L) (Q _ _ E P.ef L j9 n)
 .trivial
end
def jH (a:Program) (b:TypeId):Option Nat:=(a.info? b).map (·.size)
def placeOf (a:Program) (h:TypeId) (b:Nat):Option (Nat×Nat):=
 match a.underlying h with
 |some (.struct k)=>(k.toList.mapM (λc=>(a.info? c.type).map λo=>(c.offset,o.size))).bind λp=>p[b]?
 |some (.array _ r)=>(a.info? r).map λd=>(b*d.size,d.size)
 | _=>none
def wH (a:Program) (c:TypeId):Bool:=
 match a.underlying c with
 |some (.struct d)=>(d.toList.mapM (λb=>(a.info? b.type).map λh=>(b.offset,h.size))).isSome
 |some (.array _ k)=>(a.info? k).isSome
 | _=>false
def rY (b:Program) (c:TypeId):Option (Array Value):=
 match b.info? c with
 |some d=>match d.zero with
  |some a=>if a.cells.toList.all (·.oneCell')then some a.cells else none
  |none=>none
 |none=>none
def B8 (b:Program) (c:TypeId) (a:Nat×Operand):Option (Nat×Nat×Operand):=
 match placeOf b c a.1 with
 |some (off,cf)=>if 0<cf/\aQ a.2=true then some (off,cf,a.2)else none
 |none=>none
def rZ (a:Program) (b:TypeId):List (Nat×Operand)->Option (List (Nat×Nat×Operand))
 | []=>some []
 |c::d=>match B8 a b c,rZ a b d with
  |some h,some k=>some (h::k)
  | _,_=>none
def s0:Nat->List (Nat×Operand)->Option (List Operand)
 | _,[]=>some []
 |a,(c,b)::d=>if a=c/\aQ b=true then(s0 (a+1) d).map (b:: ·)else none
def B9 (a:Program) (b:TypeId) (c:Operand):Option cc:=
 match a.underlying b,jH a b with
 |some d,some h=>if aQ c=true/\(d.isRow=true\/h=1)then some (.load d.isRow h c)else none
 | _,_=>none
structure Env where
 jE:List Nat
 Ba:List Nat
 wr:List Nat
 tX:List Nat
 ty:Bool
 mc:Bool
 pins:List Nat:= []
 Bb:Bool:=false
 wI:Bool:=false
def Env.Jc (a:Env):Operand->Bool
 | .tmp b=>a.Ba.contains b
 | _=>false
def Env.fY (a:Env):Option Nat->Bool
 |some b=> !a.wr.contains b
 |none=>true
def Env.mut (a:Env):Option Nat->Bool
 |some b=>a.tX.contains b
 |none=>false
def Env.box (a:Env):Option Nat->Bool
 |some b=>a.jE.contains b
 |none=>false
def wJ (h:Program) (o:Env) (r:Option Nat) (x:TypeId) (a:Operand) (c d y:Option Operand):Option cc:=
 if aQ a=true/\c.all aQ=true/\d.all aQ=true then
  match h.underlying x,y with
  |some (.slice k),none=>match jH h k with
   |some b=>some (.pb b a c d)
   |none=>none
  |some (.array p k),none=>match jH h k with
   |some b=>if 0<b then some (if o.Jc a=true then .kj b p a c d else .ki b p a c d (o.fY r))else none
   |none=>none
  | _,_=>none
 else none
def tY (a:Program) (b:Bool) (c:TypeId) (d h:Operand):Option cc:=
 match a.underlying c with
 |some .bool=>none
 |some (.slice _)=>match h with
  | .const (.slice none 0 0)=>some (.mQ b d)
  | _=>none
 |some (.pointer k)=>match a.info? k with
  |some o=>if o.size≠0 then some (.qw b d h)else none
  |none=>none
 |some (.int _)=>some (.bin (if b then .neq else .eql) d h)
 |some .string=>some (.bin (if b then .neq else .eql) d h)
 |some p=>match flatK a 20 c with
  |some bF=>if a.cellsOf c=bF.length/\(a.info? c).isSome=true/\p.isRow=true/\a.eqGuardType a.depth c=false then some (.eqv b (mZ bF) d h)else none
  |none=>none
 |none=>none
def wK (d:Program) (x:Env) (y:Option Nat) (k:Call):Option cc:=
 match k.callee,k.args.toList,k.argTypes.toList with
 | .value (.func p),args,_=>if fu d p=true/\args.all aQ=true then some (.fW p args)else none
 | .builtin .len,[a],[h]=>match d.underlying h with
  |some (.slice _)=>if aQ a=true then some (.len a)else none
  |some .string=>if aQ a=true then some (.qv a)else none
  |some (.map _ _)=>if aQ a=true then some (.pc a)else none
  | _=>none
 | .builtin .append,[a,b],[h,z]=>match d.underlying h with
  |some (.slice o)=>match d.info? o with
   |some c=>match c.zero with
    |some r=>if h=z/\r.cells.size=c.size/\0<c.size/\aQ a=true/\aQ b=true then(if x.mut y=true then(if r.cells.toList.all (·.oneCell')=true then some (.lY c.size c.bytes a b)else none)else some (.app c.size c.bytes a b))else none
    |none=>none
   |none=>none
  | _=>none
 | .builtin .max,[a,b],_=>if aQ a=true/\aQ b=true then some (.lX true .i64 a b)else none
 | .builtin .min,[a,b],_=>if aQ a=true/\aQ b=true then some (.lX false .i64 a b)else none
 | .builtin .copy,[a,b],[h,_]=>match d.underlying h with
  |some (.slice o)=>match jH d o with
   |some C=>if aQ a=true/\aQ b=true then some (.mP C a b)else none
   |none=>none
  | _=>none
 | _,_,_=>none
def wL (b:Program) (z:Env) (x:Oper):Option cc:=
 match x.op with
 | .move a| .assign a=>if aQ a=true then some (.eY a)else none
 | .pick C a k=>if aQ C=true/\aQ a=true/\aQ k=true then some (.pick C a k)else none
 | .alloc T=>match rY b T with
  |some o=>some (.alloc T (o.toList.map cw))
  |none=>none
 | .box T a=>if aQ a=true then some (if z.box x.dst=true then .la T a else .box T a)else none
 | .load d a=>B9 b d a
 | .store d a k=>match jH b d with
  |some p=>if 0<p/\aQ a=true/\aQ k=true then some (.store p a k)else none
  |none=>none
 | .nilCheck a=>if aQ a=true then some (.qt a)else none
 | .fieldAddr d a c=>match b.underlying d with
  |some (.struct D)=>match D[c]? with
   |some fd=>match jH b fd.type with
    |some p=>if p≠0/\aQ a=true then some (.lb fd.offset a)else none
    |none=>none
   |none=>none
  | _=>none
 | .indexAddr d a c=>if aQ a=true/\aQ c=true then
   match b.underlying d with
   |some (.array len h)=>match jH b h with
    |some r=>some (.qu r len a c)
    |none=>none
   |some (.slice h)=>match jH b h with
    |some r=>some (.dN r a c)
    |none=>none
   | _=>none
  else none
 | .field d a c=>match b.underlying d with
  |some (.struct D)=>match D[c]? with
   |some fd=>match b.underlying fd.type,jH b fd.type with
    |some y,some p=>if aQ a=true/\(y.isRow=true\/p=1)then some (.pd y.isRow fd.offset p a)else none
    | _,_=>none
   |none=>none
  | _=>none
 | .index d a c=>if aQ a=true/\aQ c=true then
   match b.underlying d with
   |some (.array len h)=>match b.underlying h,jH b h with
    |some y,some r=>if y.isRow=true\/r=1 then some (.pa y.isRow r len a c)else none
    | _,_=>none
   |some .string=>some (.lV a c)
   | _=>none
  else none
 | .build d parts=>match rY b d,rZ b d parts.toList with
  |some o,some res=>if wH b d=true then some (.lW (o.toList.map cw) res)else none
  | _,_=>none
 | .buildSlice d p parts=>match b.underlying d,s0 0 parts.toList with
  |some (.slice h),some xs=>match b.info? h with
   |some c=>match c.zero with
    |some o=>if o.cells.size=c.size/\o.cells.toList.all (·.oneCell')=true/\0<c.size/\p*c.size<=2^24/\xs.length=p then some (if z.mut x.dst=true then .kl c.size xs else .kh c.size xs)else none
    |none=>none
   |none=>none
  | _,_=>none
 | .slice d a aT aS E=>wJ b z x.dst d a aT aS E
 | .binOp op d a k _=>if aQ a=true/\aQ k=true then
   match op with
   | .eql=>tY b false d a k
   | .neq=>tY b true d a k
   |op=>some (.bin op a k)
  else none
 | .unOp op _ a=>if aQ a=true then some (.un op a)else none
 | .convert st F a=>match b.underlying st,b.underlying F with
  |some (.int _),some (.int r)=>if aQ a=true then some (.iY r a)else none
  |some (.slice h),some .string=>match b.underlying h with
   |some (.int .u8)=>if aQ a=true then some (.qx a)else none
   | _=>none
  |some .string,some (.slice h)=>match b.underlying h with
   |some (.int .u8)=>if aQ a=true then some (.pe a)else none
   | _=>none
  | _,_=>none
 | .makeSlice d a k=>match b.underlying d with
  |some (.slice h)=>match b.info? h with
   |some c=>match c.zero with
    |some o=>if o.cells.size=c.size/\o.cells.toList.all (·.oneCell')=true/\0<c.size/\aQ a=true/\aQ k=true then some (.kk c.size c.bytes (o.cells.toList.map cw) a k)else none
    |none=>none
   |none=>none
  | _=>none
 | .extract a c=>if aQ a=true then some (.ext a c)else none
 | .call C=>wK b z x.dst C
 | _=>none
variable{e2:cc}{I:Bool}{Y e9:Operand}{b0:Type}{b2:TypeId}
section
variable  {o:Oper}{a:Act}   
def tZ {b:TypeDesc} (c:b.isRow=true\/e=1):b.isRow=false->e=1:=λd=>c.resolve_left (by simp[d])
theorem wM {b:Array Value} (d:rY m b2=some b): ∃c v,m.info? b2=some c/\c.zero=some v/\v.cells=b/\ ∀h∈b.toList,h.oneCell'=true:=by unfold rY at d;grind
theorem Jd {b:Array Value} (d:rY m b2=some b) (h:wH m b2=true) (c:List (Nat×Value)):m.built b2 c=Instr.fill (placeOf m b2) b c:=by obtain⟨k,v,p,r,rfl,_⟩:=wM d;unfold wH at h;unfold Program.built placeOf;grind[Option.isSome_iff_exists]
theorem Bc {x:TypeId}: ∀ {r:List (Nat×Operand)}{res:List (Nat×Nat×Operand)},rZ m x r=some res->r.length=res.length/\
  ∀(d:Nat) (h:Nat×Operand) (b:Nat×Nat×Operand),r[d]? =some h->res[d]? =some b->placeOf m x h.1=some (b.1,b.2.1)/\h.2=b.2.2/\aQ h.2=true/\0<b.2.1
 | [],res,c=>by
  simp only[rZ,a6K]at c;simp_all
 |h::r,res,c=>by
  simp only[rZ]at c;split at c
  case h_2=>cases c
  rename_i b D y z;obtain rfl:=a6x c;obtain⟨C,E⟩:=Bc z;refine⟨by simp[C],λd F G k p=> ?_⟩
  match d,k,p with
  |0,k,p=>simp only[a8m,a6K]at k p;subst k;subst p;unfold B8 at y;grind
  |d+1,k,p=>grind
theorem Be: ∀ {d:Nat}{h:List (Nat×Operand)}{c:List Operand},s0 d h=some c->h=(c.zipIdx d).map (λk=>(k.2,k.1))/\ ∀p∈c,aQ p=true
 |d,[],c,b=>by
  simp only[s0,a6K]at b;simp_all
 |d,(x,p)::y,c,b=>by
  simp only[s0]at b;split at b
  case isFalse=>cases b
  rename_i z;obtain⟨C,r,rfl⟩:=a9i.1 b;obtain⟨D,E⟩:=Be r;simp_all
def qC {b:Array b0}{c:b0} (d:b.toList= [c]):b= #[c]:=aa8.1 d
def jb {b:Array b0}{c d:b0} (h:b.toList= [c,d]):b= #[c,d]:=aa8.1 h
theorem Je {P:Env}{S:Option Nat}{d h E:Option Operand} (z:o.op= .slice b2 Y d h E) (b:wJ m P S b2 Y d h E=some e2) (C:bO u a j) (D:Holds u f l) (k:G ⟨m,t⟩ e2 j f Z):bW m t o a l u f Z:=by
 unfold wJ at b;split at b
 case isFalse=>cases b
 rename_i c;split at b
 .rename_i p r;split at b
  case h_2=>cases b
  rename_i x y;obtain rfl:=a6x b;exact Iy b2 Y d h z p r x y c.1 c.2.1 c.2.2 C D k
 .rename_i F p r;split at b
  case h_2=>cases b
  rename_i x y;split at b
  case isFalse=>cases b
  rename_i L;obtain rfl:=a6x b;split at k
  .exact IF b2 Y d h z F p r x y L c.1 c.2.1 c.2.2 C D k
  .exact AX b2 Y d h z F p r x y L _ c.1 c.2.1 c.2.2 C D k
 .cases b
theorem Bf {c:TypeId} (d:o.op= .binOp (if I then .neq else .eql) b2 Y e9 c) (h:aQ Y=true) (y:aQ e9=true) (b:tY m I b2 Y e9=some e2) (k:bO u a j) (p:Holds u f l) (r:G ⟨m,t⟩ e2 j f Z):bW m t o a l u f Z:=by
 unfold tY at b;split at b
 .cases b
 .rename_i z x;split at b
  .obtain rfl:=a6x b;exact IJ I b2 Y c d z x h k p r
  .cases b
 .rename_i z x;split at b
  .rename_i D E;split at b
   .rename_i C;obtain rfl:=a6x b;exact Iw I b2 Y e9 c d z x D E C h y k p r
   .cases b
  .cases b
 .obtain rfl:=a6x b;exact wy _ b2 Y e9 c d h y k p r
 .obtain rfl:=a6x b;exact wy _ b2 Y e9 c d h y k p r
 .rename_i F _ _ _ _ _ x;split at b
  case h_2=>cases b
  rename_i L P;split at b
  case isFalse=>cases b
  rename_i C;obtain rfl:=a6x b;grind[Iv]
 .cases b
theorem Jf {V:Env}{W:Option Nat}{P:Call} (C:o.op= .call P) (b:wK m V W P=some e2) (D:bO u a j) (E:Holds u f l) (F:G ⟨m,t⟩ e2 j f Z):bW m t o a l u f Z:=by
 obtain⟨H,I,K⟩:=P;unfold wK at b;split at b
 .rename_i M c;simp only at c;subst c;split at b
  case isFalse=>cases b
  rename_i d;obtain rfl:=a6x b;obtain⟨y,S⟩:=d;unfold fu at y;split at y
  case h_2=>cases y
  rename_i N O;simp only[a6B,bne_iff_ne,ne_eq]at y;grind[Ix,List.all_eq_true]
 .rename_i p r c h x;simp only at c h x;subst c;obtain rfl:=qC h;obtain rfl:=qC x;split at b
  .rename_i z k;split at b
   case isFalse=>cases b
   rename_i d;obtain rfl:=a6x b;exact Ip r p C z k d D E F
  .rename_i k;split at b
   case isFalse=>cases b
   rename_i d;obtain rfl:=a6x b;exact Iq r p C k d D E F
  .rename_i e g k;split at b
   case isFalse=>cases b
   rename_i d;obtain rfl:=a6x b;exact J1 r p C e g k d D E F
  .cases b
 .rename_i p L r T c h x;simp only at c h x;subst c;obtain rfl:=jb h;obtain rfl:=jb x;split at b
  case h_2=>cases b
  rename_i z k;split at b
  case h_2=>cases b
  rename_i i n;split at b
  case h_2=>cases b
  rename_i q s;split at b
  case isFalse=>cases b
  rename_i d;obtain⟨rfl,y,S,v,w⟩:=d;split at b
  .split at b
   case isFalse=>cases b
   rename_i Q;obtain rfl:=a6x b;exact B3 p L r r _ k (.inl ⟨z,rfl⟩) C z k i n q s y (by grind) S v w D E F
  .obtain rfl:=a6x b;grind[IC]
 .rename_i p L c h;simp only at c h;subst c;obtain rfl:=jb h;split at b
  case isFalse=>cases b
  rename_i d;obtain rfl:=a6x b;grind[B4]
 .rename_i p L c h;simp only at c h;subst c;obtain rfl:=jb h;split at b
  case isFalse=>cases b
  rename_i d;obtain rfl:=a6x b;grind[B4]
 .rename_i p L r T c h x;simp only at c h x;subst c;obtain rfl:=jb h;obtain rfl:=jb x;split at b
  case h_2=>cases b
  rename_i z k;split at b
  case h_2=>cases b
  rename_i A B;split at b
  case isFalse=>cases b
  rename_i d;obtain rfl:=a6x b;exact II r T p L C z k A B d.1 d.2 D E F
 .cases b
theorem Jg {O:Env} (b:wL m O o=some e2) (x:bO u a j) (p:Holds u f l) (r:G ⟨m,t⟩ e2 j f Z):bW m t o a l u f Z:=by
 unfold wL at b;split at b
 case h_1 d c=>split at b;(rename_i y;obtain rfl:=a6x b;exact AS d (.inl c) y x p r);(cases b)
 case h_2 d c=>split at b;(rename_i y;obtain rfl:=a6x b;exact AS d (.inr c) y x p r);(cases b)
 case h_3 Q d V c=>split at b;(rename_i y;obtain rfl:=a6x b;grind[Ie]);(cases b)
 case h_4 T c=>
  split at b
  .rename_i n S;obtain rfl:=a6x b;obtain⟨z,v,i,K,rfl,q⟩:=wM S;exact Ib T c z i v K q p r
  .cases b
 case h_5 T d c=>
  split at b
  .rename_i y;obtain rfl:=a6x b;grind[IE,Ic]
  .cases b
 case h_6 k d c=>
  unfold B9 at b;split at b
  .rename_i W F C L;split at b
   .rename_i h;obtain rfl:=a6x b;exact I8 k d c W C F L (tZ h.2) h.1 x p r
   .cases b
  .cases b
 case h_7 k d V c=>
  split at b
  .rename_i F L;split at b
   .rename_i h;obtain rfl:=a6x b;exact Ia k d V c F L h.1 h.2.1 h.2.2 x p r
   .cases b
  .cases b
 case h_8 d c=>split at b;(rename_i y;obtain rfl:=a6x b;exact Ig d c y x p r);(cases b)
 case h_9 k d z c=>
  split at b
  .rename_i s C;split at b
   .rename_i w A;split at b
    .rename_i F L;split at b
     .rename_i h;obtain rfl:=a6x b;exact Ih k d z c s C w A F L h.1 h.2 x p r
     .cases b
    .cases b
   .cases b
  .cases b
 case h_10 k d z c=>
  split at b
  case isFalse=>cases b
  rename_i h;split at b
  .rename_i len D C;split at b
   .rename_i P e;obtain rfl:=a6x b;exact Ii k d z c len D C P e h.1 h.2 x p r
   .cases b
  .rename_i D C;split at b
   .rename_i P e;obtain rfl:=a6x b;exact Ij k d z c D C P e h.1 h.2 x p r
   .cases b
  .cases b
 case h_11 k d z c=>
  split at b
  .rename_i s C;split at b
   .rename_i w A;split at b
    .rename_i W F E L;split at b
     .rename_i h;obtain rfl:=a6x b;exact Ik k d z c s C w A W E F L (tZ h.2) h.1 x p r
     .cases b
    .cases b
   .cases b
  .cases b
 case h_12 k d z c=>
  split at b
  case isFalse=>cases b
  rename_i h;split at b
  .rename_i len D C;split at b
   .rename_i W P E e;split at b
    .rename_i X;obtain rfl:=a6x b;exact Il k d z c len D C W E P e (tZ X) h.1 h.2 x p r
    .cases b
   .cases b
  .rename_i C;obtain rfl:=a6x b;exact Im k d z c C h.1 h.2 x p r
  .cases b
 case h_13 k M c=>
  split at b
  .rename_i n res S Y;split at b
   .rename_i j9;obtain rfl:=a6x b;obtain⟨z,v,i,K,rfl,q⟩:=wM S;obtain⟨k0,k1⟩:=Bc Y;exact IA k M c (placeOf m k) _ res (Jd S j9) q k0 k1 x p r
   .cases b
  .cases b
 case h_14 k F M c=>
  split at b
  .rename_i D k5 C k2;split at b
   .rename_i z i;split at b
    .rename_i n S;split at b
     .rename_i h;obtain rfl:=a6x b;obtain⟨k6,k7⟩:=Be k2;grind[IB,List.all_eq_true,B1]
     .cases b
    .cases b
   .cases b
  .cases b
 grind[Je]
 case h_16 N k d V k3 c=>
  split at b
  case isFalse=>cases b
  rename_i h;split at b;grind[Bf];grind[Bf]
  .obtain rfl:=a6x b;exact wy _ k d V k3 c h.1 h.2 x p r
 case h_17 N k d c=>split at b;(rename_i y;obtain rfl:=a6x b;exact It N k d c y x p r);(cases b)
 case h_18 B H d c=>
  split at b
  .rename_i k4 P g E;split at b
   .rename_i y;obtain rfl:=a6x b;exact Iu B H d c P k4 g E y x p r
   .cases b
  .rename_i D g E;split at b
   .rename_i I;split at b
    .rename_i y;obtain rfl:=a6x b;exact IG B H d c D g I E y x p r
    .cases b
   .cases b
  .rename_i D g E;split at b
   .rename_i I;split at b
    .rename_i y;obtain rfl:=a6x b;exact IK B H d c D g E I y x p r
    .cases b
   .cases b
  .cases b
 case h_19 k d V c=>
  split at b
  case h_2=>cases b
  rename_i D C;split at b
  case h_2=>cases b
  rename_i z i;split at b
  case h_2=>cases b
  rename_i n S;split at b
  case isFalse=>cases b
  rename_i h;obtain rfl:=a6x b;grind[IH,List.all_eq_true]
 case h_20 d z c=>split at b;(rename_i y;obtain rfl:=a6x b;exact Io d z c y x p r);(cases b)
 case h_21 Q c=>exact Jf c b x p r
 .cases b
end
def Bg (a:Program) (b:TypeId):Bool:=
 match a.underlying b with
 |some (.slice _)=>true
 |some .string=>true
 | _=>false
def wN (b:Program) (p:Env) (r:Option Nat) (c d:Operand) (h k:TypeId):Option cc:=
 match b.underlying h with
 |some (.slice x)=>match b.info? x with
  |some a=>match a.zero with
   |some o=>if Bg b k=true/\o.cells.size=a.size/\o.cells.toList.all (·.oneCell')=true/\0<a.size/\aQ c=true/\aQ d=true then
     (if h≠k/\p.mut r=true then some (.lY a.size a.bytes c d)else none)else none
   |none=>none
  |none=>none
 | _=>none
def wO (b:Program) (c:Env) (d:Option Nat) (a:Call):Option cc:=
 match a.callee,a.args.toList,a.argTypes.toList with
 | .value (.tmp h),args,_=>if args.all aQ=true then some (.iZ (.tmp h) args)else none
 | .builtin .append,[k,o],[p,r]=>wN b c d k o p r
 | _,_,_=>none
def Bh:TypeDesc->Bool
 | .interface _=>true
 | _=>false
def Jh {a:TypeDesc} (c:Bh a=false): ∀b,a≠ .interface b:=λb hm=>by subst hm;cases c
def s3 (a:Program) (b:TypeId) (c:List cb):Bool:=
 decide (a.cellsOf b=c.length)&&(a.info? b).isSome&&(match a.underlying b with|some (.array _ _)|some (.struct _)=>true| _=>false)
theorem Bi {a:List cb} (c:flatK m 20 b2=some a) (b:s3 m b2 a=true):nc m b2 (mZ a):=by simp only[s3,a6B,decide_eq_true_eq]at b;obtain⟨⟨d,h⟩,k⟩:=b;refine⟨⟨20,aaU,by rw[tW];exact c⟩,by rw[tW];exact d,h,?_⟩;grind
def wP (a:Program) (k:Op):Option cc:=
 match k with
 | .makeMap _ none=>some .kn
 | .lookup mt b c ok=>match a.underlying mt with
  |some (.map d o)=>match flatK a 20 d,a.info? o with
   |some bF,some p=>match p.zero with
    |some h=>if s3 a d bF=true/\rR h=true/\aQ b=true/\aQ c=true then some (.ko ok (mZ bF) (ofConst h) b c)else none
    |none=>none
   | _,_=>none
  | _=>none
 | .mapUpdate mt b c v| .insert mt b c v=>match a.underlying mt with
  |some (.map d _)=>match flatK a 20 d with
   |some bF=>if s3 a d bF=true/\aQ b=true/\aQ c=true/\aQ v=true then some (.lf (mZ bF) b c v)else none
   |none=>none
  | _=>none
 | _=>none
def wQ (c:Program) (h:Env) (d:Oper):Option cc:=
 match d.op with
 | .makeFunc (.func k) first cap=>if first.toList.all aQ=true/\cap.toList.all aQ=true then some (.bG k first.toList cap.toList)else none
 | .makeInterface b a=>match c.underlying b with
  |some o=>if Bh o=false/\aQ a=true then some (.qy b a)else none
  |none=>none
 | .panic a=>if aQ a=true then some (.mR a)else none
 | .range b a=>match c.underlying b with
  |some .string=>if aQ a=true then some (.km a)else none
  | _=>none
 | .next a true=>if aQ a=true then some (.mS a)else none
 | .call p=>wO c h d.dst p
 | _=>none
def Bj (a:Program) (c:FuncId):Bool:=
  match a.funcs[c]? with
  |some fn=>fn.origin== "slices.overlaps" &&fn.body.isNone&& !(fn.name== "runtime.NumGoroutine")&&(Extern.allNextRows.lookup fn.name).isNone&&(Extern.allGenericRows.lookup fn.name).isNone&&(Extern.allTypedRows.lookup fn.name).isNone&&(Extern.allRows.lookup fn.name).isNone&&
    (match fn.params.toList with
     | [b,d]=>b==d&&(match a.underlying b with|some (.slice h)=>(a.info? h).isSome| _=>false)
     | _=>false)
  |none=>false
def wR (c:Program) (r:Env) (p:Call):Option cc:=
 match p.callee,p.args.toList,p.argTypes.toList with
 | .builtin .cap,[a],[h]=>match c.underlying h with
  |some (.slice _)=>if aQ a=true then some (.mT a)else none
  | _=>none
 | .builtin .clear,[a],[h]=>match c.underlying h with
  |some (.slice o)=>match c.info? o with
   |some b=>match b.zero with
    |some k=>if k.cells.size=b.size/\k.cells.toList.all (·.oneCell')=true/\0<b.size/\aQ a=true then some (.mU b.size (k.cells.toList.map cw) a)else none
    |none=>none
   |none=>none
  | _=>none
 | .builtin .copy,[a,d],[h,_]=>if r.wI=true then(match c.underlying h with
  |some (.slice o)=>match jH c o with
   |some x=>if aQ a=true/\aQ d=true then some (.mV x a d)else none
   |none=>none
  | _=>none)else none
 | .builtin .append,[a,d],[h,y]=>match c.underlying y with
  |some (.int _)=>match c.underlying h with
   |some (.slice o)=>match c.info? o with
    |some b=>match b.zero with
     |some k=>if k.cells.size=b.size/\k.cells.toList.all (·.oneCell')=true/\0<b.size/\aQ a=true/\aQ d=true then some (.mW b.size b.bytes (k.cells.toList.map cw) a d)else none
     |none=>none
    |none=>none
   | _=>none
  | _=>none
 | .value (.func z),[a,d],_=>if Bj c z=true/\aQ a=true/\aQ d=true then some (.mX a d)else none
 | _,_,_=>none
def wS (a:Program) (c:Env) (h:Oper):Option cc:=
 match h.op with
 | .slice k d aT aS b=>if c.wI=true then(match a.underlying k with
  |some (.slice o)=>match jH a o with
   |some p=>if aQ d=true/\aT.all aQ=true/\aS.all aQ=true/\b.all aQ=true/\(b=none\/aS.isSome=true)then some (.lZ p d aT aS b)else none
   |none=>none
  | _=>none)else none
 | .call r=>wR a c r
 | _=>none
def wT (b:Program) (d:Env) (c:Oper):Option cc:=
 match wS b d c with
 |some a=>some a
 |none=>match wP b c.op with
 |some a=>some a
 |none=>match wQ b d c with
 |some a=>some a
 |none=>wL b d c
def Ji:Extern.allNextRows.lookup "slices.overlaps" =none:=by rfl
def Jj:Extern.allGenericRows.lookup "slices.overlaps" =none:=by rfl
def Jk:Extern.allTypedRows.lookup "slices.overlaps" =some Extern.SlicesOverlaps.overlaps:=by rfl
section
variable  {o:Oper}{a:Act}   
theorem Jl {h:Env}{k:Option Nat}{d:TypeId} (y:o.op= .call {callee:= .builtin .append,args:= #[Y,e9],argTypes:= #[d,b2]}) (b:wN m h k Y e9 d b2=some e2) (z:bO u a j) (C:Holds u f l) (D:G ⟨m,t⟩ e2 j f Z):bW m t o a l u f Z:=by
 unfold wN at b;split at b
 case h_2=>cases b
 rename_i E F;split at b
 case h_2=>cases b
 rename_i L P;split at b
 case h_2=>cases b
 rename_i S T;split at b
 case isFalse=>cases b
 rename_i p;obtain⟨r,V,W,e,g,i⟩:=p;obtain⟨c,n,q⟩: ∃c,m.underlying b2=some c/\((∃x,c= .slice x)\/c= .string):=by unfold Bg at r;grind
 split at b
 case isFalse=>cases b
 obtain rfl:=a6x b;grind[B3,List.all_eq_true]
theorem Jm {z:Env}{C:Option Nat}{d:Call} (h:o.op= .call d) (b:wO m z C d=some e2) (k:bO u a j) (p:Holds u f l) (r:G ⟨m,t⟩ e2 j f Z):bW m t o a l u f Z:=by
 obtain⟨L,D,E⟩:=d;unfold wO at b;split at b
 .rename_i F c;simp only at c;subst c;split at b
  case isFalse=>cases b
  rename_i P;obtain rfl:=a6x b;exact IM (.tmp F) D E h rfl (by grind) k p r
 .rename_i S T V W c x y;simp only at c x y;subst c;obtain rfl:=jb x;obtain rfl:=jb y;exact Jl h b k p r
 .cases b
theorem Jn {z:Env} (b:wQ m z o=some e2) (k:bO u a j) (p:Holds u f l) (r:G ⟨m,t⟩ e2 j f Z):bW m t o a l u f Z:=by
 unfold wQ at b;split at b
 .rename_i D first E c
  split at b
  case isFalse=>cases b
  rename_i d;obtain rfl:=a6x b;grind[IL,List.all_eq_true]
 .rename_i x h c;split at b
  case h_2=>cases b
  rename_i C y;split at b
  case isFalse=>cases b
  rename_i d;obtain rfl:=a6x b;exact IN x h c C y (Jh d.1) d.2 k p r
 .rename_i h c;split at b
  case isFalse=>cases b
  rename_i d;obtain rfl:=a6x b;exact IP h c d k p r
 .rename_i x h c;split at b
  case h_2=>cases b
  rename_i y;split at b
  case isFalse=>cases b
  rename_i d;obtain rfl:=a6x b;exact IQ x h c y d k p r
 .rename_i h c;split at b
  case isFalse=>cases b
  rename_i d;obtain rfl:=a6x b;exact IS h c d k p r
 .rename_i F c;exact Jm c b k p r
 .cases b
theorem Jo (b:wP m o.op=some e2) (C:bO u a j) (r:Holds u f l) (x:G ⟨m,t⟩ e2 j f Z):bW m t o a l u f Z:=by
 have lU: ∀mt d h v,(o.op= .mapUpdate mt d h v\/o.op= .insert mt d h v)->(match m.underlying mt with
  |some (.map k _)=>match flatK m 20 k with
   |some p=>if s3 m k p=true/\aQ d=true/\aQ h=true/\aQ v=true then some (.lf (mZ p) d h v)else none
   |none=>none
  | _=>none)=some e2->bW m t o a l u f Z:=by
  intro mt d h v E b;split at b
  case h_2=>cases b
  rename_i k y hm;split at b
  case h_2=>cases b
  rename_i p z;split at b
  case isFalse=>cases b
  rename_i c;obtain rfl:=a6x b;exact J3 mt k y d h v E hm (Bi z c.1) c.2.1 c.2.2.1 c.2.2.2 C r x
 generalize D:o.op=S at b;unfold wP at b;split at b
 .obtain rfl:=a6x b;exact J0 _ D r x
 .split at b
  case h_2=>cases b
  rename_i k y hm;split at b
  case h_2=>cases b
  rename_i p T z F;split at b
  case h_2=>cases b
  rename_i L P;split at b
  case isFalse=>cases b
  rename_i c;obtain rfl:=a6x b;exact J2 _ k y _ _ _ D hm (Bi z c.1) F P (aX.ofConst u L c.2.1) c.2.2.1 c.2.2.2 C r x
 .simp_all
 .simp_all
 .cases b
theorem Jp {g:Env}{F:Call} (L:o.op= .call F) (b:wR m g F=some e2) (P:bO u a j) (S:Holds u f l) (T:G ⟨m,t⟩ e2 j f Z):bW m t o a l u f Z:=by
 obtain⟨k5,k6,i⟩:=F;unfold wR at b;split at b
 .rename_i r k c d h;simp only at c d h;subst c;obtain rfl:=qC d;obtain rfl:=qC h;split at b
  case h_2=>cases b
  rename_i x y;split at b
  case isFalse=>cases b
  rename_i p;obtain rfl:=a6x b;exact J4 k r L x y p P S T
 .rename_i r k c d h;simp only at c d h;subst c;obtain rfl:=qC d;obtain rfl:=qC h;split at b
  case h_2=>cases b
  rename_i x y;split at b
  case h_2=>cases b
  rename_i n q;split at b
  case h_2=>cases b
  rename_i s v;split at b
  case isFalse=>cases b
  rename_i p;obtain rfl:=a6x b;grind[J7,List.all_eq_true]
 .rename_i r C k W c d h;simp only at c d h;subst c;obtain rfl:=jb d;obtain rfl:=jb h;split at b
  case isFalse=>cases b
  split at b
  case h_2=>cases b
  rename_i x y;split at b
  case h_2=>cases b
  rename_i w A;split at b
  case isFalse=>cases b
  rename_i p;obtain rfl:=a6x b;exact J9 k W r C L x y w A p.1 p.2 P S T
 .rename_i r C k k7 c d h;simp only at c d h;subst c;obtain rfl:=jb d;obtain rfl:=jb h;split at b
  case h_2=>cases b
  rename_i k8 k9;split at b
  case h_2=>cases b
  rename_i x y;split at b
  case h_2=>cases b
  rename_i n q;split at b
  case h_2=>cases b
  rename_i s v;split at b
  case isFalse=>cases b
  rename_i p;obtain rfl:=a6x b;grind[Jb,List.all_eq_true]
 .rename_i B r C c d;simp only at c d;subst c;obtain rfl:=jb d;split at b
  case isFalse=>cases b
  rename_i p;obtain rfl:=a6x b;obtain⟨z,H,I⟩:=p;unfold Bj at z;split at z
  case h_2=>cases z
  rename_i D K;simp only[a6B,beq_iff_eq,Option.isNone_iff_eq_none,a8d]at z;obtain⟨⟨⟨⟨⟨⟨⟨e,M⟩,N⟩,O⟩,Q⟩,X⟩,Y⟩,E⟩:=z;split at E
  case h_2=>cases E
  rename_i k W j9;simp only[a6B,beq_iff_eq]at E;obtain⟨rfl,V⟩:=E;split at V
  case h_2=>cases V
  rename_i x y;obtain⟨k0,k1⟩:=a7m.1 V;have k2:=jb j9;have k3:Extern.findNext D=none:=by simp[Extern.findNext,e,O,Ji]
  have k4:Extern.find D=some (Extern.SlicesOverlaps.overlaps #[k,k] D.resultTypes):=by simp[Extern.find,e,Q,X,Y,Jj,Jk,k2]
  exact Ja B D r C i L K N (by rw[M];rfl) k3 k _ k4 x y k0.size (by rw[k1];rfl) H I P S T
 .cases b
def Jq {r:Env} (b:wS m r o=some e2) (h:bO u a j) (k:Holds u f l) (p:G ⟨m,t⟩ e2 j f Z):bW m t o a l u f Z:=by
 unfold wS at b;split at b
 .rename_i x y z C D d;split at b
  case isFalse=>cases b
  split at b
  case h_2=>cases b
  rename_i E F;split at b
  case h_2=>cases b
  rename_i L P;split at b
  case isFalse=>cases b
  rename_i c;obtain rfl:=a6x b;exact J6 x y z C D d c.2.2.2.2 E F L P c.1 c.2.1 c.2.2.1 c.2.2.2.1 h k p
 .rename_i S d;exact Jp d b h k p
 .cases b
def Jr {r:Env} (b:wT m r o=some e2) (d:bO u a j) (h:Holds u f l) (k:G ⟨m,t⟩ e2 j f Z):bW m t o a l u f Z:=by
 unfold wT at b;split at b
 .rename_i p c;obtain rfl:=a6x b;exact Jq c d h k
 split at b
 .rename_i p c;obtain rfl:=a6x b;exact Jo c d h k
 .split at b
  .rename_i p c;obtain rfl:=a6x b;exact Jn c d h k
  .exact Jg b d h k
end
structure ca where
 dst:Option Nat
 op:cc
 guard:Option (Nat×Bool)
def E (h:Ctx) (c:ca) (d:Fr) (a:U) (b:R->U->Prop):Prop:=
 match c.guard with
 |none=>G h c.op d a b
 |some (k,want)=>match d k with
  | .v (.bool o)=>if o=want then G h c.op d a b else b (.aJ []) a
  | .aJ []=>b (.aJ []) a
  | _=>False
def T (c:Ctx) (a:ca) (d:Fr->U->Prop) (b:Fr) (h:U):Prop:=E c a b h λk o=>d (dh b a.dst k) o
def jc (b:Ctx):List ca->(Fr->U->Prop)->Fr->U->Prop
 | [],a=>a
 |c::d,a=>T b c (jc b d a)
variable{K:Ctx}
theorem nd {b:ca} (c: ∀d h,t d h->Z d h) (a:E K b j f t):E K b j f Z:=by
 unfold E at*;cases k:b.guard with
 |none=>rw[k]at a;exact AP c a
 |some fG=>
  obtain⟨p,r⟩:=fG;rw[k]at a;simp only at a|-;split at a
  .split at a
   .next o=>rw[if_pos o];exact AP c a
   simp_all
  .exact c _ _ a
  .omega
variable{j7:Fr -> U -> Prop}
def s4 {b:ca}{c:Fr->U->Prop} (h: ∀j d,j7 j d->c j d) (a:T K b j7 j f):T K b c j f:=nd (λ_ _ a=>h _ _ a) a
def tmpsOf (a:List Operand):List Nat:=a.filterMap λ| .tmp b=>some b| _=>none
def cc.operands:cc->List Operand
 | .eY a| .qy _ a| .mR a| .km a| .mS a| .box _ a| .la _ a| .qx a| .pe a| .mQ _ a| .load _ _ a| .qt a| .lb _ a| .pd _ _ _ a| .len a| .qv a| .pc a| .un _ a| .iY _ a| .ext a _| .mT a| .mU _ _ a=> [a]
 | .pick d h k=> [d,h,k]
 | .alloc _ _| .kn=> []
 | .ko _ _ _ a c=> [a,c]
 | .lf _ a c v=> [a,c,v]
 | .bG _ first cap=>first++cap
 | .iZ a args=>a::args
 | .store _ a b| .qu _ _ a b| .dN _ a b| .pa _ _ _ a b| .lV a b| .bin _ a b| .eqv _ _ a b| .qw _ a b| .app _ _ a b| .lY _ _ a b| .lX _ _ a b| .kk _ _ _ a b| .mP _ a b| .mV _ a b| .mW _ _ _ a b| .mX a b=> [a,b]
 | .lW _ o=>o.map λp=>p.2.2
 | .kh _ xs=>xs
 | .kl _ xs=>xs
 | .pb _ a aT aS| .ki _ _ a aT aS _| .kj _ _ a aT aS=>a::(aT.toList++aS.toList)
 | .lZ _ a aT aS r=>a::(aT.toList++(aS.toList++r.toList))
 | .fW _ args=>args
def ca.reads (a:ca):List Nat:=tmpsOf a.op.operands++(match a.guard with|some (b,_)=> [b]|none=> [])
def Js {a:Fr}{b:List Operand} (d: ∀c∈tmpsOf b,j c=a c) (h:Y∈b):al j Y=al a Y:=by
 cases Y<;>first
  |rfl
  |exact d _ (a9Y.2 ⟨_,h,rfl⟩)
def Bk {b c:Fr}{k:List R->Prop}: ∀(d:List (Nat×Nat×Operand)) (h:List R),(∀a∈d,al b a.2.2=al c a.2.2)->(kp b h d k↔kp c h d k)
 | [],_,_=>a8W
 |(off,cf,o)::r,h,p=>by
  have x:al b o=al c o:=p _ (a8u);simp only[kp,x];rw[Bk r _ (λa y=>p a (a7X _ y))]
theorem pj {c:Fr}{a:Option Operand} (h: ∀b∈a.toList,al j b=al c b) (d:Nat):cX j a d=cX c a d:=by
 cases a with
 |none=>rfl
 |some b=>simp only[cX,h b aaV]
theorem Bl {k:Fr} (z: ∀r∈tmpsOf e2.operands,j r=k r) (x:U) (y:R->U->Prop):G K e2 j x y↔G K e2 k x y:=by
 have a: ∀d∈e2.operands,al j d=al k d:=λd C=>Js z C;cases e2<;>simp only[cc.operands,a6W,a7V,or_false,forall_eq_or_imp,forall_eq,a6L]at a<;>simp only[G]
 case lW D E=>exact Bk E D (λF L=>a _ (a6S.2 ⟨F,L,rfl⟩))
 case kh h P=>rw[a8i a]
 case kl h P=>rw[a8i a]
 case fW S T=>rw[a8i a]
 case iZ d T=>rw[a.1,a8i a.2]
 case bG S first W=>grind[List.map_congr_left]
 case pb h d o p=>simp only[a.1,pj (λb c=>a.2 b (.inl c)),pj (λb c=>a.2 b (.inr c))]
 case lZ h d o p e=>simp only[rV,a.1,pj (λb c=>a.2 b (.inl c)),pj (λb c=>a.2 b (.inr (.inl c))),pj (λb c=>a.2 b (.inr (.inr c)))]
 case ki h V d o p f=>grind[pj]
 case kj h V d o p=>grind[pj]
 all_goals simp_all
def Jt {a:ca}{h:Fr} (k: ∀b∈a.reads,j b=h b) (c:U) (d:R->U->Prop):E K a j c d↔E K a h c d:=by
 have o:=λb p=>k b (a8M _ p);unfold E;cases r:a.guard with
 |none=>exact Bl o c d
 |some fG=>
  obtain⟨x,z⟩:=fG;have y:=k x (a8H _ (by simp[r]));simp only[y];split
  .split
   .exact Bl o c d
   .rfl
  .rfl
  .rfl
def Ju (c:Fr) (a:Nat) (b:R):(dh c (some a) b) a=b:=by simp[dh,lU]
theorem u0 (c:Fr) (a:Option Nat) (d:R) (b:Nat) (h:a≠some b):(dh c a d) b=c b:=by
 cases a with
 |none=>rfl
 |some a=>simp[dh,lU,a6I (λk=>h (by rw[k]):a≠b)]
theorem qD (d:Fr) (a b:Option Nat) (h k:R) (o: ∀c,a=some c->b≠some c):dh (dh d a h) b k=dh (dh d b k) a h:=by
 cases a with
 |none=>rfl
 |some a=>
  cases b with
  |none=>rfl
  |some b=>have r:a≠b:=λp=>o a rfl (by rw[p]);funext c;simp only[dh,lU];grind
theorem ll {b:ca} (c:Option Nat) (p: ∀a,c=some a->a∉b.reads) (d:Fr) (o:R) (h:U) (k:R->U->Prop):E K b (dh d c o) h k↔E K b d h k:=
 Jt (λa r=>u0 d c o a (λx=>p a x r)) h k
theorem U.ea (a:U) (d:e≠i) (b c:bs):(a.set e b).set i c=(a.set i c).set e b:=by grind[U.set]
theorem U.Jv (a:U) (c:e≠i) (b:bs):(a.set e b).del i=(a.del i).set e b:=by grind[U.set,U.del]
theorem U.u1 (a:U) (b:Nat) (c:bs) (d:a b=none):a.join (U.emp.set b c)=a.set b c:=by grind[U.join,U.set,U.emp]
theorem qE (c:U) (b:Nat) (d:bs):c.qm (U.emp.set b d)↔c b=none:=by
 constructor
 .intro a;rcases a b with a|a
  .exact a
  .simp[U.set]at a
 .intro a h;grind[U.set,U.emp]
def s5 (b:Nat) (c:bs) (d:R->U->Prop):R->U->Prop:=λh k=> ∃a,d h a/\a b=none/\k=a.set b c
theorem s6 (a:U) (c:bs) (d:a e=none) (b:a.read i=some g):(a.set e c).read i=some g:=by
 have h:i≠e:=by rintro rfl;simp[U.read,d]at b
 simpa[U.read,U.an _ _ h] using b
theorem Bm (a:U) (d:bs) (h:a e=none) {b:Nat×List R} (c:bV a i n=some b):bV (a.set e d) i n=some b:=by
 unfold bV at c|-;split
 .exact c
 grind[s6];grind[s6];simp_all
theorem Jw (a:U) (c:bs) (h:a e=none) {d:Nat×List R} (b:mY a i n=some d):mY (a.set e c) i n=some d:=by
 unfold mY at b|-;split
 .exact b
 .rename_i k;split at b
  .simp_all
  .exact Bm a c h b
theorem Jx (b:U) (c:bs) (h:b e=none) (a:lg i g n b=some f):lg i g n (b.set e c)=some (f.set e c)/\f e=none:=by
 unfold lg at a|-;split at a
 .rename_i k o p r x;split at a
  case h_2=>cases a
  rename_i y d;have z:k≠e:=by rintro rfl;rw[h]at d;cases d
  split at a
  case isFalse=>cases a
  rename_i C;obtain rfl:=a6x a;simp_all [U.an,U.ea,a6I]
 simp_all
 .cases a
theorem Jy (c:U) (d:bs) (h:c e=none) {o:R} (a:ma i n b6 c=some (o,f)):ma i n b6 (c.set e d)=some (o,f.set e d)/\f e=none:=by
 unfold ma at a|-;split at a
 case h_2=>cases a
 rename_i E F p;rw[Bm c d h p];simp only;split at a
 .rename_i k G r x y;split at a
  case h_2=>cases a
  rename_i z b;have C:k≠e:=by rintro rfl;rw[h]at b;cases b
  split at a
  case isFalse=>cases a
  rename_i D;simp only[a6K,a7J]at a;obtain⟨rfl,rfl⟩:=a;simp_all [U.an,U.ea,a6I]
 .rename_i k r x y;split at a
  case h_2=>cases a
  rename_i z b;have C:k≠e:=by rintro rfl;rw[h]at b;cases b
  split at a
  case isFalse=>cases a
  rename_i D;simp only[a6K,a7J]at a;obtain⟨rfl,rfl⟩:=a;simp_all [U.an,U.ea,a6I]
 simp_all
 .cases a
theorem Jz (a:U) (c:bs) (h:a e=none) {d:R} (k:lh n b6 a=some d):lh n b6 (a.set e c)=some d:=by
 have p: ∀b,kq a b=true->kq (a.set e c) b=true:=λb o=>by
  have r:b≠e:=by rintro rfl;simp[kq,h]at o
  grind[kq,U.an]
 unfold lh at k|-;grind
variable{X j8:bs}
theorem Bn (c:f e=none) (a:G K e2 j f t):G K e2 j (f.set e X) (s5 e X t):=by
 have C: ∀y,t y f->s5 e X t y (f.set e X):=λy g=>⟨f,g,c,rfl⟩;have l6: ∀(d) (E) (y),(f.set e X) d=none->(f d=none->t y (f.set d E))->s5 e X t y ((f.set e X).set d E):=λd E y S F=>by
  have b:e≠d:=by rintro rfl;simp[U.set]at S
  rw[U.an _ _ (a6I b)]at S;exact⟨_,F S,by rw[U.an _ _ b];exact c,U.ea f b X E⟩
 cases e2<;>simp only[G]at a|-
 case fW l7 Y=>
  have:=hM.frame a ((qE f e X).2 c);rw[U.u1 f e X c]at this;refine this.mono (λy Z ⟨r,i,V,l⟩=>⟨r,i,(qE r e X).1 V,?_⟩) (λ_ _ a=>a);rw[l,U.u1 r e X ((qE r e X).1 V)]
 case iZ o Y=>
  split at a
  case h_2=>omega
  refine⟨a.1,?_⟩;have:=hM.frame a.2 ((qE f e X).2 c);rw[U.u1 f e X c]at this;refine this.mono (λy Z ⟨r,i,V,l⟩=>⟨r,i,(qE r e X).1 V,?_⟩) (λ_ _ a=>a);rw[l,U.u1 r e X ((qE r e X).1 V)]
 case mT o=>grind
 case lZ=>grind
 case mU x m o=>
  split at a
  case h_2=>exact a.elim
  rename_i r n;obtain⟨q,s⟩:=Jx f X c n;rw[q];exact⟨r,a,s,rfl⟩
 case mV x o L=>
  split at a
  case h_2=>exact a.elim
  rename_i y r n;obtain⟨q,s⟩:=Jy f X c n;rw[q];exact⟨r,a,s,rfl⟩
 case mX o L=>
  grind[Jz]
 case mW x bytes m o L=>
  grind[s6]
 case kn=>grind
 case pc o=>
  split at a
  case h_2=>omega
  next d z=>
  split at a
  case h_2=>exact a.elim
  next I M p=>
  have b:d≠e:=by rintro rfl;rw[c]at p;cases p
  rw[U.an _ _ b,p];exact C _ a
 case ko l8 j9 m o x=>
  split at a
  case h_2=>omega
  next d D z k0=>
  split at a
  case h_2=>exact a.elim
  next I M p=>
  have b:d≠e:=by rintro rfl;rw[c]at p;cases p
  grind[U.an,dH]
 case lf j9 o x v=>
  split at a
  case h_2=>omega
  next d D z k0=>
  split at a
  case h_2=>exact a.elim
  next I M p=>
  have b:d≠e:=by rintro rfl;rw[c]at p;cases p
  rw[U.an _ _ b,p];exact⟨a.1,a.2.1,_,a.2.2,by rw[U.an _ _ (a6I b)];exact c,U.ea f (a6I b) X _⟩
 case km o=>grind
 case mR o=>
  split at a
  case h_2=>omega
  obtain⟨k1,S,F⟩:=a;refine⟨k1,λd E k2=> ?_,F⟩;have:=S d E k2;have b:d≠e:=by grind
  rw[U.an _ _ b];exact this
 case mS o=>
  split at a
  case h_2=>omega
  next d W z=>
  refine⟨a.1,?_⟩;have F:=a.2;split at F
  case h_2=>trivial
  next l9 n0 p=>
  have b:d≠e:=by rintro rfl;rw[c]at p;cases p
  rw[U.an _ _ b,p];simp only;split
  .next k3=>rw[if_pos k3]at F;exact⟨_,F,by rw[U.an _ _ (a6I b)];exact c,U.ea f (a6I b) X _⟩
  simp_all
 case lW k4 n1=>exact wo (λD h=>C _ h) _ _ a
 case alloc T k4=>grind
 case box T o=>simp_all
 case la T o=>simp_all
 case kk x bytes m o L=>grind
 case lX=>grind
 case mQ n2 o=>
  grind
 case kl x N=>
  grind
 case lY x bytes o L=>
  split at a
  case h_2=>exact a.elim
  rename_i n3 u k5;rw[Jw f X c k5];simp only;split at a;grind
  .next d P w A z=>
   split at a
   case h_3=>exact a.elim
   all_goals
   rename_i D h;have b:d≠e:=by rintro rfl;rw[c]at h;cases h
   rw[U.an _ _ b,h];refine⟨a.1,a.2.1,a.2.2.1,a.2.2.2.1,?_⟩;have k:=a.2.2.2.2;split
   .next B=>rw[if_pos B]at k;exact⟨_,k,by rw[U.an _ _ (a6I b)];exact c,U.ea f (a6I b) X _⟩
   simp_all
  .next d W P w A z=>
   split at a
   case h_2=>exact a.elim
   rename_i D h;have b:d≠e:=by rintro rfl;rw[c]at h;cases h
   rw[U.an _ _ b,h];refine⟨a.1,a.2.1,a.2.2.1,a.2.2.2.1,?_⟩;have k:=a.2.2.2.2;split
   .next B=>rw[if_pos B]at k;exact⟨_,k,by rw[U.an _ _ (a6I b)];exact c,U.ea f (a6I b) X _⟩
   simp_all
  .omega
 case kj x P o k6 k7=>
  split at a
  .next d W z=>
   split at a
   .refine⟨a.1,a.2.1,a.2.2.1,?_⟩;have k:=a.2.2.2;split at k
    .next D h=>
     have b:d≠e:=by rintro rfl;rw[c]at h;cases h
     grind[U.an]
    .trivial
   .omega
  .omega
 case mP x o L=>
  split at a
  .next d W P w A u k8 z k9=>
   refine⟨a.1,a.2.1,?_⟩;have k:=a.2.2;split at k
   .next D h=>
    have b:d≠e:=by rintro rfl;rw[c]at h;cases h
    rw[U.an _ _ b,h];exact⟨k.1,_,k.2,by rw[U.an _ _ (a6I b)];exact c,U.ea f (a6I b) X _⟩
   .trivial
  .next d P w A u k8 z k9=>
   refine⟨a.1,a.2.1,?_⟩;have k:=a.2.2;split at k
   .next D h=>
    have b:d≠e:=by rintro rfl;rw[c]at h;cases h
    rw[U.an _ _ b,h];exact⟨k.1,_,k.2,by rw[U.an _ _ (a6I b)];exact c,U.ea f (a6I b) X _⟩
   .trivial
  .omega
 case kh x N=>
  grind
 case load n4 P o=>
  grind[s6]
 case store P o L=>
  split at a
  .next d W z=>
   split at a
   case h_2=>exact a.elim
   next h=>
    have b:d≠e:=by rintro rfl;rw[c]at h;cases h
    rw[U.an _ _ b,h];exact⟨a.1,a.2.1,_,a.2.2,by rw[U.an _ _ (a6I b)];exact c,U.ea f (a6I b) X _⟩
  .omega
 case ki x P o k6 k7 n5=>
  split at a
  .next d W z=>
   split at a
   .refine⟨a.1,a.2.1,a.2.2.1,?_⟩;have k:=a.2.2.2;split at k
    .next D h=>
     have b:d≠e:=by rintro rfl;simp[U.read,c]at h
     rw[s6 f X c h];refine⟨k.1,?_⟩;have O:=k.2;split
     .next g=>rw[if_pos g]at O;exact⟨_,O,by rw[U.an _ _ (a6I b)];exact c,U.ea f (a6I b) X _⟩
     simp_all
    .trivial
   .omega
  .omega
 case app x bytes o L=>
  split at a<;>try exact a.elim
  rename_i N l0 u E _ _;refine⟨a.1,a.2.1,a.2.2.1,a.2.2.2.1,?_⟩;have k:=a.2.2.2.2;cases l0<;>simp only at k|-;grind;grind
  case buf l1 n9 _=>
   have b:l1≠e:=by rintro rfl;rw[c]at k;cases k.1
   refine⟨by rw[U.an _ _ b];exact k.1,λQ l2 l3=> ?_⟩;have H:Q≠e:=by rintro rfl;grind[U.ai]
   have l4:=l3.imp id (λa=>by rwa[U.an _ _ H]at a);refine⟨_,k.2 Q l2 l4,by rw[U.an _ _ (a6I H),U.eH _ (a6I b)];exact c,?_⟩;rw[U.Jv f (a6I b) X,U.ea _ (a6I H) X]
 case pick=>grind
 case dN x o l5=>
  grind
 case lV o l5=>
  grind
 all_goals
  (repeat' split at a)<;>first
   |exact a.elim
   |exact C _ a
   |exact⟨a.1,C _ a.2⟩
   |exact⟨a.1,a.2.1,C _ a.2.2⟩
   |exact⟨a.1,a.2.1,a.2.2.1,C _ a.2.2.2⟩
   |exact⟨a.1,a.2.1,a.2.2.1,a.2.2.2.1,C _ a.2.2.2.2⟩
   |exact⟨a.1,a.2.1,a.2.2.1,a.2.2.2.1,a.2.2.2.2.1,C _ a.2.2.2.2.2⟩
theorem wU {b:ca} (c:f e=none) (a:E K b j f t):E K b j (f.set e X) (s5 e X t):=by
 have k: ∀d,t d f->s5 e X t d (f.set e X):=λd o=>⟨f,o,c,rfl⟩;unfold E at*;cases h:b.guard with
 |none=>rw[h]at a;exact Bn c a
 |some fG=>
  obtain⟨r,x⟩:=fG;rw[h]at a;simp only at a|-;split at a
  .split at a
   .next p=>rw[if_pos p];exact Bn c a
   simp_all
  .exact k _ a
  .omega
def nf:cc->Bool
 | .mU _ _ _| .mV _ _ _| .mW _ _ _ _ _| .mX _ _| .alloc _ _| .kn| .pc _| .ko _ _ _ _ _| .lf _ _ _ _| .km _| .mS _| .mR _| .iZ _ _| .box _ _| .la _ _| .load _ _ _| .store _ _ _| .kh _ _| .ki _ _ _ _ _ _| .kj _ _ _ _ _| .app _ _ _ _| .fW _ _| .kk _ _ _ _ _| .mP _ _ _| .mQ _ _| .kl _ _| .lY _ _ _ _=>false
 | _=>true
def o4:cc->Bool
 | .load _ _ _| .kj _ _ _ _ _=>true
 | _=>false
def ln:cc->Bool
 | .alloc _ _| .kn| .km _| .box _ _| .la _ _| .kh _ _| .kl _ _| .kk _ _ _ _ _=>true
 | _=>false
def Bo {k:Fr}: ∀(o:List (Nat×Nat×Operand)) (b:List R) {r:List R->Prop},kp k b o r-> ∃c,∀a:List R->Prop,kp k b o a↔a c
 | [],b,_,_=>⟨b,λa=>a8W⟩
 |(off,cf,y)::c,b,_,d=>by
  obtain⟨x,p⟩:=Bo c _ d.2.2;exact⟨x,λa=>⟨λh=>(p a).1 h.2.2,λh=>⟨d.1,d.2.1,(p a).2 h⟩⟩⟩
def Bp (a:nf e2=true) (b:G K e2 j f t): ∃k,∀(c:U) (d:R->U->Prop),G K e2 j c d↔d k c:=by
 cases e2<;>simp only[nf,a7H]at a<;>simp only[G]at b|-
 case pick=>split at b;(exact⟨_,λc d=>a8W⟩);trivial
 case mT=>split at b;(exact⟨_,λc d=>a8W⟩);trivial
 case lZ=>split at b;(exact⟨_,λc d=>a8W⟩);trivial
 case lW x y=>
  obtain⟨k,o⟩:=Bo _ _ b;exact⟨.agg k,λc d=>o _⟩
 case lX=>split at b;(exact⟨_,λc d=>⟨λa=>a.2,λa=>⟨b.1,a⟩⟩⟩);trivial
 case dN z p r=>
  split at b
  .have h:=b.2;split at h
   .exact⟨_,λc d=>⟨λa=>a.2.2,λa=>⟨b.1,h.1,a⟩⟩⟩
   .trivial
  .exact⟨_,λc d=>⟨λa=>a.2.2.2,λa=>⟨b.1,b.2.1,b.2.2.1,a⟩⟩⟩
  .exact⟨_,λc d=>⟨λa=>a.2.2.2,λa=>⟨b.1,b.2.1,b.2.2.1,a⟩⟩⟩
  .trivial
 case lV p r=>
  split at b
  .have h:=b.2;split at h
   .exact⟨_,λc d=>⟨λa=>a.2,λa=>⟨b.1,a⟩⟩⟩
   .trivial
  .trivial
 all_goals
  (repeat' split at b)<;>first
   |exact b.elim
   |exact⟨_,λc d=>a8W⟩
   |exact⟨_,λc d=>⟨λa=>a.2,λa=>⟨b.1,a⟩⟩⟩
   |exact⟨_,λc d=>⟨λa=>a.2.2,λa=>⟨b.1,b.2.1,a⟩⟩⟩
   |exact⟨_,λc d=>⟨λa=>a.2.2.2,λa=>⟨b.1,b.2.1,b.2.2.1,a⟩⟩⟩
   |exact⟨_,λc d=>⟨λa=>a.2.2.2.2,λa=>⟨b.1,b.2.1,b.2.2.1,b.2.2.2.1,a⟩⟩⟩
   |exact⟨_,λc d=>⟨λa=>a.2.2.2.2.2,λa=>⟨b.1,b.2.1,b.2.2.1,b.2.2.2.1,b.2.2.2.2.1,a⟩⟩⟩
def Bq (a:o4 e2=true) (b:G K e2 j f t): ∃h,∀(c:R->U->Prop),G K e2 j f c↔c h f:=by
 cases e2<;>simp only[o4,a7H]at a<;>simp only[G]at b|-
 case load=>
  split at b
  .split at b
   .exact⟨_,λc=>⟨λa=>a.2,λa=>⟨b.1,a⟩⟩⟩
   .trivial
  .exact⟨_,λc=>⟨λa=>a.2,λa=>⟨b.1,a⟩⟩⟩
  .trivial
 case kj=>
  split at b
  .split at b
   .have d:=b.2.2.2;split at d
    .exact⟨_,λc=>⟨λa=>a.2.2.2.2,λa=>⟨b.1,b.2.1,b.2.2.1,d.1,a⟩⟩⟩
    .trivial
   .trivial
  .trivial
def Br (a:ln e2=true) (b:G K e2 j U.emp λ_ _=>True):
  (∃y,∀(c:U) (d:R->U->Prop),G K e2 j c d↔d y c)\/ ∃(z:Nat->R) (C:Nat->bs),∀(c:U) (d:R->U->Prop),G K e2 j c d↔ ∀r,c r=none->d (z r) (c.set r (C r)):=by
 cases e2<;>simp only[ln,a7H]at a<;>simp only[G]at b|-
 case alloc T D=>exact .inr ⟨_,_,λc d=>a8W⟩
 case kn=>exact .inr ⟨_,λ_=> _,λc d=>a8W⟩
 case km x=>split at b;(exact .inr ⟨_,λ_=> _,λc d=>a8W⟩);trivial
 case box T x=>exact .inr ⟨_,λ_=> _,λc d=>⟨λa=>a.2,λa=>⟨b.1,a⟩⟩⟩
 case la T x=>exact .inr ⟨_,λ_=> _,λc d=>⟨λa=>a.2,λa=>⟨b.1,a⟩⟩⟩
 case kk k bytes E x F=>split at b;(exact .inr ⟨λo=> .ao o _ _ k,λ_=> _,λc d=>⟨λa=>a.2.2.2.2,λa=>⟨b.1,b.2.1,b.2.2.1,b.2.2.2.1,a⟩⟩⟩);trivial
 case kh k h=>
  by_cases p:h.length=0
  .simp only[if_pos p]at b|-;exact .inl ⟨_,λc d=>⟨λa=>a.2,λa=>⟨b.1,a⟩⟩⟩
  .simp only[if_neg p]at b|-;exact .inr ⟨λo=> .J (h.map (al j)) (.buf o h.length),λ_=> .buf k h.length h.length,λc d=>⟨λa=>a.2,λa=>⟨b.1,a⟩⟩⟩
 case kl k h=>
  by_cases p:h.length=0
  .simp only[if_pos p]at b|-;exact .inl ⟨_,λc d=>⟨λa=>a.2,λa=>⟨b.1,a⟩⟩⟩
  .simp only[if_neg p]at b|-;exact .inr ⟨λo=> .ao o h.length h.length k,λ_=> .cells (flat (h.map (al j))),λc d=>⟨λa=>a.2,λa=>⟨b.1,a⟩⟩⟩
theorem Bs (a:ln e2=true) (b:G K e2 j f t):G K e2 j U.emp λ_ _=>True:=by
 cases e2<;>simp only[ln,a7H]at a<;>simp only[G]at b|-;simp
 case kn=>simp
 case km c=>grind
 simp_all;simp_all
 case kk=>grind
 simp_all;simp_all
def Def (a:Ctx) (b:ca) (c:Fr):Prop:=E a b c U.emp λ_ _=>True
def wV {b:ca} (k:nf b.op=true) (a:E K b j f t): ∃p,∀(c:U) (d:R->U->Prop),E K b j c d↔d p c:=by
 unfold E at*;cases o:b.guard with
 |none=>rw[o]at a;exact Bp k a
 |some fG=>
  obtain⟨r,x⟩:=fG;rw[o]at a;simp only at a|-;split at a
  .split at a
   .next h=>simp only[if_pos h];exact Bp k a
   .next h=>simp only[if_neg h];exact⟨_,λc d=>a8W⟩
  .exact⟨_,λc d=>a8W⟩
  .trivial
theorem u2 {b:ca} (h:o4 b.op=true) (a:E K b j f t): ∃o,∀(c:R->U->Prop),E K b j f c↔c o f:=by
 unfold E at*;cases k:b.guard with
 |none=>rw[k]at a;exact Bq h a
 |some fG=>
  obtain⟨p,r⟩:=fG;rw[k]at a;simp only at a|-;split at a
  .split at a
   .next d=>simp only[if_pos d];exact Bq h a
   .next d=>simp only[if_neg d];exact⟨_,λc=>a8W⟩
  .exact⟨_,λc=>a8W⟩
  .trivial
theorem JA {b:ca} (c:ln b.op=true) (a:E K b j f t):Def K b j:=by
 unfold Def;unfold E at*;cases d:b.guard with
 |none=>rw[d]at a;exact Bs c a
 |some fG=>
  obtain⟨k,o⟩:=fG;rw[d]at a;simp only at a|-;split at a
  .split at a
   .next h=>rw[if_pos h];exact Bs c a
   .simp_all
  .trivial
  .trivial
def Bt {d:ca} (o:ln d.op=true) (a:Def K d j):
  (∃r,∀(b:U) (c:R->U->Prop),E K d j b c↔c r b)\/ ∃(x:Nat->R) (y:Nat->bs),∀(b:U) (c:R->U->Prop),E K d j b c↔ ∀h,b h=none->c (x h) (b.set h (y h)):=by
 unfold Def at a;unfold E at*;cases p:d.guard with
 |none=>rw[p]at a;exact Br o a
 |some fG=>
  obtain⟨z,C⟩:=fG;rw[p]at a;simp only at a|-;split at a
  .split at a
   .next k=>simp only[if_pos k];exact Br o a
   .next k=>simp only[if_neg k];exact .inl ⟨_,λb c=>a8W⟩
  .exact .inl ⟨_,λb c=>a8W⟩
  .trivial
structure dd where
 i:Nat
 pre:List Nat
 jI:List Nat
section
variable (P:Ctx) (xs:Nat->ca)
def hx (a:Nat) (b:Fr) (c:U):Prop:=
 match(xs a).dst with
 |some d=>E P (xs a) b c λh _=>h=b d
 |none=>True
def can (c:Fr->U->Prop):List dd->Fr->U->Prop
 | []=>c
 |a::o=>λd p=>(∀b∈a.pre,Def P (xs b) d)/\T P (xs a.i) (λh k=>(∀b∈a.jI,hx P xs b h k)/\can c o h k) d p
def clear (a:Option Nat) (b:List Nat):Bool:=match a with|some c=> !b.contains c|none=>true
def me (a b:Option Nat):Bool:=match a,b with|some c,some d=>c !=d| _,_=>true
def indep (a b:dd) (d:List Nat):Bool:=
  clear (xs a.i).dst (xs b.i).reads&&clear (xs b.i).dst (xs a.i).reads&&me (xs a.i).dst (xs b.i).dst&&
  b.jI.all (λc=>c==a.i||d.contains c||(clear (xs a.i).dst (xs c).reads&&me (xs a.i).dst (xs c).dst))&&
  ((a.pre.isEmpty&&a.jI.isEmpty&&(nf (xs a.i).op||(o4 (xs a.i).op&&((nf (xs b.i).op||o4 (xs b.i).op||ln (xs b.i).op)||(b.jI.contains a.i&&clear (xs a.i).dst (xs a.i).reads&&(xs a.i).dst.isSome)))))||
   (b.jI.isEmpty&&(nf (xs b.i).op||ln (xs b.i).op)&&a.pre.contains b.i&&a.pre.all (λc=>clear (xs b.i).dst (xs c).reads)&&
     a.jI.all (λc=>clear (xs b.i).dst (xs c).reads&&me (xs b.i).dst (xs c).dst)))
variable {P xs}
theorem s7 {b:Option Nat}{c:List Nat} (d:clear b c=true): ∀a,b=some a->a∉c:=by intro a h;subst h;simpa[clear] using d
theorem Bu {a b:Option Nat} (d:me a b=true): ∀c,a=some c->b≠some c:=by grind[me]
theorem Bv {a:Option Nat} (h:clear a (xs e).reads=true) (k:me a (xs e).dst=true) (b:Fr) (d:R) (c:U):hx P xs e (dh b a d) c↔hx P xs e b c:=by
 unfold hx;cases o:(xs e).dst with
 |none=>rfl
 |some p=>grind[ll,s7,u0,Bu]
theorem JB (b:f i=none) (a:hx P xs e j f):hx P xs e j (f.set i X):=by
 unfold hx at*;cases c:(xs e).dst with
 |none=>trivial
 |some h=>rw[c]at a;exact nd (λk o ⟨p,d,_,_⟩=>d) (wU b a)
def Pass (a:Nat->ca) (b:dd):List dd->Prop
 | []=>True
 |d::c=>indep a d b (c.map (·.i))=true/\Pass a b c
theorem Bw {C:Fr->U->Prop} (h:dd) (e:List dd): ∀(p:List dd),Pass xs h p->(p.map (·.i)).Nodup-> ∀(k:Fr) (o:U),can P xs C (p++h::e) k o->
  T P (xs h.i) (λS d=>(∀a∈h.jI,a∉p.map (·.i)->hx P xs a S d)/\can P xs C (p++e) S d) k o
 | [],_,_,k,o,q=>s4 (λS d D=>⟨λa y _=>D.1 a y,D.2⟩) q.2
 |r::p,hk,n3,k,o,q=>by
  have A:=hk.1;have Z:(p.map (·.i)).Nodup:=by simp_all
  have j9:r.i∉p.map (·.i):=by simp_all
  have ih:=Bw (C:=C) h e p hk.2 Z;obtain⟨k0,B⟩:=q;simp only[indep,a6B]at A;obtain⟨⟨⟨⟨k1,k2⟩,a3⟩,a4⟩,H⟩:=A;have i:=s7 k1;have c2:=s7 k2;have aE:=Bu a3;have n4: ∀a∈h.jI,a≠r.i->a∉p.map (·.i)->clear (xs r.i).dst (xs a).reads=true/\me (xs r.i).dst (xs a).dst=true:=λa y n5 n9=>by
   grind
  have W:T P (xs r.i) (λS d=>(∀a∈r.jI,hx P xs a S d)/\T P (xs h.i) (λI K=>(∀a∈h.jI,a∉p.map (·.i)->hx P xs a I K)/\can P xs C (p++e) I K) S d) k o:=
   s4 (λS d D=>⟨D.1,ih S d D.2⟩) B
  clear B ih;simp only[a8l,a6B]at H;rcases H with ⟨⟨k3,k4⟩,k5⟩|⟨⟨⟨⟨k6,k7⟩,k8⟩,a00⟩,a01⟩
  .
   have k9:=aa9.1 k3;have a02:=aa9.1 k4;have j: ∀(x:R) (b:R) (d:U),(∀G,E P (xs r.i) k d G↔G x d)->
     ((∀a∈h.jI,a∉p.map (·.i)->hx P xs a (dh (dh k (xs r.i).dst x) (xs h.i).dst b) d)/\can P xs C (p++e) (dh (dh k (xs r.i).dst x) (xs h.i).dst b) d)->
     (∀a∈h.jI,a∉(r::p).map (·.i)->hx P xs a (dh k (xs h.i).dst b) d)/\can P xs C (r::p++e) (dh k (xs h.i).dst b) d:=λx b d V g=>by
    rw[qD k _ _ x b aE]at g;refine⟨λa y l0=> ?_,?_⟩
    .simp only[a6Q,a6W,not_or]at l0;grind[Bv]
    .refine⟨by rw[k9];simp,?_⟩;simp_all [T,ll]
   rcases k5 with l1|⟨l2,l3⟩
   .obtain⟨x,V⟩:=wV l1 W;have s:=(V o _).1 W;have c:=s.2;unfold T at c|-;rw[ll _ i]at c;exact nd (λb d g=>j x b d (λG=>V d G) g) c
   .obtain⟨x,V⟩:=u2 l2 W;have s:=(V _).1 W;have c:=s.2;unfold T at c|-;rw[ll _ i]at c;rcases l3 with t|⟨⟨l4,l5⟩,l6⟩
    .rcases t with t|M
     case inr=>
      rcases Bt M (JA M c)with ⟨b,z⟩|⟨f,l,z⟩
      .rw[z]at c|-;exact j x b o V c
      .rw[z]at c|-;intro F m;refine j x (f F) _ ?_ (c F m);have l7:E P (xs r.i) k o λu _=>u=x:=(V _).2 rfl;have a03:=nd (λ_ _ ⟨_,D,_,_⟩=>D) (wU (X:=l F) m l7);grind[u2]
     have L: ∃b,∀G:R->U->Prop,E P (xs h.i) k o G↔G b o:=by
      rcases t with L|L
      .obtain⟨b,z⟩:=wV L c;exact⟨b,λG=>z o G⟩
      .exact u2 L c
     obtain⟨b,z⟩:=L;rw[z]at c|-;exact j x b o V c
    .refine nd (λb d g=> ?_) c;have l8:=g.1 r.i (by simpa using l4) j9;obtain⟨a04,N⟩:=a7m.1 l6;have a05:E P (xs r.i) k d λu _=>u=x:=by have:=l8;rw[qD k _ _ x b aE]at this;unfold hx at this;rw[N]at this;simp only at this;rw[Ju,<-N,ll _ (s7 l5),ll _ c2]at this;exact this
     grind[u2]
  .
   have O:=aa9.1 k6;have Q:=k0 h.i (by simpa using k8);have l9:(∃x,∀(o:U) (C:R->U->Prop),E P (xs h.i) k o C↔C x o)\/ ∃(f:Nat->R) (l:Nat->bs),∀(o:U) (C:R->U->Prop),E P (xs h.i) k o C↔ ∀F,o F=none->C (f F) (o.set F (l F)):=by
    rcases k7 with L|L
    .exact .inl (wV L Q)
    .exact Bt L Q
   have X: ∀b,∀a∈r.pre,Def P (xs a) (dh k (xs h.i).dst b):=λb a y=>by
    grind[Def,ll,s7,List.all_eq_true]
   have a06: ∀a∈r.jI,∀(w) (b) (n),hx P xs a w n->hx P xs a (dh w (xs h.i).dst b) n:=λa y w b n D=>by
    simp_all [a6B,Bv]
   unfold T at W;rcases l9 with ⟨b,z⟩|⟨f,l,z⟩
   .unfold T;rw[z];refine⟨λa y=>(by rw[O]at y;cases y),X b,?_⟩;unfold T;rw[ll _ c2];refine nd (λv n0 D=> ?_) W;have c:=D.2;rw[ll _ i,z,qD k _ _ v b aE]at c;refine⟨λa y=> ?_,c.2⟩;grind[qD]
   .unfold T;rw[z];intro F m;refine⟨λa y=>(by rw[O]at y;cases y),X (f F),?_⟩;unfold T;rw[ll _ c2];refine nd (λv n n1=> ?_) (wU m W);obtain⟨n0,D,n2,rfl⟩:=n1;have c:=D.2;rw[ll _ i,z]at c;have Y:=c F n2;rw[qD k _ _ v (f F) aE]at Y;refine⟨λa y=> ?_,Y.2⟩;grind[qD,JB]
def u3 (a:Nat->List Nat):Nat->List Nat->Nat->List Nat
 |0,acc,_=>acc
 |d+1,acc,b=>u3 a d (acc++ [(a b).foldl (λh c=>h|||2^c|||acc.getD c 0) 0]) (b+1)
def dep (a:List Nat) (b c:Nat):Bool:=(a.getD c 0).testBit b
def kr (c:Nat->ca) (d:List Nat) (a:dd):List Nat->List dd->Bool
 | _,[]=>true
 |h,b::k=>(dep d a.i b.i||indep c a b h)&&kr c d a (h++ [b.i]) k
def ng (a:Nat->ca) (b:List Nat):List dd->Bool
 | []=>true
 |d::c=>kr a b d [] c&&ng a b c
def jd (a:Array Oper) (b:Nat):List Nat:=
 match a[b]? with
 |some c=>(c.after.toList.filter λd=>Region.binds .any d).map (·.on)
 |none=> []
def u4 (k:Ctx) (o:Nat->ca) (b:Array Oper) (h:Fr->U->Prop):Nat->Array Bool->Fr->U->Prop
 |0,a,c,d=>Region.ready .any b a= []/\h c d
 |fuel+1,a,c,d=>(Region.ready .any b a= []->h c d)/\ ∀p∈Region.ready .any b a,T k (o p) (u4 k o b h fuel (a.setIfInBounds p true)) c d
def Bx (b:Array Oper) (c:Array Bool):Prop:= ∀a,a<b.size->c.getD a true=true-> ∀d∈jd b a,c.getD d false=true
theorem wW {a:Array Oper}:i∈jd a e↔ ∃b,a[e]? =some b/\ ∃c∈b.after,Region.binds .any c=true/\c.on=i:=by unfold jd;grind
theorem wX {a:Array Oper}{b:Array Bool}:e∈Region.ready .any a b↔b.getD e true=false/\e<a.size/\ ∀d∈jd a e,b.getD d false=true:=by
 rw[mem_ready];constructor
 .rintro⟨c,z,x,h⟩;refine⟨c,(a7P.1 x).1,λd y=> ?_⟩;obtain⟨C,D,k,o,p,rfl⟩:=wW.1 y;simp_all
 .rintro⟨c,r,h⟩;exact⟨c,a[e],a8I r,λk o p=>h _ (wW.2 ⟨_,a8I r,k,o,p,rfl⟩)⟩
theorem JC (c:List Nat) (h:List Nat) (d:Nat): ∀a,(c.foldl (λa b=>a|||2^b|||h.getD b 0) a).testBit d=true->a.testBit d=true\/ ∃b∈c,d=b\/(h.getD b 0).testBit d=true:=by
 induction c with
 |nil=>intro a k;exact .inl k
 |cons o c ih=>grind
def Bits (h:Nat->List Nat) (d:List Nat):Prop:= ∀a b,dep d b a=true-> ∃c∈h a,b=c\/(dep d b c=true/\c<a)
theorem By {h:Nat->List Nat} (F: ∀b a,a∈h b->a<b): ∀(x:Nat) (c:List Nat) (d:Nat),c.length=d->Bits h c->Bits h (u3 h x c d)
 |0,c,d,_,y=>y
 |x+1,c,d,z,y=>by
  refine By F x _ (d+1) (by simp[z]) λb G k=> ?_;have C: ∀b,b<d->(c++ [(h d).foldl (λo a=>o|||2^a|||c.getD a 0) 0]).getD b 0=c.getD b 0:=λb p=>by
   grind
  unfold dep at k|-;rcases aa5 b d with p|p|p
  .rw[C b p]at k;obtain⟨a,D,r⟩:=y b G k;refine⟨a,D,r.imp id λE=>⟨?_,E.2⟩⟩;rw[C a aaU];exact E.1
  .subst p;have L:(c++ [(h b).foldl (λo a=>o|||2^a|||c.getD a 0) 0]).getD b 0=(h b).foldl (λo a=>o|||2^a|||c.getD a 0) 0:=by rw[<-z];simp
   rw[L]at k;rcases JC _ _ _ _ k with r|⟨a,D,r⟩
   .simp at r
   grind
  grind
theorem JD {h:Array Oper}{d:Array Bool}{x:List Nat} (y:Bits (jd h) x) (z:Bx h d) (L:d.size=h.size): ∀(k a b:Nat),b<=k->dep x a b=true->(∀c∈jd h b,d.getD c false=true)->d.getD a false=true:=by
 intro k
 induction k with
 |zero=>
  intro a b C r o;obtain⟨c,p,rfl|⟨_,D⟩⟩:=y b a r
  .exact o _ p
  .omega
 |succ k ih=>
  intro a b C r o;obtain⟨c,p,rfl|⟨E,D⟩⟩:=y b a r
  .exact o _ p
  .have F:=o c p;have G:c<d.size:=by grind
   refine ih a c aaU E (z c aaU ?_);simpa[G] using F
def Bz {k:List Nat}{c d:dd}{o:List dd}: ∀ {h:List dd}{b:List Nat},kr xs k c b (h++d::o)=true->dep k c.i d.i=true\/indep xs c d (b++h.map (·.i))=true
 | [],b,a=>by
  simp only[a6T,kr,a6B,a8l]at a;simpa using a.1
 |p::h,b,a=>by
  simp only[a7M,kr,a6B]at a;have:=Bz a.2;simpa using this
theorem BA {d:List Nat}{b:dd}{k:List dd}: ∀ {a:List dd},ng xs d (a++b::k)=true->(∀h∈a,dep d h.i b.i=false)->Pass xs b a
 | [],_,_=>trivial
 |h::a,c,o=>by
  simp only[a7M,ng,a6B]at c;refine⟨?_,BA c.2 (λp r=>o p (a7X _ r))⟩;have:=Bz c.1;simp_all
theorem JE {a c:dd}{d h:List Nat} (k:indep xs a c d=true) (o: ∀b,b∈d->b∈h\/(clear (xs a.i).dst (xs b).reads=true/\me (xs a.i).dst (xs b).dst=true)):indep xs a c h=true:=by simp only[indep,a6B]at k|-;grind
theorem BB {o:List Nat}{c:dd}: ∀ {d:List dd}{h k:List Nat},kr xs o c h d=true->(∀a,a∈h->a∈k\/(clear (xs c.i).dst (xs a).reads=true/\me (xs c.i).dst (xs a).dst=true))->kr xs o c k d=true
 | [],_,_,_,_=>rfl
 |p::d,h,k,b,hm=>by
  simp only[kr,a6B,a8l]at b|-;refine⟨b.1.imp id (λb=>JE b hm),BB b.2 λa r=> ?_⟩;grind
theorem BC {k:List Nat}{b d:dd}{o:List dd} (p:clear (xs b.i).dst (xs d.i).reads=true/\me (xs b.i).dst (xs d.i).dst=true): ∀ {h:List dd}{c:List Nat},kr xs k b c (h++d::o)=true->kr xs k b c (h++o)=true
 | [],c,a=>by
  simp only[a6T,kr,a6B]at a|-;refine BB a.2 λr x=> ?_;grind
 |r::h,c,a=>by
  simp only[a7M,kr,a6B]at a|-;exact⟨a.1,BC p a.2⟩
def BD {d:List Nat}{h:dd}{k:List dd}: ∀ {b:List dd},ng xs d (b++h::k)=true->Pass xs h b->ng xs d (b++k)=true
 | [],a,_=>by simp only[a6T,ng,a6B]at a|-;exact a.2
 |p::b,a,o=>by
  simp only[a7M,ng,a6B]at a|-;have c:=o.1;simp only[indep,a6B]at c;exact⟨BC ⟨c.1.1.1.1,c.1.1.2⟩ a.1,BD a.2 o.2⟩
theorem JF {k:Array Oper}{V:List Nat} (q:Bits (jd k) V) (s: ∀a c,c∈jd k a->c<a): ∀(y:Nat) (b:Array Bool) (d:List dd),b.size=k.size->d.length<=y->
  (∀a,a∈d.map (·.i)↔(a<k.size/\b.getD a true=false))->(d.map (·.i)).Nodup->ng xs V d=true->Bx k b-> ∀z C,can P xs j7 d z C->u4 P xs k j7 y b z C:=by
 have t: ∀(b:Array Bool) (d:List dd),b.size=k.size->(∀a,a∈d.map (·.i)↔(a<k.size/\b.getD a true=false))->Region.ready .any k b= []->d= []:=λb d D r W=>by
  cases d with
  |nil=>rfl
  |cons h X=>
   exfalso;have u: ∀G a,a<=G->a<k.size->b.getD a true=false-> ∃c,c∈Region.ready .any k b:=by
    intro G
    induction G with
    |zero=>intro a e o p;refine⟨a,wX.2 ⟨p,o,λc x=> ?_⟩⟩;have:=s a c x;omega
    |succ G ih=>
     intro a e o p;by_cases v: ∀c∈jd k a,b.getD c false=true
     .exact⟨a,wX.2 ⟨p,o,v⟩⟩
     grind
   obtain⟨o,p⟩:=(r h.i).1 aaV;obtain⟨c,x⟩:=u h.i h.i (a7g _) o p;rw[W]at x;cases x
 intro y
 induction y with
 |zero=>intro b d D g r _ _ _ z C L;have:d= []:=a6F aaU;subst this;refine⟨?_,L⟩;simp_all [Region.ready]
 |succ y ih=>
  intro b d D g r w i j z C L;refine⟨λW=> ?_,λa e=> ?_⟩
  .have:=t b d D r W;subst this;exact L
  .obtain⟨o,p,l⟩:=wX.1 e;have A:=(r a).2 ⟨p,o⟩;obtain⟨h,B,rfl⟩:=a6S.1 A;obtain⟨E,S,rfl⟩:=a8V B;have H:(E.map (·.i)++h.i::S.map (·.i)).Nodup:=by simpa using w
   have I:(E.map (·.i)).Nodup:=(List.nodup_append.1 H).1;have m:=BA i λF f=>by
    cases K:dep V F.i h.i with
    |false=>rfl
    |true=>exfalso;have Y:=JD q j D h.i F.i h.i (a7g _) K l;grind
   have M:=Bw h S E m I z C L;refine s4 (λN O Q=> ?_) M;refine ih (b.setIfInBounds h.i true) (E++S) (by simp[D]) (by simp at g|-;omega) (λc=> ?_) ?_ (BD i m) ?_ N O Q.2
   .have Z:h.i∉(E++S).map (·.i):=by grind
    by_cases T:h.i=c;simp_all
    .rw[getD_set_ne true T,<-r c];grind
   grind
   .intro c x n F f;by_cases T:h.i=c
    .subst T;exact getD_set_true (l F f)
    .rw[getD_set_ne true T]at n;exact getD_set_true (j c x n F f)
end
inductive gh where
 |norm
 |exit (id:Nat)
 |ret
inductive et where
 |skip
 |plain (ops:List ca)
 |draw (ops:List ca) (order:List dd)
 |seq (a b:et)
 |cond (c:Operand) (a b:et)
 |block (id:Nat) (a:et)
 |loop (a:et)
 |exit (id:Nat)
 |ret
 |refuse
def nth (a:List ca) (b:Nat):ca:=a.getD b {dst:=none,op:= .eY (.const (.bool true)),guard:=none}
def eQ (a:Fr->U->Prop) (b:gh->Fr->U->Prop):gh->Fr->U->Prop
 | .norm=>a
 |c=>b c
def lo (id:Nat) (a:gh->Fr->U->Prop):gh->Fr->U->Prop
 | .exit b=>if b=id then a .norm else a (.exit b)
 |c=>a c
def c3 (c:Ctx):et->(gh->Fr->U->Prop)->Fr->U->Prop
 | .skip,a=>a .norm
 | .plain ops,a=>jc c ops (a .norm)
 | .draw ops order,a=>can c (nth ops) (a .norm) order
 | .seq h k,a=>c3 c h (eQ (c3 c k a) a)
 | .cond z h k,a=>λb d=>match al b z with
  | .v (.bool p)=>(p=true->c3 c h a b d)/\(p=false->c3 c k a b d)
  | _=>False
 | .block id h,a=>c3 c h (lo id a)
 | .loop h,a=>λb d=> ∃(o:Fr->U->Prop) (r:Fr->U->Nat),o b d/\ ∀b d,o b d->c3 c h (eQ (λx y=>o x y/\r x y<r b d) a) b d
 | .exit id,a=>a (.exit id)
 | .ret,a=>a .ret
 | .refuse,_=>λ_ _=>False
def wY (a:Array Oper) (b:Oper):Option (Option (Nat×Bool)):=
 match b.guard with
 |none=>some none
 |some (c,want)=>match(a[c]?).bind (·.dst)with
  |some d=>some (some (d,want))
  |none=>none
def BE (a:Nat):Option Nat->Bool
 |some b=>decide (b<a)
 |none=>true
def wZ (a:List Nat):Option Nat->Bool
 |some b=> !a.contains b
 |none=>true
def qF (c:Program) (b:Env) (d:Nat) (h:Array Oper) (a:Oper):Option ca:=
 match wT c b a,wY h a with
 |some k,some o=>if BE d a.dst=true/\wZ b.pins a.dst=true then some {dst:=a.dst,op:=k,guard:=o}else none
 | _,_=>none
def fx {a b:Type} (c:a->Option b):List a->Option (List b)
 | []=>some []
 |d::h=>match c d,fx c h with
  |some k,some o=>some (k::o)
  | _,_=>none
def x0 (b:Nat->List Nat) (c:List Nat) (d:Nat->Bool) (left:List Nat):Option Nat:=left.find? λa=>(b a).all (λh=>c.contains h)&&d a
def BG (b:Nat->List Nat) (c:Nat->ca):Nat->List Nat->List Nat->List Nat
 |0,_,_=> []
 |fuel+1,done,left=>
  match(x0 b done (λa=>nf (c a).op||o4 (c a).op) left).or ((x0 b done (λa=> !ln (c a).op) left).or (x0 b done (λ_=>true) left))with
  |some a=>a::BG b c fuel (a::done) (left.filter (·!=a))
  |none=> []
def BH (a:ca):Bool:=nf a.op||o4 a.op
def marks (a:Nat->ca) (d:Nat->Nat->Bool):List Nat->List Nat->List dd
 | _,[]=> []
 |ahead,b::h=>
  let k:=if BH (a b)then []else h.filter λc=>(ln (a c).op||nf (a c).op)&& !d b c
  let o:=if BH (a b)||ln (a b).op then []else ahead.filter λc=>o4 (a c).op&& !d c b
  ⟨b,k,o⟩::marks a d (ahead++ [b]) h
def BI (a:Array Oper) (b:Nat->ca):List dd:=
 marks b (dep (u3 (jd a) a.size [] 0)) [] (BG (jd a) b a.size [] (List.range a.size))
def x3 (a:Array Oper) (d:Nat->ca) (b:List dd):Bool:=
 (List.range a.size).all (λc=>(jd a c).all (λh=>decide (h<c)))&&decide (b.length<=a.size)&&(List.range a.size).all (λc=>(b.map (·.i)).contains c)&&b.all (λk=>decide (k.i<a.size))&&
  decide ((b.map (·.i)).Nodup)&&ng d (u3 (jd a) a.size [] 0) b
def u5:Code->List Oper
 | .region _ ops _=>ops.toList
 | .seq a b| .cond _ a b=>u5 a++u5 b
 | .block _ a| .loop a=>u5 a
 | _=> []
def s8 (a:List Nat):Operand->Bool
 | .tmp b=>a.contains b
 | _=>false
def derive (a:List Nat):List Oper->List Nat
 | []=>a
 |d::h=>match d.op,d.dst with
  | .fieldAddr _ b _,some c| .indexAddr _ b _,some c| .nilCheck b,some c=>derive (if s8 a b then c::a else a) h
  | _,_=>derive a h
def JG (a:List Nat) (b:Oper):Bool:=
 match b.op with
 | .fieldAddr _ _ _| .indexAddr _ _ _| .nilCheck _| .load _ _| .slice _ _ _ _ _=>false
 |op=>op.operands.toList.any (s8 a)
def JH (a:List Nat) (b:Oper):Bool:=
 match b.op with
 | .slice _ c _ _ _=>s8 a c
 | _=>false
def JI (a:List Nat) (h:Oper):List Nat:=
 let p (a:List Nat) (b:Operand):List Nat:=match b with| .tmp k=>if a.contains k then a else k::a| _=>a
 let c (b:Operand):List Nat:=match h.dst with
  |some d=>if a.contains d then p a b else if s8 a b then(if a.contains d then a else d::a)else a
  |none=>a
 match h.op with
 | .move b| .assign b=>c b
 | .slice _ b _ _ _=>c b
 | .call o=>match o.callee,o.args.toList with
  | .builtin .append,[b,_]=>c b
  | _,_=>a
 | _=>a
def x4 (b:List Oper):Nat->List Nat->List Nat
 |0,a=>a
 |d+1,a=>let c:=b.foldl JI a;if c.length=a.length then a else x4 b d c
def BJ (c:Program) (a:List Oper):List Nat:=
 a.filterMap λb=>match b.op,b.dst with
  | .indexAddr d (.tmp h) _,some k=>if !(match c.underlying d with|some (.slice _)=>true| _=>false)then none else let o:=derive [k] a;if a.any (λp=>match p.op with| .store _ r _=>s8 o r| _=>false)then some h else none
  | _,_=>none
def JJ (b:Program) (c:List Nat) (a:Oper):Bool:=
 match a.op,a.dst with
 | .convert st _ _,some d=>(match b.underlying st with|some .string=>true| _=>false)&&c.contains d
 | _,_=>false
def JK (d:Program) (b:Code):Env:=
 let a:=u5 b
 let h:=(a.filterMap λc=>match c.op with| .box _ _=>c.dst| _=>none).filter λo=>let k:=derive [o] a;a.any (JH k)&& !a.any (JG k)
 {jE:=h,Ba:=derive h a,wr:=a.filterMap λc=>match c.op with| .call b=>(match b.callee,b.args.toList with| .builtin .copy,.tmp p:: _=>some p| _,_=>none)| _=>none,tX:=x4 a 40 (BJ d a),ty:=false,mc:=a.any (JJ d (x4 a 40 (BJ d a)))}
def gW (b:Program) (a:Env) (c:Nat):Code->Option et
 | .skip=>some .skip
 | .region _ ops false=>match fx (qF b a c ops) ops.toList with
  |some xs=>some (.plain xs)
  |none=>if a.Bb=true then some .refuse else none
 | .region _ ops true=>match fx (qF b a c ops) ops.toList with
  |some xs=>if x3 ops (nth xs) (BI ops (nth xs))=true then some (.draw xs (BI ops (nth xs)))else none
  |none=>none
 | .seq d h=>match gW b a c d,gW b a c h with
  |some k,some o=>some (.seq k o)
  | _,_=>none
 | .cond p d h=>match gW b a c d,gW b a c h with
  |some k,some o=>if aQ p=true then some (.cond p k o)else none
  | _,_=>none
 | .block id d=>(gW b a c d).map (.block id)
 | .loop d=>(gW b a c d).map .loop
 | .exit id=>some (.exit id)
 | .ret=>some .ret
 | .refuse _=>some .refuse
 | _=>none
def pk (a:List Deferred×List (Nat×Value)) (b:Act):Prop:=b.defers=a.1/\ ∀c∈a.2,b.tmps.getD c.1 undef=c.2
theorem pk.put {d:List Deferred×List (Nat×Value)}{a:Act} (h:pk d a) {b:Option Nat}{v:Value}{k:List Nat} (p: ∀c∈d.2,c.1∈k) (r:wZ k b=true):pk d (a.put b v):=by
 refine⟨by rw[<-h.1];cases b<;>rfl,λc o=> ?_⟩;cases b with
 |none=>exact h.2 c o
 |some b=>
  have x:c.1≠b:=by rintro rfl;grind[wZ,Bool.not_eq_true',decide_eq_false_iff_not]
  rw[<-h.2 c o];simp_all [Act.put,a6I]
def hP (c:List Deferred×List (Nat×Value)) (d:Nat) (h:bl) (k:U) (o:World) (p:Fr) (r:U) (a:Act) (x:World):Prop:=
 a.tmps.size=d/\pk c a/\ ∃b,bO b a p/\Step h k o b r x
def post (h:List Deferred×List (Nat×Value)) (D:R->U->Prop) (r:Nat) (k:bl) (o:U) (p:World) (x:gh->Fr->U->Prop):Exit->Act->World->Prop
 | .normal,b,d=> ∃a c,hP h r k o p a c b d/\x .norm a c
 | .exit id,b,d=> ∃a c,hP h r k o p a c b d/\x (.exit id) a c
 | .ret,b,d=> ∃a c,hP h r k o p a c b d/\x .ret a c
 | .panic E,b,d=>pk h b/\ ∃v z y C,E= [{v,recovered:=false}]/\Step k o p y C d/\aX y v z/\up D z C/\ ∃a,bO y b a
 | _,_,_=>False
variable{b5:FuncId}
section
variable  {env:Env}    {D:List Deferred×List (Nat×Value)}
def size_put (a:Act) (b:Option Nat) (v:Value):(a.put b v).tmps.size=a.tmps.size:=by cases b<;>simp[Act.put]
theorem BK {c o:Type}{p:c->Option o}: ∀ {d:List c}{b:List o},fx p d=some b->d.length=b.length/\ ∀(r:Nat) (h:c),d[r]? =some h-> ∃k,b[r]? =some k/\p h=some k
 | [],b,a=>by simp only[fx,a6K]at a;simp_all
 |h::y,b,a=>by
  simp only[fx]at a;split at a
  case h_2=>cases a
  rename_i k z C x;obtain rfl:=a6x a;obtain⟨E,F⟩:=BK x;grind
theorem JL {h:Array Oper}{o:Oper}{z:Option (Nat×Bool)} (c:wY h o=some z) {a:Act} (E:bO u a j):
  match z with
  |none=>Region.wanted o (yielded h a.tmps)=true
  |some (b,C)=>(∀p,j b= .v (.bool p)->Region.wanted o (yielded h a.tmps)=(p==C))/\(j b= .aJ []->Region.wanted o (yielded h a.tmps)=false):=by
 unfold wY at c;split at c
 .rename_i x;obtain rfl:=a6x c;simp[Region.wanted,x]
 .rename_i F C x;split at c
  case h_2=>cases c
  rename_i b G;obtain rfl:=a6x c;have d:=E b;refine⟨λp y=> ?_,λy=> ?_⟩
  .rw[y]at d;have k:=d.dV;have S:a.tmps[b]? =some (.bool p):=by
    rw[a7w]at k;cases r:a.tmps[b]? with
    |none=>rw[r]at k;cases k
    |some L=>rw[r]at k;simpa using k
   grind[yielded,Region.wanted]
  .rw[y]at d;have P:yielded h a.tmps F=none:=by
    unfold yielded;rw[G];simp only[Option.bind_some];cases r:a.tmps[b]? with
    |none=>rfl
    |some L=>rw[a7w,r]at d;simp only[a8v]at d;cases d;rfl
   simp[Region.wanted,x,P]
theorem BL (L: ∀A∈D.2,A.1∈env.pins) {P:Array Oper}{b:Oper}{S:ca} (p:qF m env e P b=some S) {d:Act} (B:hP D e u f l j s d h9) (H:T ⟨m,t⟩ S j7 j s) (x:Exit->Act->World->Prop) (I: ∀v k o a h,(∃j,bO o d j)->Step u f l o a h->aX o v k->up t k a->x (.panic [{v,recovered:=false}]) d h):
  if Region.wanted b (yielded P d.tmps)then b.wp m d h9 (λy h=> ∃c a,hP D e u f l c a y h/\j7 c a) x else∃c a,hP D e u f l c a (d.put b.dst undef) h9/\j7 c a:=by
 obtain⟨V,W,g,r,z⟩:=B;unfold qF at p;split at p
 case h_2=>cases p
 rename_i K j9 M N;split at p
 case isFalse=>cases p
 rename_i i;obtain rfl:=a6x p;have n: ∀C,b.dst=some C->C<d.tmps.size:=λC k0=>by grind[BE]
 have k1:=JL N r;have k2:G ⟨m,t⟩ K j s (λk a=>j7 (dh j b.dst k) a)->b.wp m d h9 (λy h=> ∃c a,hP D e u f l c a y h/\j7 c a) x:=λO=>by
  have:=Jr M r z.holds O x (λv k o a h q Q X=>I v k o a h ⟨j,r.mono q.le⟩ (z.trans q) Q X);refine Oper.wp_mono (λy h Y=> ?_) this;obtain⟨v,o,a,k,rfl,w,Z,F⟩:=Y;exact⟨dh j b.dst k,a,⟨by rw[size_put];exact V,W.put L i.2,o,(r.mono w.le).put b.dst n Z,z.trans w⟩,F⟩
 have k3:j7 (dh j b.dst (.aJ [])) s-> ∃c a,hP D e u f l c a (d.put b.dst undef) h9/\j7 c a:=λF=>
  ⟨dh j b.dst (.aJ []),s,⟨by rw[size_put];exact V,W.put L i.2,g,r.put b.dst n (aX.undef g),z⟩,F⟩
 unfold T E at H;grind
theorem BM (F: ∀T∈D.2,T.1∈env.pins) {G:Array Oper}{o:Exit->Act->World->Prop}{L:Fr->U->Prop} (P: ∀b c a d,hP D e u f l b c a d->L b c->o .normal a d) (S: ∀a v p k r x,(pk D a/\ ∃b,bO k a b)->Step u f l k r x->aX k v p->up t p r->o (.panic [{v,recovered:=false}]) a x): ∀(y:List Oper) (z:List ca),fx (qF m env e G) y=some z->
  ∀(b:Fr) (c:U) (a:Act) (d:World),hP D e u f l b c a d->jc ⟨m,t⟩ z L b c->wpList m G o y a d
 | [],z,h,b,c,a,d,C,E=>by
  simp only[fx,a6K]at h;subst h;exact P b c a d C E
 |n::y,z,h,b,c,a,d,C,E=>by
  simp only[fx]at h;split at h
  case h_2=>cases h
  rename_i q V W g;obtain rfl:=a6x h;have ih:=BM F P S y V g;have:=BL F W C E o (λv p k r x i=>S a v p k r x ⟨C.2.1,i⟩);simp only[wpList];split
  .rename_i j;rw[if_pos j]at this;grind[Oper.wp_mono]
  grind
def x5 (G: ∀w∈D.2,w.1∈env.pins) {y:Array Oper}{z:Exit->Act->World->Prop}{j:Fr->U->Prop} (C: ∀b d a c,hP D e u f l b d a c->j b d->z .normal a c) (L: ∀a v E o h k,(pk D a/\ ∃b,bO o a b)->Step u f l o h k->aX o v E->up t E h->z (.panic [{v,recovered:=false}]) a k) {P:List ca} (S:fx (qF m env e y) y.toList=some P):
  ∀(p:Nat) (F:Array Bool) (b:Fr) (d:U) (a:Act) (c:World),hP D e u f l b d a c->u4 ⟨m,t⟩ (nth P) y j p F b d->wpAny m .any y z p F a c
 |0,F,b,d,a,c,r,x=>⟨x.1,C b d a c r x.2⟩
 |p+1,F,b,d,a,c,r,x=>by
  refine⟨λA=>C b d a c r (x.1 A),λT n=> ?_⟩;have q:=x.2 T n;obtain⟨_,B,s,_⟩:=mem_ready.1 n;obtain⟨H,I,K⟩:=(BK S).2 T B (by simpa using s);have M:nth P T=H:=by simp[nth,I]
  rw[M]at q;have:=BL G K r q z (λv E o h k N=>L a v E o h k ⟨r.2.1,N⟩);unfold wpOp;simp only[s];split
  .rename_i V;rw[if_pos V]at this;exact .inl (Oper.wp_mono (λO k ⟨W,h,g,i⟩=>x5 G C L S p _ W h O k g i) this)
  .rename_i V;rw[if_neg V]at this;obtain⟨W,h,g,i⟩:=this;exact x5 G C L S p _ W h _ c g i
theorem JM {a:Array Oper}{d:Nat->ca}{h:List dd} (c:x3 a d h=true) (p:can K d j7 h j f):u4 K d a j7 a.size (Array.replicate a.size false) j f:=by
 simp only[x3,a6B,a6P,decide_eq_true_eq,a7O]at c;obtain⟨⟨⟨⟨⟨E,F⟩,G⟩,L⟩,x⟩,y⟩:=c;have r: ∀b k,k∈jd a b->k<b:=λb k P=>by
  grind[wW,Array.getElem?_eq_some_iff]
 refine JF (By r a.size [] 0 rfl (λb z c=>by simp[dep]at c)) r a.size _ h aaV aaU (λb=> ?_) x y (λb o C=> ?_) j f p
 .constructor
  .intro o;obtain⟨z,p,rfl⟩:=a6S.1 o;simp_all
  simp_all
 .simp[o]at C
def pn (L:m.follows .mixedOrders=true) (G: ∀k4∈D.2,k4.1∈env.pins): ∀(r:Code) (x:et),gW m env e r=some x-> ∀(p:gh->Fr->U->Prop) (b:Fr) (c:U) (d:Act) (k:World),hP D e u f l b c d k->c3 ⟨m,t⟩ x p b c->r.wp m (post D t e u f l p) d k
 | .skip,x,a,p,b,c,d,k,h,bZ=>by
  simp only[gW,a6K]at a;subst a;exact wp_skip ⟨b,c,h,bZ⟩
 | .region id ops k5,x,a,p,b,c,d,k,h,bZ=>by
  cases k5 with
  |false=>
   simp only[gW]at a;split at a
   case h_2=>
    split at a
    .obtain rfl:=a6x a;trivial
    .cases a
   rename_i j9 n;obtain rfl:=a6x a;refine wp_region_list ?_;exact BM G (λb c d k h y=>⟨b,c,h,y⟩) (λd v q s z E F P w A=>⟨F.1,v,q,s,z,rfl,P,w,A,F.2⟩) ops.toList j9 n b c d k h bZ
  |true=>
   simp only[gW]at a;split at a
   case h_2=>cases a
   rename_i j9 n;split at a
   case isFalse=>cases a
   rename_i k6;obtain rfl:=a6x a;refine wp_region_any L ?_;obtain⟨k7,k8,k9,l0,k0⟩:=h;exact x5 G (λb c d k h y=>⟨b,c,h,y⟩) (λd v q s z E F P w A=>⟨F.1,v,q,s,z,rfl,P,w,A,F.2⟩) n ops.size _ b c d _ ⟨k7,k8,k9,l0,k0.trans (Step.drew k0.holds)⟩ (JM k6 bZ)
 | .seq c1 c2,x,a,p,b,c,d,k,h,bZ=>by
  simp only[gW]at a;split at a
  case h_2=>cases a
  rename_i B H F P;obtain rfl:=a6x a;refine wp_seq (wp_mono (pn L G c1 B F _ b c d k h bZ) λC S E o=> ?_);cases C with
  |normal=>obtain⟨T,z,V,y⟩:=o;exact pn L G c2 H P p T z S E V y
  |exit id=>exact o
  |ret=>exact o
  |goto k1=>exact o
  |panic I=>exact o
  |outgrown=>exact o
 | .cond r c1 c2,x,a,p,b,c,d,k,h,bZ=>by
  simp only[gW]at a;split at a
  case h_2=>cases a
  rename_i B H F P;split at a
  case isFalse=>cases a
  rename_i l1;obtain rfl:=a6x a;simp only[c3]at bZ;split at bZ
  case h_2=>trivial
  rename_i n4 l2;have k2:=(h.2.2.choose_spec.1).al r l1;rw[l2]at k2;refine wp_cond_split k2.dV (λK=> ?_) (λK=> ?_)
  .exact pn L G c1 B F p b c d k h (bZ.1 K)
  .exact pn L G c2 H P p b c d k h (bZ.2 K)
 | .block id r,x,a,p,b,c,d,k,h,bZ=>by
  simp only[gW]at a;obtain⟨M,N,rfl⟩:=a9i.1 a;refine wp_block (wp_mono (pn L G r M N _ b c d k h bZ) λC S E o=> ?_);cases C with
  |normal=>exact o
  |exit n5=>
   obtain⟨T,z,V,y⟩:=o;simp only[Exit.inBlock];simp only[lo]at y;split
   .rename_i O;rw[if_pos O]at y;exact⟨T,z,V,y⟩
   .rename_i O;rw[if_neg O]at y;exact⟨T,z,V,y⟩
  |ret=>exact o
  |goto k1=>exact o
  |panic I=>exact o
  |outgrown=>exact o
 | .loop r,x,a,p,b,c,d,k,h,bZ=>by
  simp only[gW]at a;obtain⟨M,N,rfl⟩:=a9i.1 a;obtain⟨l3,k3,Q,l4⟩:=bZ;intro X Y Z;have l5: ∀g b c d k,k3 b c=g->l3 b c->hP D e u f l b c d k->
    ∃C S E,post D t e u f l p C S E/\Arrives m (lone (X.at d (.code r:: .inLoop r::Y)) Z k) X Y Z C S E:=by
   intro g
   induction g using Nat.strongRecOn with
   | _ g ih=>
    intro b c d k l6 Q h;obtain⟨C,i,j,o,W⟩:=pn L G r M N _ b c d k h (l4 b c Q) X (.inLoop r::Y) Z;cases C with
    |normal=>obtain⟨T,z,V,l7,l8⟩:=o;obtain⟨l9,n0,n1,n2,n3⟩:=ih (k3 T z) (l6▸l8) T z i j rfl l7 V;exact⟨l9,n0,n1,n2,.of_steps (Steps.trans W (.one step_inLoop)) n3⟩
    |exit id=>exact⟨.exit id,i,j,o,.pass rfl (λ_ _=> .inl aaV) W⟩
    |goto k1=>trivial
    |ret=>exact⟨.ret,i,j,o,.pass rfl (λ_ _=> .inl aaV) W⟩
    |panic I=>exact⟨.panic I,i,j,o,.pass rfl (λ_ _=> .inl aaV) W⟩
    |outgrown=>trivial
  obtain⟨C,S,E,o,W⟩:=l5 _ b c d k rfl Q h;exact⟨C,S,E,o,.of_steps (.one step_loop) W⟩
 | .exit id,x,a,p,b,c,d,k,h,bZ=>by
  simp only[gW,a6K]at a;subst a;exact wp_exit ⟨b,c,h,bZ⟩
 | .ret,x,a,p,b,c,d,k,h,bZ=>by
  simp only[gW,a6K]at a;subst a;exact wp_ret ⟨b,c,h,bZ⟩
 | .refuse n9,x,a,p,b,c,d,k,h,bZ=>by
  simp only[gW,a6K]at a;subst a;trivial
structure ar where
 ntmps:Nat
 nparams:Nat
 code:et
 results:List (Nat×Option (Bool×Nat))
def qG (b:Program):ResultVar->Option (Nat×Option (Bool×Nat))
 | .tmp a=>some (a,none)
 | .cell d a=>match b.underlying a,jH b a with
  |some c,some e=>if c.isRow=true\/e=1 then some (d,some (c.isRow,e))else none
  | _,_=>none
def Env.all (a:Env) (c:Nat) (b:Nat):Env:=
 match c with
 |1=> {a with tX:=List.range b}
 |2=> {a with ty:=true}
 |5=> {a with Bb:=true}
 |6=> {a with tX:=List.range b,wI:=true}
 | _=>a
def du (a:Program) (c:Nat) (d:FuncId):Option ar:=
 match a.funcs[d]? with
 |some fn=>match fn.body with
  |some b=>match gW a ((JK a b).all c fn.ntmps) fn.ntmps b,fx (qG a) fn.results.toList with
   |some h,some rs=>if fn.params.size<=fn.ntmps then some ⟨fn.ntmps,fn.params.size,h,rs⟩else none
   | _,_=>none
  |none=>none
 |none=>none
def gi (b:Fr) (c:U):Nat×Option (Bool×Nat)->Option R
 |(a,none)=>some (b a)
 |(a,some (agg,e))=>match b a with
  | .ptr d off=>match c.read d with
   |some cs=>if off+e<=cs.length then some (aL agg e (cs.drop off))else none
   |none=>none
  | _=>none
def je (a:Fr) (b:U) (c:List (Nat×Option (Bool×Nat))):Option R:=
 match fx (gi a b) c with
 |some [d]=>some d
 |some h=>some (.aJ h)
 |none=>none
def qH (d:ar) (h:R->U->Prop):gh->Fr->U->Prop
 | .exit _,_,_=>False
 | _,k,a=> ∃b c,je k a d.results=some b/\c.sub a/\h b c
def mf (a:List R):Fr:=λb=>a.getD b (.aJ [])
def s9 (b:Array Value):ResultVar->Sem Value
 | .tmp a=>pure (b.getD a undef)
 | .cell c a=>do loadVar a (<-asAddr (b.getD c undef))
theorem JN {o:Act}{p:ResultVar}{k:Nat×Option (Bool×Nat)} (z:aX u (o.tmps.getD k.1 undef) (j k.1)) (P:Holds u f l) (d:qG m p=some k) (b:gi j f k=some n):
  ∃v,(s9 o.tmps p).run m l= .ok v l/\aX u v n:=by
 cases p with
 |tmp r=>simp only[qG,a6K]at d;subst d;simp only[gi,a6K]at b;subst b;exact⟨_,rfl,z⟩
 |cell C r=>
  simp only[qG]at d;split at d
  case h_2=>cases d
  rename_i x e E S;split at d
  case isFalse=>cases d
  rename_i V;obtain rfl:=a6x d;simp only[gi]at b;split at b
  case h_2=>cases b
  rename_i h a W;split at b
  case h_2=>cases b
  rename_i I g;split at b
  case isFalse=>cases b
  rename_i i;obtain rfl:=a6x b;have F:aX u (o.tmps.getD C undef) (j C):=z;rw[W]at F;have q:=F.lj;obtain⟨s,c,T,K,t,G⟩:=P.read g;have M:=G.1;cases y:x.isRow with
  |true=>
   have w:l.rangeAt h a ((c.toList.drop a).take e):=by intro N v O;grind[cell_of_row]
   have A:((c.toList.drop a).take e).length=e:=aaW;have L:=run_loadVar_mid l h a r ((c.toList.drop a).take e) x w E y (by rw[A];exact S);refine⟨.agg ((c.toList.drop a).take e).toArray,by simp only[s9,Sem.run_bind,q,asAddr,Sem.run_pure,Result.andThen_ok,L],?_⟩;rw[show((c.toList.drop a).take e).toArray=c.extract a (a+e) by grind];exact aX.aL G s a e i
  |false=>
   obtain rfl:=tZ V y;have B:a<c.size:=aaU;have H:l.cell? ⟨h,a,none⟩=some (c.getD a undef):=by rw[cell_of_row l h a c T _ t];simp[B]
   have L:=wv l r x ⟨h,a,none⟩ _ E y H;grind[undef,s9,Sem.run_bind,asAddr,Sem.run_pure,Result.andThen_ok,aX.wu]
theorem BN {p:bl}{E:Fr}{F:U}{G:Act}{r:World} (L:Holds p F r): ∀(k:List ResultVar) (c:List (Nat×Option (Bool×Nat))) (d:List R),(∀o∈c,aX p (G.tmps.getD o.1 undef) (E o.1))->fx (qG m) k=some c->fx (gi E F) c=some d->
  ∃h:List Value,(k.mapM (s9 G.tmps)).run m r= .ok h r/\h.length=d.length/\ ∀(x:Nat) (y:Value) (z:R),h[x]? =some y->d[x]? =some z->aX p y z
 | [],c,d,C,a,b=>by
  simp only[fx,a6K]at a;subst a;simp only[fx,a6K]at b;simp_all
 |j::k,c,d,C,a,b=>by
  simp only[fx]at a;split at a
  case h_2=>cases a
  rename_i o P S T;obtain rfl:=a6x a;simp only[fx]at b;split at b
  case h_2=>cases b
  rename_i l V W e;obtain rfl:=a6x b;obtain⟨v,n,q⟩:=JN (C o aaV) L S W;obtain⟨h,s,f,t⟩:=BN L k P V (λg i=>C g (by simp[i])) T e;refine⟨v::h,?_,by simp[f],λx y z u w=> ?_⟩;simp_all;grind
theorem JO {k:Act}{c:Func}{o:List (Nat×Option (Bool×Nat))} (L: ∀F∈o,aX u (k.tmps.getD F.1 undef) (j F.1)) (P:Holds u f l) (S:fx (qG m) c.results.toList=some o) (p:je j f o=some n):
  ∃v,(results c k.tmps).run m l= .ok v l/\aX u v n:=by
 unfold je at p;have G: ∀d,fx (gi j f) o=some d-> ∃a:Array Value,(results c k.tmps).run m l= .ok (if T:a.size=1 then a[0]else .tuple a) l/\a.toList.length=d.length/\ ∀(x) (y) (z),a.toList[x]? =some y->d[x]? =some z->aX u y z:=λd r=>by
  obtain⟨a,b,C,h⟩:=BN P c.results.toList o d L S r;refine⟨a.toArray,?_,by trivial,λx y z e V=>h x y z (by trivial) V⟩;have W:results c k.tmps=(do let a <-c.results.mapM (s9 k.tmps);pure (if T:a.size=1 then a[0]else .tuple a)):=rfl;rw[W,Sem.run_bind,Array.mapM_eq_mapM_toList,Sem.run_map];rw[b];rfl
 split at p
 .rename_i g r;obtain rfl:=a6x p;obtain⟨a,b,C,h⟩:=G _ r;have E:a.size=1:=by trivial
  rw[dif_pos E]at b;refine⟨_,b,h 0 _ _ ?_ rfl⟩;simp
 .rename_i d i r;obtain rfl:=a6x p;obtain⟨a,b,C,h⟩:=G _ r;have E:a.size≠1:=by grind[List.length_eq_one_iff]
  rw[dif_neg E]at b;exact⟨_,b,.aJ _ _ (bw.dU.2 ⟨C,h⟩).1 (bw.dU.2 ⟨C,h⟩).2⟩
 .cases p
theorem JP (A:m.follows .mixedOrders=true) {C:ar} (b:du m e b5=some C) (B:g.length<=C.ntmps) (q:c3 ⟨m,Z⟩ C.code (qH C t) (mf g) f):hM m b5 g f t (up Z):=by
 intro h r o s H;unfold du at b;split at b
 case h_2=>cases b
 rename_i p I;split at b
 case h_2=>cases b
 rename_i K M;split at b
 case h_2=>cases b
 rename_i N O Q X;split at b
 case isFalse=>cases b
 rename_i k4;obtain rfl:=a6x b;simp only at B q;refine calls_of_wp I M ?_;have u:=s.1;have Y:hP ([],[]) p.ntmps o f r (mf g) f {tmps:=h++Array.replicate (p.ntmps - h.size) undef,defers:= []} r:=by
  refine⟨aaW,⟨rfl,λS T=>by simp at T⟩,o,λc=> ?_,.refl H⟩;by_cases E:c<g.length
  .have V:mf g c=g[c]:=by simp[mf,E]
   rw[V];have:=s.2 c g[c] (a6y E);have W:(h++Array.replicate (p.ntmps - h.size) undef).getD c undef=h.getD c undef:=by simp[aay,u,E]
   rw[W];exact this
  .have V:mf g c= .aJ []:=by simp[mf,E]
   rw[V];have W:(h++Array.replicate (p.ntmps - h.size) undef).getD c undef=undef:=by simp only[a7w,aay,u];grind
   rw[W];exact aX.undef o
 refine wp_mono (pn A (λS T=>by simp at T) K N Q _ _ _ _ _ Y q) λj9 i x F=> ?_;have w:(∃G y,hP ([],[]) p.ntmps o f r G y i x/\ ∃a L,je G y O=some a/\L.sub y/\t a L)->
   i.defers= []/\ ∃v,(results p i.tmps).run m x= .ok v x/\((∃z a d k,Ending.returned v= .returned z/\Step o f r d k x/\aX d z a/\t a k)\/(∃z a d k,Ending.returned v= .panicked [{v:=z,recovered:=false}]/\Step o f r d k x/\aX d z a/\up Z a k)):=by
  rintro⟨G,y,⟨_,j,d,k0,P⟩,a,L,k1,k2,l⟩;obtain⟨v,k3,n⟩:=JO (λS _=>k0 S.1) P.holds X k1;exact⟨j.1,v,k3,.inl ⟨v,a,d,L,rfl,P.drop k2,n,l⟩⟩
 cases j9 with
 |normal=>exact w F
 |ret=>exact w F
 |exit id=>obtain⟨G,y,_,k5⟩:=F;trivial
 |goto k6=>trivial
 |panic k7=>obtain⟨j,v,a,d,k,rfl,P,n,l,_⟩:=F;exact⟨j.1,.inr ⟨v,a,d,k,rfl,P,n,l⟩⟩
 |outgrown=>trivial
def JQ (b:m.follows .mixedOrders=true) {a:ar} (c:du m e b5=some a) (d:g.length<=a.ntmps) (h:c3 (Ctx.of m) a.code (qH a t) (mf g) f):AC m b5 g f t:=
 (JP b c d h).HU
end
abbrev aG (a:Nat):Operand:= .tmp a
abbrev mg (a:Int):Operand:= .const (.int .i64 a)
abbrev qI:Operand:= .const (.bool false)
abbrev JR:Operand:= .const (.slice none 0 0)
abbrev bH (a:Nat) (b:cc):ca:=⟨some a,b,none⟩
abbrev on (a:cc):ca:=⟨none,a,none⟩
abbrev eZ (a:Nat) (b:Bool) (c:Nat) (d:cc):ca:=⟨some c,d,some (a,b)⟩
abbrev aA (a b:Nat):ca:=⟨some a,.eY (.tmp b),none⟩
abbrev cD (a:Nat) (b:BinOp) (c d:Nat):ca:=⟨some a,.bin b (.tmp c) (.tmp d),none⟩
abbrev fy (a:Nat) (b:BinOp) (c:Nat) (d:Int):ca:=⟨some a,.bin b (.tmp c) (.const (.int .i64 d)),none⟩
abbrev po (a b:Nat):ca:=⟨some a,.len (.tmp b),none⟩
abbrev bg (a:Nat):dd:=⟨a,[],[]⟩
end Go.bD
