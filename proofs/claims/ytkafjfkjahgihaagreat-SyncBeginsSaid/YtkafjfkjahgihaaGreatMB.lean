import Derived.Test.YtkafjfkjahgihaaGreatMA
import Derived.Lib.Overlaps
import Derived.Laws.Externs
import Derived.KernelRfl
set_option linter.all false
open Option renaming some->β,none->ε
open List renaming replicate->δ,range->χ,take_of_length_le->Γ,getElem?_eq_some_iff->Ε,length->α
open Bool renaming true->ζ,false->θ
open Go.bD.U renaming aj->μ,an->ξ
namespace Go.bD
open Go
variable{n b6:R}{q Y:R -> U -> Prop}{j:Fr}{f s e5:U}{g B e1:Ψ}{e i v O e0 j6:Nat}{u:bk}{m:Program}{e6:Value}{l j3:World}
section
variable{o:Oper}{a:Act}
def JU(x:TypeId)(b:Operand)(y:o.op=.call {callee:=.builtin .cap,args:=#[b],argTypes:=#[x]})(F:TypeId)(z:m.underlying x=β (.slice F))(L:aM b=ζ)(P:bK u a j)(C:Holds u f l)(h:G ⟨m,q⟩ (.np b) j f Y):bN m q o a l u f Y:=by
 have c:=P.ak b L;simp only[G]at h;generalize D:a.eval b=W at c;split at h
 case h_2=>trivial
 rename_i e d;unfold sr at d;split at d
 .rename_i S T k E p;rw[p]at c;obtain rfl:=Β d;cases c with
  |aq S T k E hk V=>exact .same C (by simp[execOp,y,resolve,invoke,builtin,D,Builtin.cap_,run_underlying z,goInt]) (.v _ rfl) h
 .rename_i p;rw[p]at c;obtain rfl:=Β d;cases c with
  |dn g k dy c3 r=>simp only[Own.me]at r;subst r;have:=c3 rfl;subst this;exact .same C (by simp[execOp,y,resolve,invoke,builtin,D,Builtin.cap_,run_underlying z,goInt]) (.v _ rfl) h
  |J i off len k E n xs dy hk hlen V s t hH v r=>trivial
 .cases d
theorem JV(z p:Nat)(x r d:Option Operand)(h b c:Int)(C:(x=ε/\h=0)\/∃k,valOf a x=β (.int k h))(D:(r=ε/\b=z)\/∃k,valOf a r=β (.int k b))(L:(d=ε/\c=p)\/∃k,valOf a d=β (.int k c))
  (P:d=ε\/r.isSome=ζ) (S:0<=h) (T:h<=b) (j:b<=c) (l:c<=p) (E:World):(Instr.sliceBounds ζ z p (valOf a x) (valOf a r) (valOf a d)).run m E=.ok (h.toNat,b.toNat,c.toNat) E:=by
 have n:(b.toNat)=b:=a9Q acq;have q:(c.toNat)=c:=a9Q acq;have V:0<=b:=acq;have s:0<=c:=acq;have W:b<=(p):=acq;have y:valOf a ε=none:=rfl;rcases L with⟨rfl,rfl⟩|⟨t,hm⟩
 .rcases C with⟨rfl,rfl⟩|⟨e,F⟩<;>rcases D with⟨rfl,rfl⟩|⟨f,G⟩
  .rfl
  .simp only[Instr.sliceBounds,y,G];simp[run_sliceBound,W,V]
  .simp only[Instr.sliceBounds,y,F];simp[run_sliceBound,S,T]
  simp_all [Instr.sliceBounds,run_sliceBound]
 .have g:d≠none:=by rintro rfl;rw[y]at hm;cases hm
  have i:=P.resolve_left g;rcases D with⟨rfl,rfl⟩|⟨f,G⟩
  .simp at i
  rcases C with⟨rfl,rfl⟩|⟨e,F⟩;simp_all [Instr.sliceBounds,run_sliceBound];simp_all [Instr.sliceBounds,run_sliceBound]
def JW(k7:TypeId)(V:Operand)(z D E:Option Operand)(k9:o.op=.slice k7 V z D E)(l0:E=ε\/D.isSome=ζ)(Z:TypeId)(l1:m.underlying k7=β (.slice Z))(W:Nat)(H:(m.info? Z).map (·.size)=β W)(l2:aM V=ζ)(I:z.all aM=ζ)(K:D.all aM=ζ)(M:E.all aM=ζ)
  (p:bK u a j) (N:Holds u f l) (e:G ⟨m,q⟩ (.ml W V z D E) j f Y):bN m q o a l u f Y:=by
 have r:=p.ak V l2;have O:∀(g)(len k:Nat)(c h d:Int),((z=ε/\c=0)\/∃n,valOf a z=β (.int n c))->((D=ε/\h=len)\/∃n,valOf a D=β (.int n h))->((E=ε/\d=k)\/∃n,valOf a E=β (.int n d))->0<=c->c<=h->h<=d->d<=k->
   a.eval V=.slice g len k->(execOp a.eval o).run m l=.ok (.value (sliced g c.toNat h.toNat d.toNat W)) l:=by
  intro g len k c h d s F L t v w x i;have k8:=JV (m:=m) len k z D E c h d s F L l0 t v w x l;simp only[valOf]at k8;cases k3:m.info? Z with
  |none=>simp[k3]at H
  |some ii=>
   have l3:ii.size=W:=by simpa[k3] using H
   simp[execOp,k9,i,Instr.sliceAt,Instr.slice,run_underlying l1,k8,sizeOf,typeInfo,k3,l3,sliced]
 simp only[G]at e;generalize i:a.eval V=n1 at r;split at e
 case h_2=>trivial
 rename_i C b;unfold ss at b;split at b
 .rename_i A len k Q P;rw[P]at r;split at b
  case h_2=>cases b
  rename_i c h d y S hm;split at b
  case isFalse=>cases b
  rename_i x;obtain⟨rfl,t,v,w,k4⟩:=x;obtain rfl:=Β b;have s:=gg p I y;have F:=gg p K S;have L:=gg p M hm;cases r with
  |aq A l4 k Q X k5=>
   have C:=O _ len k c h d (by trivial) F L t v w k4 i;refine .same N C ?_ e;cases z with
   |none=>
    simp only[dd,a8t]at y;subst y;simp only[aa5,a9m,if_false];have:sliced (β ⟨A,0,ε⟩) ((0:Nat):Int).toNat h.toNat d.toNat Q=.slice (β ⟨A,0,ε⟩) h.toNat d.toNat:=by unfold sliced;simp[Addr.add]
    rw[this];exact .aq _ _ _ _ X acq
   |some z=>
    simp only[aau,if_true];by_cases B:c<d
    .rw[if_pos B];unfold sliced;rw[if_neg acq,a9q,hr,a8J];exact .bE _ _ _ _ _ X acq
    .rw[if_neg B];unfold sliced;have:h.toNat - c.toNat=0:=acq;rw[this];exact .dn _ _ _ (λl5=>by omega) (show d.toNat - c.toNat=0 by omega)
 .rename_i A k6 len k Q P;rw[P]at r;split at b
  case h_2=>cases b
  rename_i c h d y S hm;split at b
  case isFalse=>cases b
  rename_i x;obtain⟨rfl,t,v,w,k4⟩:=x;obtain rfl:=Β b;have s:=gg p I y;have F:=gg p K S;have L:=gg p M hm;cases r with
  |bE A k6 l4 k Q X k5=>
   have C:=O _ len k c h d (by trivial) F L t v w k4 i;refine .same N C ?_ e;by_cases B:c<d
   .rw[if_pos B];unfold sliced;rw[if_neg acq,a9q,hr];exact .bE _ _ _ _ _ X acq
   .rw[if_neg B];unfold sliced;have:h.toNat - c.toNat=0:=acq;rw[this];exact .dn _ _ _ (λl5=>by omega) (show d.toNat - c.toNat=0 by omega)
 .rename_i P;rw[P]at r;split at b
  case h_2=>cases b
  rename_i c h d y S hm;split at b
  case isFalse=>cases b
  rename_i x;obtain⟨rfl,rfl,rfl⟩:=x;obtain rfl:=Β b;have s:=gg p I y;have F:=gg p K S;have L:=gg p M hm;cases r with
  |dn g k dy c3 T=>simp only[Own.me]at T;subst T;have:=c3 rfl;subst this;have C:=O ε 0 0 0 0 0 (by trivial) (by trivial) (by trivial) acq acq acq acq i;exact .same N C (.dn _ _ .nil (λ_=>rfl) rfl) e
  |J l6 k6 len k W l7 xs dy H hlen k5 l8 l9 hH n0 T=>trivial
 .rename_i P;rw[P]at r;split at b
  case h_2=>cases b
  rename_i c h d y S hm;split at b
  case isFalse=>cases b
  rename_i x;obtain⟨rfl,rfl,rfl⟩:=x;obtain rfl:=Β b;have s:=gg p I y;have F:=gg p K S;have L:=gg p M hm;cases r with
  |dn g k dy c3 T=>simp only[Own.me]at T;subst T;have C:=O g 0 0 0 0 0 (by trivial) (by trivial) (by trivial) acq acq acq acq i;refine .same N C ?_ e;unfold sliced;exact .dn _ _ .zero (λ_=>rfl) rfl
  |J l6 k6 len k W l7 xs dy H hlen k5 l8 l9 hH n0 T=>trivial
 .cases b
theorem xl{b:Array Value}(k:b.size=e)(F:∀c∈b.toList,c.oneCell'=ζ)(C:0<e)(d:Nat):bw u (Builtin.zeroCells b d) (δ d (b.toList.map cV)).flatten/\(∀r∈(δ d (b.toList.map cV)).flatten,r.one=ζ):=by
 have x:(b.toList.map cV).length=e:=by simp[k]
 refine⟨bw.ed.2 ⟨by simp[size_zeroCells],λy c G h D=>?_⟩,λr p=>?_⟩
 .have z:y<d*e:=by grind[Ε,ly]
  rw[xi _ _ _ (by rw[x];exact z),x,a8H]at D;rw[a9S]at h;have L:y%e<b.size:=by rw[k];exact aa7 _ C
  simp only[Builtin.zeroCells,k]at h;rw[Array.getElem?_map]at h;simp only[ac7,z,if_true,a9q,a8t]at h;grind[Array.getElem?_eq_getElem,Option.some.injEq,bb.cV]
 .obtain⟨P,E,p⟩:=abD.1 p;obtain rfl:=(List.mem_replicate.1 E).2;obtain⟨c,_,rfl⟩:=a8D.1 p;exact oz c
theorem JX(P:TypeId)(h:Operand)(C:o.op=.call {callee:=.builtin .clear,args:=#[h],argTypes:=#[P]})(S:TypeId)(D:m.underlying P=β (.slice S))(p:TypeInfo)(w:m.info? S=β p)(c:Value)(A:p.zero=β c)(V:c.cells.size=p.size)(W:∀h∈c.cells.toList,h.oneCell'=ζ)(e:0<p.size)
  (B:aM h=ζ) (H:bK u a j) (g:Holds u f l) (z:G ⟨m,q⟩ (.nq p.size (c.cells.toList.map cV) h) j f Y):bN m q o a l u f Y:=by
 have r:=H.ak h B;simp only[G]at z;generalize E:a.eval h=k8 at r;split at z
 case h_2=>trivial
 rename_i k9 d;unfold lv at d;split at d
 .rename_i x k b F I L;rw[L]at r;split at d
  case h_2=>cases d
  rename_i l0 K;split at d
  case isFalse=>cases d
  rename_i M;obtain⟨rfl,N⟩:=M;obtain rfl:=Β d;obtain⟨i,n⟩:=xl (u:=u) V W e b;have s:(δ b (c.cells.toList.map cV)).flatten.length=b*p.size:=by rw[ly];simp[V]
  obtain⟨y,T,t,l1,O⟩:=Step.store g K k _ _ i n (by rw[s];exact N);refine .value (v:=.tuple #[]) ?_ O (.undef _) z;have v:=run_storeCells_at m x k T (Builtin.zeroCells c.cells b).toList 0 y l t (by have:=i.1;simp only[abp];omega) (BJ W b);simp only[aab]at v;have Q:(storeCells ⟨x,k,ε⟩ (Builtin.zeroCells c.cells b).toList).run m l=.ok () (l.setRow x (dh y k (Builtin.zeroCells c.cells b).toList)):=by rw[v];rfl
  cases r with
  |bE x k b F I l2 X=>
   cases b with
   |zero=>
    have Z:(Builtin.zeroCells c.cells 0).toList=[]:=a8q (by simp[size_zeroCells]);have k3:dh y k []=y:=by simp[dh]
    rw[Z,k3];have k4:=setRow_self l x y T (0,0) t;simp[execOp,C,resolve,invoke,builtin,E,Builtin.clear_,run_underlying D,k4]
   |succ b=>simp[execOp,C,resolve,invoke,builtin,E,Builtin.clear_,run_underlying D,zeroValue,w,A,typeInfo,Q]
 .rename_i l3 L;rw[L]at r;obtain rfl:=Β d;have k5:(execOp a.eval o).run m l=.ok (.value (.tuple #[])) l:=by
   cases r with
   |dn k6 F dy c3 k7=>cases k6<;>simp[execOp,C,resolve,invoke,builtin,E,Builtin.clear_,run_underlying D]
   |J l4 k len F l5 l6 xs dy e s X l7 n hH l8 k7=>simp_all [execOp,resolve,invoke,builtin,Builtin.clear_,run_underlying]
  exact .same g k5 (.undef _) z
 .cases d
theorem JY(G:bb u e6 n)(K:Holds u f l)(c:bT f e n=β (i,g))(y:Program)(b:Nat)(x:b<=i):
  ∃z:List Value,(Builtin.firstCells e b e6).run y l=.ok z.toArray l/\bw u z.toArray (g.take (b*e))/\(g.take (b*e)).length=b*e:=by
 have L:∀(P)(S)(T),bb u P S->bT f e S=β (b,T)->T=g.take (b*e)->(Builtin.firstCells e b P).run y l=(Builtin.firstCells e b e6).run y l->
   ∃z:List Value,(Builtin.firstCells e b e6).run y l=.ok z.toArray l/\bw u z.toArray (g.take (b*e))/\(g.take (b*e)).length=b*e:=by
  intro P S T M V t N;obtain⟨O,v,Q,k8,_⟩:=xh M K V y;refine⟨O,by rw[<-N];exact v.cells,?_,by rw[<-t,<-Q];exact v.size⟩;rw[<-t];refine bw.ed.2 ⟨by trivial,λC k9 W l0 l1=>?_⟩;grind
 have l2:=c;unfold bT at c;split at c
 .rename_i p w;split at c
  case isFalse=>cases c
  rename_i l3;simp only[a8t,a9u]at c;obtain⟨rfl,rfl⟩:=c;have l4:∀D∈p,α D.cells=e:=by simp_all
  cases G with
  |dn X d w c3 Y=>simp only[a8s,Nat.le_zero]at x;subst x;exact⟨[],by cases X<;>simp[Builtin.firstCells,loadCells,loadCellsFrom],⟨acr,λC W c=>by simp at c⟩,acr⟩
  |J A r len d j Z p w hk hlen B H l5 hH l6 Y=>
   subst hlen;have k3:∀D∈p.take b,α D.cells=j:=λD k4=>H D (a8v k4);have k5:=((ga b H).2).symm;by_cases I:p=[]
   .subst I;simp only[a8s,Nat.le_zero]at x;subst x;exact⟨[],by simp[Builtin.firstCells,loadCells,loadCellsFrom],⟨acr,λC W c=>by simp at c⟩,acr⟩
   obtain rfl:j=e:=by
    match p,I with
    |l7::l8,_=>simp_all
   refine L (.slice (β ⟨A,r,ε⟩) b d) (.J (p.take b) .any) (flat (p.take b)) (.J A r b d j Z (p.take b) .any hk acs acq k3 (λl9 F=>?_) (λC k6=>hH C (a9y k6 (a8x _ x))) (λC W n0=>?_) trivial) ?_ k5 rfl;grind;grind
   .unfold bT;simp_all
 .rename_i k E d h;split at c
  case h_2=>cases c
  rename_i m q;split at c
  case isFalse=>cases c
  rename_i F;simp only[a8t,a9u]at c;obtain⟨rfl,rfl⟩:=c;obtain⟨rfl,k7⟩:=F;have V:b*h<=E*h:=a8x _ x;cases G with
  |aq k E d h s B=>refine L (.slice (β ⟨k,0,ε⟩) b d) (.aq k b d h) (m.take (b*h)) (.aq k b d h s acq) ?_ (by grind) rfl;simp only[bT,q];grind
 .rename_i k r E d h;split at c
  case h_2=>cases c
  rename_i m q;split at c
  case isFalse=>cases c
  rename_i F;simp only[a8t,a9u]at c;obtain⟨rfl,rfl⟩:=c;obtain⟨rfl,k7⟩:=F;have V:b*h<=E*h:=a8x _ x;cases G with
  |bE k r E d h s B=>refine L (.slice (β ⟨k,r,ε⟩) b d) (.bE k r b d h) ((m.drop r).take (b*h)) (.bE k r b d h s acq) ?_ (by grind) rfl;simp only[bT,q];grind
 .cases c
theorem JZ(M k7:TypeId)(D E:Operand)(i:o.op=.call {callee:=.builtin .copy,args:=#[D,E],argTypes:=#[M,k7]})(n:TypeId)(s:m.underlying M=β (.slice n))(d:Nat)(k8:(m.info? n).map (·.size)=β d)
  (k9:aM D=ζ) (l0:aM E=ζ) (N:bK u a j) (V:Holds u f l) (t:G ⟨m,q⟩ (.nr d D E) j f Y):bN m q o a l u f Y:=by
 have y:=N.ak D k9;have O:=N.ak E l0;simp only[G]at t;generalize W:a.eval D=l1 at y;split at t
 case h_2=>trivial
 rename_i n3 n4 c;unfold mm at c;split at c
 case h_2=>cases c
 rename_i p z Q;obtain⟨n5,e,n9,a00,l2⟩:=xh O V Q m;have a01:=e.size;have a02:α z=p*d:=acq;have X:∀b,∃r:Array Value,(Builtin.firstCells d (min p b) (a.eval E)).run m l=.ok r l/\bw u r (z.take (b*d))/\(z.take (b*d)).length=min p b*d:=by intro b;obtain⟨r,a03,a04,a05⟩:=JY O V Q m (min p b) acq;grind[min,Nat.mul_le_mul_right,Nat.min_eq_left,Γ,Nat.min_eq_right]
 have l3:∃v,m.info? n=β v/\v.size=d:=by simp_all
 obtain⟨v,w,A⟩:=l3;have a06:∀(h k b x)(C),l1=.slice (β ⟨h,k,ε⟩) b x->f h=β (.cells C)->k+b*d<=α C->
   Y (.v (.int .i64 (min p b:Nat))) (f.set h (.cells (putAt C k (z.take (b*d)))))->bN m q o a l u f Y:=by
  intro h k b x C l4 B Z l5;obtain⟨r,F,L,g⟩:=X b;have H:∀I∈z.take (b*d),I.one=true:=λI P=>l2 I (a8v P);have a07:min p b*d<=b*d:=a8x _ acq;obtain⟨k3,T,l6,a08,l7⟩:=Step.store V B k (z.take (b*d)) r L H acq;refine .value ?_ l7 (.v _ rfl) l5;have k4:=run_storeCells_at m h k T r.toList 0 k3 l l6 (by have:=L.1;simp;omega) (L.ov H);simp only[aab]at k4;have l8:(storeCells ⟨h,k,ε⟩ r.toList).run m l=.ok () (l.setRow h (dh k3 k r.toList)):=by rw[k4];rfl
  have k5:Nat.min p b=min p b:=rfl;rw[l4]at W;simp[execOp,i,resolve,invoke,builtin,W,Builtin.copy_,run_underlying s,e.len,sizeOf,typeInfo,w,A,F,l8,goInt]
 split at c
 .rename_i h k b x K S;rw[S]at y;split at c
  case h_2=>cases c
  rename_i C B;split at c
  case isFalse=>cases c
  rename_i P;obtain⟨rfl,Z⟩:=P;simp only[a8t,a9u]at c;obtain⟨rfl,rfl⟩:=c;cases y with
  |bE h k b x K l9 k6=>grind
 .rename_i h b x K S;rw[S]at y;split at c
  case h_2=>cases c
  rename_i C B;split at c
  case isFalse=>cases c
  rename_i P;obtain⟨rfl,Z⟩:=P;simp only[a8t,a9u]at c;obtain⟨rfl,rfl⟩:=c;cases y with
  |aq h b x K l9 k6=>simp_all
 .rename_i a09 S;rw[S]at y;simp only[a8t,a9u]at c;obtain⟨rfl,rfl⟩:=c;have c:(execOp a.eval o).run m l=.ok (.value (.int .i64 0)) l:=by
   obtain⟨r,F,L,g⟩:=X 0;have k5:Nat.min p 0=0:=Nat.min_zero p;rw[Nat.min_zero]at F;have n0:=abm (by have:=L.1;simp at this;simpa using this);subst n0;cases y with
   |dn n1 x dy c3 n2=>cases n1<;>simp[execOp,i,resolve,invoke,builtin,W,Builtin.copy_,run_underlying s,e.len,sizeOf,typeInfo,w,A,k5,F,goInt,storeCells]
   |J a10 k len x d a11 xs dy k8 g k6 a13 H hH a14 n2=>simp at g;subst g;simp[execOp,i,resolve,invoke,builtin,W,Builtin.copy_,run_underlying s,e.len,sizeOf,typeInfo,w,A,F,goInt,storeCells]
  exact .same V c (.v _ rfl) t
 .cases c
def K0(p:FuncId)(c:Func)(d h k:Operand)(T:Array TypeId)(V:o.op=.call {callee:=.value (.func p),args:=#[d,h,k],argTypes:=T})(W:m.funcs[p]?=β c) (e:(c.name== "runtime.NumGoroutine")=θ) (g:c.body.isNone=ζ) (i:Extern.findNext c=ε)
  (n:Extern.find c=β add64Entry) (s:aM d=ζ) (t:aM h=ζ) (v:aM k=ζ) (z:bK u a j) (w:Holds u f l) (C:G ⟨m,q⟩ (.qY d h k) j f Y):bN m q o a l u f Y:=by
 have D:=z.ak d s;have E:=z.ak h t;have F:=z.ak k v;simp only[G]at C;generalize A:a.eval d=k4 at D;generalize B:a.eval h=k5 at E;generalize H:a.eval k=k6 at F;split at C
 case h_2=>trivial
 rename_i k7 b;unfold x8 at b;split at b
 case h_2=>cases b
 rename_i r x y I K M;split at b
 case isFalse=>cases b
 rename_i N;obtain⟨O,Q,X,Z⟩:=N;obtain rfl:=Β b;rw[I]at D;rw[K]at E;rw[M]at F;cases D;cases E;cases F;have L:=run_callFunc_extern W e g i n #[.int .u64 r,.int .u64 x,.int .u64 y] l;rw[run_add64 r x y O Q X Z]at L;simp only[Result.andThen_ok]at L;have k3:a.eval (.func p)=.func (.func p) #[] #[]:=rfl;refine .same w (v:=.tuple #[.int .u64 ((r+x+y)%18446744073709551616),.int .u64 ((r+x+y)/18446744073709551616)]) ?_ (.aJ _ _ rfl (λS k8 P=>?_)) C
 .simp[execOp,V,resolve,k3,Deferred.ofValue,invoke,A,B,H,L]
 .match S with
  |0=>obtain rfl:=Β P;exact .v _ rfl
  |1=>obtain rfl:=Β P;exact .v _ rfl
  |S+2=>simp at P
theorem K1(y:FuncId)(h:Func)(k p:Operand)(M:Array TypeId)(N:o.op=.call {callee:=.value (.func y),args:=#[k,p],argTypes:=M})(O:m.funcs[y]?=β h) (Q:(h.name== "runtime.NumGoroutine")=θ) (X:h.body.isNone=ζ) (Z:Extern.findNext h=ε)
  (c:TypeId) (C:Array TypeId) (k3:Extern.find h=β (Extern.SlicesOverlaps.overlaps #[c,c] C)) (r:TypeId) (k4:m.underlying c=β (.slice r)) (D:Nat) (k5:(m.info? r).map (·.size)=β D)
  (k6:aM k=ζ) (k7:aM p=ζ) (w:bK u a j) (A:Holds u f l) (E:G ⟨m,q⟩ (.nt k p) j f Y):bN m q o a l u f Y:=by
 have B:=w.ak k k6;have H:=w.ak p k7;simp only[G]at E;generalize k8:a.eval k=a04 at B;generalize k9:a.eval p=a05 at H;split at E
 case h_2=>trivial
 rename_i a06 d;unfold lx at d;split at d
 case h_2=>cases d
 rename_i F L l0 l1;split at d
 case isFalse=>cases d
 rename_i l2;obtain⟨l3,l4,l5⟩:=l2;obtain rfl:=Β d;have I:∀(P:R)(S:Value)(b:Nat),cN P=β b->bb u S P->∃l6 l7 l8,S=.slice (β ⟨b,l6,ε⟩) l7 l8:=by
  intro P S b x V;cases V<;>simp only[cN,a8t,reduceCtorEq]at x
  .subst x;simp
  .subst x;simp
 have K:∀b,kD f b=ζ->∃z T,l.heap[b]?=β (.cells z T (0,0))/\z.size≠0:=by
  intro b W;unfold kD at W;split at W
  .rename_i a07 a08 l9;obtain⟨_,z,T,x,V,_⟩:=A.cx b _ l9;exact⟨z,T,x,by rw[V.1];simp⟩
  .cases W
 obtain⟨e,g,i,rfl⟩:=I _ _ _ l0 B;obtain⟨n,s,c2,rfl⟩:=I _ _ _ l1 H;obtain⟨n0,n1,t,a09⟩:=K _ l4;obtain⟨n2,n3,n4,n5⟩:=K _ l5;have n9:∀l,(Go.sizeOf r).run m l=.ok D l:=by
  intro l;cases a00:m.info? r with
  |none=>simp[a00]at k5
  |some ii=>simp_all [sizeOf,typeInfo]
 have a01:=Lib.run_overlaps_apart l c (C.getD 0 0) r k4 D n9 ⟨F,e,ε⟩ ⟨L,n,ε⟩ g i s c2 l3 n1 n3 n0.size n2.size (by simp[World.shape?,t]) (by simp[World.shape?,n4]) n5 (by simp[World.frozen?,t]) (by simp[World.frozen?,t]);have a02:(Extern.SlicesOverlaps.overlaps #[c,c] C #[.slice (β ⟨F,e,ε⟩) g i,.slice (β ⟨L,n,ε⟩) s c2]).run m l=.ok (.bool θ) l:=a01;have v:=run_callFunc_extern O Q X Z k3 #[.slice (β ⟨F,e,ε⟩) g i,.slice (β ⟨L,n,ε⟩) s c2] l;rw[a02]at v;simp only[Result.andThen_ok]at v;refine .same A ?_ (.v _ rfl) E;have a03:a.eval (.func y)=.func (.func y) #[] #[]:=rfl;simp[execOp,N,resolve,a03,Deferred.ofValue,invoke,k8,k9,v]
def BP(h:World)(x y E p:TypeId)(d:TypeInfo)(r:Value)(F:IntKind)(G:m.underlying x=β (.slice p))(L:m.underlying y=β (.int F))
  (P:m.info? p=β d) (S:d.zero=β r) (z:Option Addr) (c k:Nat) (C:List Value) (u:0<d.size)
  (T:(Builtin.firstCells d.size c (.slice z c k)).run m h.drew=.ok C.toArray h.drew)
  (b:Nat) (v:0<b) (V:k<c+b) (w:((c+b:Nat):Int)<=9223372036854775807) (W:(c+b)*d.bytes<=140737488355328):
  (Builtin.append_ #[x,y] E #[.slice z c k,.int .i64 b]).run m h=
   .ok (.slice (β ⟨h.heap.size,0,ε⟩) (c+b) (grownCap h (c+b) k p))
    (h.drew.alloc (.cells (C.toArray++Builtin.zeroCells r.cells b++Builtin.zeroCells r.cells (grownCap h (c+b) k p -(c+b))) p)):=by
 have e:¬(c+b<=k):=acq;have f:¬(9223372036854775807<((c)+(b:Int))):=acq;have g:¬(281474976710656<Builtin.nextslicecap (c+b) k*d.bytes):=by have:=growslice_fits V W;omega
 have i:IntKind.i64.wrap (b)=b:=by rw[IntKind.wrap_i64];omega
 have j:¬((b:Int)<0):=acq;have A:b*d.bytes<=(c+b)*d.bytes:=a8x _ acq;have l:¬(281474976710656<(b)*(d.bytes:Int)):=by rw[<-Int.natCast_mul];omega
 have D:b≠0:=acq;have n:¬(b*d.size=0):=Nat.mul_ne_zero D acq;have q:=λs=>run_underlying L s;have t:¬(d.size=0):=acq;simp[Builtin.append_,run_underlying G,q,sizeOf,typeInfo,zeroValue,P,S,asInt,asIntOf,i,j,e,n,D,t,f,g,l,Question.forced,T,newRow,grownCap]
theorem K2(r x:Operand)(z C:TypeId)(t:IntKind)(k5:m.underlying C=β (.int t))(k6:o.op=.call {callee:=.builtin .append,args:=#[r,x],argTypes:=#[z,C]})(k:TypeId)(k7:m.underlying z=β (.slice k))(d:TypeInfo)(k8:m.info? k=β d)(p:Value)(k9:d.zero=β p)
  (w:p.cells.size=d.size) (l0:∀r∈p.cells.toList,r.oneCell'=ζ) (y:0<d.size) (l8:aM r=ζ) (l9:aM x=ζ) (l1:bK u a j) (P:Holds u f l) (S:G ⟨m,q⟩ (.ns d.size d.bytes (p.cells.toList.map cV) r x) j f Y):bN m q o a l u f Y:=by
 have D:=l1.ak r l8;have V:=l1.ak x l9;simp only[G]at S;generalize l2:a.eval r=n0 at D;generalize l3:a.eval x=a06 at V;have newRow:∀(A:List Value)(b c h)(e),bw u A.toArray e->(∀W∈e,W.one=ζ)->b+c<=h->
   ∃E:Ψ,α E=(h -(b+c))*d.size/\Step u f l u (f.set l.heap.size (.cells (e++(δ c (p.cells.toList.map cV)).flatten++E))) (l.drew.alloc (.cells (A.toArray++Builtin.zeroCells p.cells c++Builtin.zeroCells p.cells (h -(b+c))) k)):=by
  intro A b c h e B H I;obtain⟨n1,a07⟩:=xl w l0 y c;obtain⟨n2,a08⟩:=xl w l0 y (h -(b+c));refine⟨(δ (h -(b+c)) (p.cells.toList.map cV)).flatten,by rw[ly];simp[w],?_⟩;refine(Step.drew P).trans (Step.new P.drew _ k _ (λW g=>?_) (bw.append (bw.append B n1) n2));grind
 split at S
 .rename_i i b h a09 c K M;rw[K]at D;rw[M]at V;obtain rfl:=V.ds;split at S
  case h_2=>trivial
  rename_i N n3;obtain⟨rfl,n4,l4,n5,O,n9,Q⟩:=S;obtain⟨H,X,T,a10,a11,l5⟩:=P.read n3;have a13:=l5.1;have Z:=a9Q l4;cases D with
  |aq i b h a00 a14 I=>
   have a15:b*d.size<=α N:=by rw[n4];exact a8x _ I
   have a01:(X.toList.take (b*d.size)).length=b*d.size:=acs;have a02:(Builtin.firstCells d.size b (.slice (β ⟨i,0,ε⟩) b h)).run m l.drew=.ok (X.toList.take (b*d.size)).toArray l.drew:=by
    refine run_firstCells_some l.drew d.size b ⟨i,0,ε⟩ b h _ a01 (λl6 v D=>?_);have a16:l6<b*d.size:=by grind
    rw[hr,a8J];show l.cell? _= _;grind[cell_of_row,List.getElem?_take_of_lt]
   have F:=BP l z C o.type k d p t k7 k5 k8 k9 (β ⟨i,0,ε⟩) b h _ y a02 c.toNat acq n5 acq O;rw[Z]at F;have L:=grownCap_ge l (b+c.toNat) h k;have k3:=grownCap_le_maxLen l (b+c.toNat) h k (by unfold maxLen;omega);have B:bw u (X.toList.take (b*d.size)).toArray (N.take (b*d.size)):=by rw[bw.ed]at l5|-;grind
   obtain⟨E,n,s⟩:=newRow _ b c.toNat (grownCap l (b+c.toNat) h k) (N.take (b*d.size)) B (λW g=>H W (a8v g)) L;exact .value (jd r x z C k6 (by rw[l2,l3];exact F)) s (.aq _ _ _ _ y L) (Q _ _ E P.eh L k3 n)
 .rename_i a03 l7 c K M;rw[K]at D;rw[M]at V;obtain rfl:=V.ds;obtain⟨rfl,rfl,l4,O,n9,Q⟩:=S;have Z:((c.toNat))=c:=a9Q acq;have a04:n0=.slice ε 0 0:=by
   cases D with
   |dn a18 h l7 c3 k4=>simp only[Own.me]at k4;subst k4;rw[c3 rfl]
   |J a19 off len h a00 a27 a03 l7 y hlen I a29 H hH a30 k4=>trivial
  subst a04;have F:=BP l z C o.type k d p t k7 k5 k8 k9 ε 0 0 [] y acx c.toNat acq acq acq (by simpa using O);rw[Z]at F;simp only[a8J]at F;have L:=grownCap_ge l c.toNat 0 k;have k3:=grownCap_le_maxLen l c.toNat 0 k (by unfold maxLen;omega);obtain⟨E,n,s⟩:=newRow [] 0 c.toNat (grownCap l c.toNat 0 k) [] ⟨rfl,λl6 a34 a05=>by simp at a05⟩ (λW g=>by simp at g) acq;simp only[a8J,a8y]at s n;exact .value (jd r x z C k6 (by rw[l2,l3];exact F)) s (.aq _ _ _ _ y L) (Q _ _ E P.eh L k3 n)
 .trivial
end
variable{j4:List (Nat × c6)}
section
variable{o:Oper}{a:Act}
def dt.mem:∀ {k:List MapEntry}{p:List (R×R×Nat)},dt u k p->(∀d∈k,∃h∈p,ow u d h)/\∀h∈p,∃d∈k,ow u d h
 |[],[],_=>⟨λ_ b=>(a9n b).elim,λ_ b=>(a9n b).elim⟩
 |d::k,h::p,b=>by
  obtain⟨a,C⟩:=dt.mem b.2;refine⟨λr c=>?_,λr c=>?_⟩
  .rcases a8E.1 c with rfl|c
   .exact⟨h,acr,b.1⟩
   .obtain⟨x,y,z⟩:=a r c;exact⟨x,by simp[y],z⟩
  .rcases a8E.1 c with rfl|c
   .exact⟨d,acr,b.1⟩
   .obtain⟨x,y,z⟩:=C r c;exact⟨x,by simp[y],z⟩
def dt.erase:∀ {d:List MapEntry}{h:List (R×R×Nat)} (b:Nat),dt u d h->dt u (d.eraseIdx b) (h.eraseIdx b)
 |[],[],_,_=>trivial
 |_:: _,_:: _,0,c=>c.2
 |_:: _,_:: _,b+1,c=>⟨c.1,dt.erase b c.2⟩
def K3(c:Nat)(b:World):∃k h,(choose (.mapNext c)).run m b=.ok k h/\(h=b\/h=b.drew)/\(0<c->k<c):=by
 by_cases d:c<=1
 .exact⟨0,b,by simp[choose,Sem.run,Question.forced,d],.inl rfl,λd=>d⟩
 .exact⟨b.tape b.drawn (.mapNext c)%c,b.drew,by simp[choose,Sem.run,Question.forced,d,Question.cut],.inr rfl,λd=>aa7 _ d⟩
def K4(h:TypeId)(b:Operand)(x:o.op=.range h b)(y z:TypeId)(C:m.underlying h=β (.map y z))(D:aM b=ζ)(E:bK u a j)(d:Holds u f l)(c:G ⟨m,q⟩ (.oC b) j f Y):bN m q o a l u f Y:=by
 have k:=E.ak b D;simp only[G]at c;split at c
 case h_2=>trivial
 rename_i p F;rw[F]at k;have L:=k.sx;split at c
 case h_2=>trivial
 rename_i V r P;obtain⟨W,S,e,g⟩:=d.cx p _ P;have T:=MapKept.run_getObj_map (P:=m) S;refine .value ?_ (Step.x3 d _ (.jQ (β p) r [] r) (heap_alloc_new l _)) (.ptr _ _) (c _ d.eh);simp[execOp,x,L,Instr.range,run_underlying C,T]
def K5(T:Operand)(k9:o.op=.next T θ)(l0:aM T=ζ)(l1:bK u a j)(s:Holds u f l)(E:G ⟨m,q⟩ (.oD T) j f Y):bN m q o a l u f Y:=by
 have d:=l1.ak T l0;simp only[G]at E;split at E
 case h_2=>trivial
 rename_i y a10 l2;rw[l2]at d;obtain⟨rfl,E⟩:=E;have l3:=d.iE;split at E
 case h_2=>trivial
 rename_i z r seen e N;split at E
 case h_2=>trivial
 rename_i l4 g hm;obtain⟨A,B,l5⟩:=E;have O:l.heap[y]?=β (.mapIter (β z) r seen.toArray e):=s.cx y _ N;obtain⟨F,l6,a11,l7⟩:=s.cx z _ hm;have Q:dt u F.toList l4:=ll.list (by trivial) λL b C A B=>l7 L b C (by simpa using A) B;obtain⟨l8,X⟩:=Q.mem;have l9:(getObj y).run m l=.ok (.mapIter (β z) r seen.toArray e) l:=by simp[getObj,Sem.run,O]
 have n0:=MapKept.run_getObj_map (P:=m) l6;have n1:(!seen.toArray.isEmpty&& !F.isEmpty&&F.all (·.born>=e))=false:=by
  rcases A with rfl|rfl|⟨C,h,c⟩
  .simp
  .have:F=#[]:=by have:=Q.leq;simpa using this
   simp[this]
  .obtain⟨b,k,P⟩:=X C h;have a13:=P.2.2;have:F.all (·.born>=e)=false:=by rw[Bool.eq_false_iff];intro Z;rw[Array.all_eq_true']at Z;have:=Z b (by simpa using k);simp at this;omega
   simp[this]
 obtain⟨left,k3⟩:∃left,left=F.filter λb=> !seen.toArray.contains b.born:=⟨_,rfl⟩;have k4:∀b,b∈left↔b∈F/\b.born∉seen:=λb=>by rw[k3];simp
 obtain⟨D,H⟩:∃D,D=left.filter (·.born<r):=⟨_,rfl⟩;obtain⟨t,k5⟩:∃t,t=left.filter (·.born>=r):=⟨_,rfl⟩;have n2:∀b,b∈D->b∈left:=λb k=>by rw[H]at k;simp at k;exact k.1
 have n3:∀b,b∈t->b∈left:=λb k=>by rw[k5]at k;simp at k;exact k.1
 obtain⟨p,w⟩:∃p,p=(if D.isEmpty then #[ε]else #[])++(D++t).map some:=⟨_,rfl⟩;obtain⟨V,x,n4,k6,n5⟩:=K3 (m:=m) p.size l;have I:Step u f l u f x:=by rcases k6 with rfl|rfl;exact .refl s;exact .drew s
 have K:x.heap[y]?=β (.mapIter (β z) r seen.toArray e):=by rcases k6 with rfl|rfl<;>exact O
 have W:(execOp a.eval o).run m l=(match p[V]? with
   |some (β b)=>.ok (.value (.tuple #[.bool ζ,b.key,b.val])) {x with heap:=x.heap.setIfInBounds y (.mapIter (β z) r (seen.toArray.push b.born) g)}
   |some ε=>.ok (.value (.tuple #[.bool θ])) x
   |none=>.halt (.stuck "Next: no such candidate") x):=by
  simp only[execOp,k9,l3,Instr.next,Sem.run_bind,l9,n0,Result.andThen_ok,n1,a9m,if_false];rw[<-k3,<-H,<-k5,<-w];rw[n4];simp only[Result.andThen_ok];cases a14:p[V]? with
  |none=>simp[stuck,Sem.run,Result.andThen]
  |some T=>cases T with
   |none=>simp
   |some b=>
    have n9:seen.toArray.push b.born=(seen++[b.born]).toArray:=acr
    dsimp only
    rw[n9];have a00:(setObj y (.mapIter (β z) r (seen++[b.born]).toArray g)).run m x=.ok () {x with heap:=x.heap.setIfInBounds y (.mapIter (β z) r (seen++[b.born]).toArray g)}:=by simp only[setObj,Sem.run,K]
    simp[a00]
 have a01:0<p.size:=by
  rw[w];by_cases i:D.isEmpty=ζ
  .simp[i];omega
  .have:0<D.size:=by rw[Array.isEmpty_iff_size_eq_zero]at i;omega
   simp;omega
 have k7:=n5 a01;have a02:p[V]?=β p[V]:=aa2 k7;have S:p[V]∈p:=Array.getElem_mem k7;rw[a02]at W;revert W S;cases p[V]with
 |none=>
  intro W S;refine .value W I (.aJ _ _ rfl (λL C h=>?_)) (B λC h a03 a04=>?_)
  .match L,h with
   |0,h=>simp at h;subst h;exact .v _ rfl
   |L+1,h=>simp at h
  .obtain⟨b,k,P⟩:=X C h;have n:=P.2.2;have M:b∈left:=(k4 b).2 ⟨by simpa using k,by rw[n];exact a03⟩;have k8:b∈D:=by rw[H];simp only[Array.mem_filter,decide_eq_true_eq];exact⟨M,by rw[n];exact a04⟩
   rw[w]at S;have i:D.isEmpty=true:=by
    rcases abE.1 S with c|c
    .split at c
     .assumption
     .simp at c
    .simp at c
   rw[Array.isEmpty_iff]at i;rw[i]at k8;simp at k8
 |some b=>
  intro W S;have M:b∈left:=by
   rw[w]at S;rcases abE.1 S with c|c
   .split at c<;>simp at c
   .simp only[Array.mem_map,a8t,exists_eq_right]at c;rcases abE.1 c with c|c
    .exact n2 b c
    .exact n3 b c
  obtain⟨a05,a06⟩:=(k4 b).1 M;obtain⟨C,h,P⟩:=l8 b (by simpa using a05);have n:=P.2.2;have a07:=l5 C h (by rw[<-n];exact a06);have a08:=(a9o.1 K).1;have a09:=Step.uu I.holds (c:=.mapIter (β z) r (seen.toArray.push b.born) g) (Z:=.jQ (β z) r (seen++[C.2.2]) g) (by simp[N]) K (λa15 b j c=>by cases c) (by
   show(x.heap.setIfInBounds y _)[y]?= _;rw[<-n];simp[a08])
  refine .value W (I.trans a09) (.aJ _ _ rfl (λL v d=>?_)) a07
  match L,d with
  |0,d=>simp at d;subst d;exact .v _ rfl
  |1,d=>simp at d;subst d;exact P.1
  |2,d=>simp at d;subst d;exact P.2.1
  |L+3,d=>simp at d
def dt.find:∀ {p:List MapEntry}{r:List (R×R×Nat)} (c:Nat) {d:R×R×Nat},dt u p r->r.find? (λd=>d.2.2==c)=β d->∃b,p.find? (λb=>b.born==c)=β b/\ow u b d
 |[],[],_,_,_,h=>by cases h
 |b::p,y::r,c,d,h,k=>by
  have z:=h.1.2.2;rw[List.find?_cons]at k|-;rw[z];cases x:(y.2.2==c)with
  |true=>rw[x]at k;obtain rfl:=Β k;exact⟨b,rfl,h.1⟩
  |false=>rw[x]at k;exact dt.find c h.2 k
def K6(h:Operand)(L:o.op=.entry h)(P:aM h=ζ)(S:bK u a j)(p:Holds u f l)(c:G ⟨m,q⟩ (.oE h) j f Y):bN m q o a l u f Y:=by
 have b:=S.ak h P;simp only[G]at c;split at c
 case h_2=>trivial
 rename_i r O T;rw[T]at b;obtain⟨rfl,c⟩:=c;have V:=b.iE;split at c
 case h_2=>trivial
 rename_i x z seen Q W;split at c
 case h_2=>trivial
 rename_i e C y hm g;obtain⟨rfl,c⟩:=c;split at c
 case h_2=>trivial
 rename_i D i;have n:l.heap[r]?=β (.mapIter (β x) z seen.toArray C):=p.cx r _ W;obtain⟨E,s,X,t⟩:=p.cx x _ hm;have w:dt u E.toList e:=ll.list (by trivial) λk d D A B=>t k d D (by simpa using A) B;obtain⟨d,H,F⟩:=w.find y i;have I:(getObj r).run m l=.ok (.mapIter (β x) z seen.toArray C) l:=by simp[getObj,Sem.run,n]
 have K:=MapKept.run_getObj_map (P:=m) s;have M:seen.toArray.back?=β y:=by simpa using g
 have N:E.find? (λd=>d.born==y)=β d:=by rw[<-H];simp
 refine .same p (v:=.tuple #[d.key,d.val]) ?_ (.aJ _ _ rfl (λk v b=>?_)) c
 .simp[execOp,L,V,Instr.entry,I,K,M,N]
 .match k,b with
  |0,b=>simp at b;subst b;exact F.1
  |1,b=>simp at b;subst b;exact F.2.1
  |k+2,b=>simp at b
theorem K7(V W M:TypeId)(y z:Operand)(N:TypeId)(e:o.op=.call {callee:=.builtin .delete,args:=#[y,z],argTypes:=#[V,N]})(g:m.underlying V=β (.map W M))(i:mq m W j4)
  (O:aM y=ζ) (Q:aM z=ζ) (n:bK u a j) (s:Holds u f l) (b:G ⟨m,q⟩ (.oF j4 y z) j f Y):bN m q o a l u f Y:=by
 have t:=n.ak y O;have L:=n.ak z Q;simp only[G]at b;split at b
 case h_2=>trivial
 rename_i P X Z k3;rw[Z]at t;rw[k3]at L;have v:=t.sx;split at b
 case h_2=>trivial
 rename_i C D w;obtain⟨A,k4,b⟩:=b;obtain⟨E,k,k8,k5⟩:=s.cx P _ w;have S:dt u E.toList C:=ll.list (by trivial) λc p r h d=>k5 c p r (by simpa using h) d;obtain⟨k9,h,d⟩:=i.find L A l S k4;have B:=i.check L A E.isEmpty l;have H:=MapKept.run_getObj_map (P:=m) k;have I:∀(x:Array MapEntry)(F:List (R×R×Nat)),dt u x.toList F->Step u f l u (f.set P (.mp F D)) {l with heap:=l.heap.setIfInBounds P (.map x D)}:=λx F K=>
  Step.uu s (c:=.map x D) (Z:=.mp F D) (by simp[w]) k (λl0 p j k6=>by cases k6) ⟨x,by
   have l1:=(a9o.1 k).1;simp_all,by simpa using K.leq,λc p r h d=>K.ok c p r (by simpa using h) d⟩
 unfold x5 at b;revert d b;cases dx C (.agg X) 0 with
 |none=>intro b d;subst d;refine .value (v:=.tuple #[]) ?_ (I E C S) (.aJ _ _ rfl (λc r T=>by simp at T)) b;simp[execOp,e,resolve,invoke,builtin,v,Builtin.delete_,run_underlying g,H,B,h,MapKept.run_setObj_map _ k]
 |some k7=>
  obtain⟨c,l2⟩:=k7;intro b d;obtain⟨p,rfl,l3,l4,l5⟩:=d;refine .value (v:=.tuple #[]) ?_ (I (E.eraseIdxIfInBounds c) (C.eraseIdx c) (by
   have:=dt.erase c S;simpa using this)) (.aJ _ _ rfl (λc r T=>by simp at T)) b
  simp[execOp,e,resolve,invoke,builtin,v,Builtin.delete_,run_underlying g,H,B,h,MapKept.run_setObj_map _ k]
end
def jT(a:Program)(b:TypeId):Option Nat:=(a.info? b).map (·.size)
def placeOf(a:Program)(h:TypeId)(b:Nat):Option (Nat×Nat):=
 match a.underlying h with
 |some (.struct k)=>(k.toList.mapM (λc=>(a.info? c.type).map λo=>(c.offset,o.size))).bind λp=>p[b]?
 |some (.array _ r)=>(a.info? r).map λd=>(b*d.size,d.size)
 |_=>ε
def xm(a:Program)(c:TypeId):Bool:=
 match a.underlying c with
 |some (.struct d)=>(d.toList.mapM (λb=>(a.info? b.type).map λh=>(b.offset,h.size))).isSome
 |some (.array _ k)=>(a.info? k).isSome
 |_=>θ
def sy(b:Program)(c:TypeId):Option (Array Value):=
 match b.info? c with
 |some d=>match d.zero with
  |some a=>if a.cells.toList.all (·.oneCell')then β a.cells else ε
  |none=>ε
 |none=>ε
def BQ(b:Program)(c:TypeId)(a:Nat×Operand):Option (Nat×Nat×Operand):=
 match placeOf b c a.1 with
 |some (off,ch)=>if 0<ch/\aM a.2=ζ then β (off,ch,a.2)else ε
 |none=>ε
def sz(a:Program)(b:TypeId):List (Nat×Operand)->Option (List (Nat×Nat×Operand))
 |[]=>β []
 |c::d=>match BQ a b c,sz a b d with
  |some h,β k=>β (h::k)
  |_,_=>ε
def sA:Nat->List (Nat×Operand)->Option (List Operand)
 |_,[]=>β []
 |a,(c,b)::d=>if a=c/\aM b=ζ then(sA (a+1) d).map (b:: ·)else ε
def BR(a:Program)(b:TypeId)(c:Operand):Option cc:=
 match a.underlying b,jT a b with
 |some d,β h=>if aM c=ζ/\(d.isRow=ζ\/h=1)then β (.load d.isRow h c)else ε
 |_,_=>ε
structure Env where
 jR:Φ
 BS:Φ
 wr:Φ
 uA:Φ
 ty:Bool
 mr:Bool
 pins:Φ:=[]
 BT:Bool:=θ
 xn:Bool:=θ
def Env.K8(a:Env):Operand->Bool
 |.tmp b=>a.BS.contains b
 |_=>θ
def Env.gh(a:Env):Option Nat->Bool
 |some b=> !a.wr.contains b
 |none=>ζ
def Env.mut(a:Env):Option Nat->Bool
 |some b=>a.uA.contains b
 |none=>θ
def Env.box(a:Env):Option Nat->Bool
 |some b=>a.jR.contains b
 |none=>θ
def xo(h:Program)(o:Env)(r:Option Nat)(x:TypeId)(a:Operand)(c d y:Option Operand):Option cc:=
 if aM a=ζ/\c.all aM=ζ/\d.all aM=ζ then
  match h.underlying x,y with
  |some (.slice k),ε=>match jT h k with
   |some b=>β (.pH b a c d)
   |none=>ε
  |some (.array p k),ε=>match jT h k with
   |some b=>if 0<b then β (if o.K8 a=ζ then .kv b p a c d else .ku b p a c d (o.gh r))else ε
   |none=>ε
  |_,_=>ε
 else ε
def K9:Operand->Bool
 |.const (.pointer ε)=>ζ
 |_=>θ
def uB(b:Program)(c:Bool)(h:TypeId)(d a:Operand):Option cc:=
 match b.underlying h with
 |some .bool=>β (.pK c d a)
 |some (.slice _)=>match a with
  |.const (.slice ε 0 0)=>β (.nk c d)
  |_=>ε
 |some (.pointer k)=>match b.info? k with
  |some o=>if o.size≠0 then β (if K9 a=ζ then .qV c d a else .ni c d a)else ε
  |none=>ε
 |some (.int _)=>β (.bin (if c then .neq else .eql) d a)
 |some .string=>β (.bin (if c then .neq else .eql) d a)
 |some p=>match flatK b 20 h with
  |some bI=>if b.cellsOf h=α bI/\(b.info? h).isSome=ζ/\p.isRow=ζ/\b.eqGuardType b.depth h=θ then β (.eqv c (mo bI) d a)else ε
  |none=>ε
 |none=>ε
def xp(d:Program)(x:Env)(y:Option Nat)(k:Call):Option cc:=
 match k.callee,k.args.toList,k.argTypes.toList with
 |.value (.func p),args,_=>if fH d p=ζ/\args.all aM=ζ then β (.fZ p args)else ε
 |.builtin .len,[a],[h]=>match d.underlying h with
  |some (.slice _)=>if aM a=ζ then β (.len a)else ε
  |some .string=>if aM a=ζ then β (.qU a)else ε
  |some (.map _ _)=>if aM a=ζ then β (.pI a)else ε
  |_=>ε
 |.builtin .append,[a,b],[h,z]=>match d.underlying h with
  |some (.slice o)=>match d.info? o with
   |some c=>match c.zero with
    |some r=>if h=z/\r.cells.size=c.size/\0<c.size/\aM a=ζ/\aM b=ζ then(if x.mut y=ζ then(if r.cells.toList.all (·.oneCell')=ζ then β (.mj c.size c.bytes a b)else ε)else β (.app c.size c.bytes a b))else ε
    |none=>ε
   |none=>ε
  |_=>ε
 |.builtin .max,[a,b],_=>if aM a=ζ/\aM b=ζ then β (.mi ζ .i64 a b)else ε
 |.builtin .min,[a,b],_=>if aM a=ζ/\aM b=ζ then β (.mi θ .i64 a b)else ε
 |.builtin .copy,[a,b],[h,_]=>match d.underlying h with
  |some (.slice o)=>match jT d o with
   |some C=>if aM a=ζ/\aM b=ζ then β (.nj C a b)else ε
   |none=>ε
  |_=>ε
 |_,_,_=>ε
def xq(b:Program)(z:Env)(x:Oper):Option cc:=
 match x.op with
 |.move a|.assign a=>if aM a=ζ then β (.fi a)else ε
 |.pick C a k=>if aM C=ζ/\aM a=ζ/\aM k=ζ then β (.pick C a k)else ε
 |.alloc T=>match sy b T with
  |some o=>β (.alloc T (o.toList.map cV))
  |none=>ε
 |.box T a=>if aM a=ζ then β (if z.box x.dst=ζ then .lp T a else .box T a)else ε
 |.load d a=>BR b d a
 |.store d a k=>match jT b d with
  |some p=>if 0<p/\aM a=ζ/\aM k=ζ then β (.store p a k)else ε
  |none=>ε
 |.nilCheck a=>if aM a=ζ then β (.qS a)else ε
 |.fieldAddr d a c=>match b.underlying d with
  |some (.struct D)=>match D[c]? with
   |some fd=>match jT b fd.type with
    |some p=>if p≠0/\aM a=ζ then β (.lq fd.offset a)else ε
    |none=>ε
   |none=>ε
  |_=>ε
 |.indexAddr d a c=>if aM a=ζ/\aM c=ζ then
   match b.underlying d with
   |some (.array len h)=>match jT b h with
    |some r=>β (.qT r len a c)
    |none=>ε
   |some (.slice h)=>match jT b h with
    |some r=>β (.dU r a c)
    |none=>ε
   |_=>ε
  else ε
 |.field d a c=>match b.underlying d with
  |some (.struct D)=>match D[c]? with
   |some fd=>match b.underlying fd.type,jT b fd.type with
    |some y,β p=>if aM a=ζ/\(y.isRow=ζ\/p=1)then β (.pJ y.isRow fd.offset p a)else ε
    |_,_=>ε
   |none=>ε
  |_=>ε
 |.index d a c=>if aM a=ζ/\aM c=ζ then
   match b.underlying d with
   |some (.array len h)=>match b.underlying h,jT b h with
    |some y,β r=>if y.isRow=ζ\/r=1 then β (.pG y.isRow r len a c)else ε
    |_,_=>ε
   |some .string=>β (.mg a c)
   |_=>ε
  else ε
 |.build d parts=>match sy b d,sz b d parts.toList with
  |some o,β res=>if xm b d=ζ then β (.mh (o.toList.map cV) res)else ε
  |_,_=>ε
 |.buildSlice d p parts=>match b.underlying d,sA 0 parts.toList with
  |some (.slice h),β xs=>match b.info? h with
   |some c=>match c.zero with
    |some o=>if o.cells.size=c.size/\o.cells.toList.all (·.oneCell')=ζ/\0<c.size/\p*c.size<=2^24/\α xs=p then β (if z.mut x.dst=ζ then .ky c.size xs else .kt c.size xs)else ε
    |none=>ε
   |none=>ε
  |_,_=>ε
 |.slice d a aV aU E=>xo b z x.dst d a aV aU E
 |.binOp op d a k _=>if aM a=ζ/\aM k=ζ then
   match op with
   |.eql=>uB b θ d a k
   |.neq=>uB b ζ d a k
   |op=>β (.bin op a k)
  else ε
 |.unOp op _ a=>if aM a=ζ then β (.un op a)else ε
 |.convert st F a=>match b.underlying st,b.underlying F with
  |some (.int _),β (.int r)=>if aM a=ζ then β (.jb r a)else ε
  |some (.slice h),β .string=>match b.underlying h with
   |some (.int .u8)=>if aM a=ζ then β (.qW a)else ε
   |_=>ε
  |some .string,β (.slice h)=>match b.underlying h with
   |some (.int .u8)=>if aM a=ζ then β (.pL a)else ε
   |_=>ε
  |_,_=>ε
 |.makeSlice d a k=>match b.underlying d with
  |some (.slice h)=>match b.info? h with
   |some c=>match c.zero with
    |some o=>if o.cells.size=c.size/\o.cells.toList.all (·.oneCell')=ζ/\0<c.size/\aM a=ζ/\aM k=ζ then β (.kx c.size c.bytes (o.cells.toList.map cV) a k)else ε
    |none=>ε
   |none=>ε
  |_=>ε
 |.extract a c=>if aM a=ζ then β (.ext a c)else ε
 |.call C=>xp b z x.dst C
 |_=>ε
variable{e3:cc}{I:Bool}{N e4:Operand}{b2:Type}{b0:TypeId}
section
variable{o:Oper}{a:Act}
def uC{b:TypeDesc}(c:b.isRow=ζ\/e=1):b.isRow=θ->e=1:=λd=>c.resolve_left (by simp[d])
theorem xr{b:Array Value}(d:sy m b0=β b):∃c v,m.info? b0=β c/\c.zero=β v/\v.cells=b/\∀h∈b.toList,h.oneCell'=true:=by unfold sy at d;grind
theorem Ka{b:Array Value}(d:sy m b0=β b)(h:xm m b0=ζ)(c:List (Nat×Value)):m.built b0 c=Instr.fill (placeOf m b0) b c:=by obtain⟨k,v,p,r,rfl,_⟩:=xr d;unfold xm at h;unfold Program.built placeOf;grind[Option.isSome_iff_exists]
theorem BU{x:TypeId}:∀ {r:List (Nat×Operand)}{res:List (Nat×Nat×Operand)},sz m x r=β res->α r=α res/\
  ∀(d:Nat)(h:Nat×Operand)(b:Nat×Nat×Operand),r[d]?=β h->res[d]?=β b->placeOf m x h.1=β (b.1,b.2.1)/\h.2=b.2.2/\aM h.2=ζ/\0<b.2.1
 |[],res,c=>by
  simp only[sz,a8t]at c;simp_all
 |h::r,res,c=>by
  simp only[sz]at c;split at c
  case h_2=>cases c
  rename_i b D y z;obtain rfl:=Β c;obtain⟨C,E⟩:=BU z;refine⟨by simp[C],λd F G k p=>?_⟩
  match d,k,p with
  |0,k,p=>simp only[a9V,a8t]at k p;subst k;subst p;unfold BQ at y;grind
  |d+1,k,p=>grind
theorem BV:∀ {d:Nat}{h:List (Nat×Operand)}{c:List Operand},sA d h=β c->h=(c.zipIdx d).map (λk=>(k.2,k.1))/\∀p∈c,aM p=ζ
 |d,[],c,b=>by
  simp only[sA,a8t]at b;simp_all
 |d,(x,p)::y,c,b=>by
  simp only[sA]at b;split at b
  case isFalse=>cases b
  rename_i z;obtain⟨C,r,rfl⟩:=aaJ.1 b;obtain⟨D,E⟩:=BV r;simp_all
def r2{b:Array b2}{c:b2}(d:b.toList=[c]):b=#[c]:=aba.1 d
def hS{b:Array b2}{c d:b2}(h:b.toList=[c,d]):b=#[c,d]:=aba.1 h
theorem Kb{P:Env}{S:Option Nat}{d h E:Option Operand}(z:o.op=.slice b0 N d h E)(b:xo m P S b0 N d h E=β e3)(C:bK u a j)(D:Holds u f l)(k:G ⟨m,q⟩ e3 j f Y):bN m q o a l u f Y:=by
 unfold xo at b;split at b
 case isFalse=>cases b
 rename_i c;split at b
 .rename_i p r;split at b
  case h_2=>cases b
  rename_i x y;obtain rfl:=Β b;exact Jo b0 N d h z p r x y c.1 c.2.1 c.2.2 C D k
 .rename_i F p r;split at b
  case h_2=>cases b
  rename_i x y;split at b
  case isFalse=>cases b
  rename_i L;obtain rfl:=Β b;split at k
  .exact Jv b0 N d h z F p r x y L c.1 c.2.1 c.2.2 C D k
  .exact BD b0 N d h z F p r x y L _ c.1 c.2.1 c.2.2 C D k
 .cases b
theorem BW{c:TypeId}(h:o.op=.binOp (if I then .neq else .eql) b0 N e4 c)(k:aM N=ζ)(y:aM e4=ζ)(b:uB m I b0 N e4=β e3)(p:bK u a j)(r:Holds u f l)(x:G ⟨m,q⟩ e3 j f Y):bN m q o a l u f Y:=by
 unfold uB at b;split at b
 .rename_i d;obtain rfl:=Β b;exact Jl I b0 N e4 c h d k y p r x
 .rename_i z d;split at b
  .obtain rfl:=Β b;exact JA I b0 N c h z d k p r x
  .cases b
 .rename_i z d;split at b
  .rename_i D E;split at b
   .rename_i C;split at b
    .obtain rfl:=Β b;exact Jm I b0 N e4 c h z d D E C k y p r x
    .obtain rfl:=Β b;exact JF I b0 N e4 c h z d D E C k y p r x
   .cases b
  .cases b
 .obtain rfl:=Β b;exact xe _ b0 N e4 c h k y p r x
 .obtain rfl:=Β b;exact xe _ b0 N e4 c h k y p r x
 .rename_i F _ _ _ _ _ d;split at b
  case h_2=>cases b
  rename_i L P;split at b
  case isFalse=>cases b
  rename_i C;obtain rfl:=Β b;grind[Jk]
 .cases b
theorem Kc{V:Env}{W:Option Nat}{P:Call}(C:o.op=.call P)(b:xp m V W P=β e3)(D:bK u a j)(E:Holds u f l)(F:G ⟨m,q⟩ e3 j f Y):bN m q o a l u f Y:=by
 obtain⟨H,I,K⟩:=P;unfold xp at b;split at b
 .rename_i M c;simp only at c;subst c;split at b
  case isFalse=>cases b
  rename_i d;obtain rfl:=Β b;obtain⟨y,S⟩:=d;unfold fH at y;split at y
  case h_2=>cases y
  rename_i N O;simp only[Ξ,bne_iff_ne,ne_eq]at y;grind[Jn,List.all_eq_true]
 .rename_i p r c h x;simp only at c h x;subst c;obtain rfl:=r2 h;obtain rfl:=r2 x;split at b
  .rename_i z k;split at b
   case isFalse=>cases b
   rename_i d;obtain rfl:=Β b;exact Je r p C z k d D E F
  .rename_i k;split at b
   case isFalse=>cases b
   rename_i d;obtain rfl:=Β b;exact Jf r p C k d D E F
  .rename_i e g k;split at b
   case isFalse=>cases b
   rename_i d;obtain rfl:=Β b;exact JR r p C e g k d D E F
  .cases b
 .rename_i p L r T c h x;simp only at c h x;subst c;obtain rfl:=hS h;obtain rfl:=hS x;split at b
  case h_2=>cases b
  rename_i z k;split at b
  case h_2=>cases b
  rename_i i n;split at b
  case h_2=>cases b
  rename_i s t;split at b
  case isFalse=>cases b
  rename_i d;obtain⟨rfl,y,S,v,w⟩:=d;split at b
  .split at b
   case isFalse=>cases b
   rename_i Q;obtain rfl:=Β b;exact BK p L r r _ k (.inl ⟨z,rfl⟩) C z k i n s t y (by grind) S v w D E F
  .obtain rfl:=Β b;grind[Js]
 .rename_i p L c h;simp only at c h;subst c;obtain rfl:=hS h;split at b
  case isFalse=>cases b
  rename_i d;obtain rfl:=Β b;grind[BL]
 .rename_i p L c h;simp only at c h;subst c;obtain rfl:=hS h;split at b
  case isFalse=>cases b
  rename_i d;obtain rfl:=Β b;grind[BL]
 .rename_i p L r T c h x;simp only at c h x;subst c;obtain rfl:=hS h;obtain rfl:=hS x;split at b
  case h_2=>cases b
  rename_i z k;split at b
  case h_2=>cases b
  rename_i A B;split at b
  case isFalse=>cases b
  rename_i d;obtain rfl:=Β b;exact Jz r T p L C z k A B d.1 d.2 D E F
 .cases b
theorem Kd{O:Env}(b:xq m O o=β e3)(x:bK u a j)(p:Holds u f l)(r:G ⟨m,q⟩ e3 j f Y):bN m q o a l u f Y:=by
 unfold xq at b;split at b
 case h_1 d c=>split at b;(rename_i y;obtain rfl:=Β b;exact By d (.inl c) y x p r);(cases b)
 case h_2 d c=>split at b;(rename_i y;obtain rfl:=Β b;exact By d (.inr c) y x p r);(cases b)
 case h_3 Q d V c=>split at b;(rename_i y;obtain rfl:=Β b;grind[J5]);(cases b)
 case h_4 T c=>
  split at b
  .rename_i n S;obtain rfl:=Β b;obtain⟨z,v,i,K,rfl,s⟩:=xr S;exact J3 T c z i v K s p r
  .cases b
 case h_5 T d c=>
  split at b
  .rename_i y;obtain rfl:=Β b;grind[Ju,J4]
  .cases b
 case h_6 k d c=>
  unfold BR at b;split at b
  .rename_i W F C L;split at b
   .rename_i h;obtain rfl:=Β b;exact J0 k d c W C F L (uC h.2) h.1 x p r
   .cases b
  .cases b
 case h_7 k d V c=>
  split at b
  .rename_i F L;split at b
   .rename_i h;obtain rfl:=Β b;exact J2 k d V c F L h.1 h.2.1 h.2.2 x p r
   .cases b
  .cases b
 case h_8 d c=>split at b;(rename_i y;obtain rfl:=Β b;exact J6 d c y x p r);(cases b)
 case h_9 k d z c=>
  split at b
  .rename_i t C;split at b
   .rename_i w A;split at b
    .rename_i F L;split at b
     .rename_i h;obtain rfl:=Β b;exact J7 k d z c t C w A F L h.1 h.2 x p r
     .cases b
    .cases b
   .cases b
  .cases b
 case h_10 k d z c=>
  split at b
  case isFalse=>cases b
  rename_i h;split at b
  .rename_i len D C;split at b
   .rename_i P e;obtain rfl:=Β b;exact J8 k d z c len D C P e h.1 h.2 x p r
   .cases b
  .rename_i D C;split at b
   .rename_i P e;obtain rfl:=Β b;exact J9 k d z c D C P e h.1 h.2 x p r
   .cases b
  .cases b
 case h_11 k d z c=>
  split at b
  .rename_i t C;split at b
   .rename_i w A;split at b
    .rename_i W F E L;split at b
     .rename_i h;obtain rfl:=Β b;exact Ja k d z c t C w A W E F L (uC h.2) h.1 x p r
     .cases b
    .cases b
   .cases b
  .cases b
 case h_12 k d z c=>
  split at b
  case isFalse=>cases b
  rename_i h;split at b
  .rename_i len D C;split at b
   .rename_i W P E e;split at b
    .rename_i X;obtain rfl:=Β b;exact Jb k d z c len D C W E P e (uC X) h.1 h.2 x p r
    .cases b
   .cases b
  .rename_i C;obtain rfl:=Β b;exact Jc k d z c C h.1 h.2 x p r
  .cases b
 case h_13 k M c=>
  split at b
  .rename_i n res S Z;split at b
   .rename_i k3;obtain rfl:=Β b;obtain⟨z,v,i,K,rfl,s⟩:=xr S;obtain⟨k4,k5⟩:=BU Z;exact Jq k M c (placeOf m k) _ res (Ka S k3) s k4 k5 x p r
   .cases b
  .cases b
 case h_14 k F M c=>
  split at b
  .rename_i D k9 C k6;split at b
   .rename_i z i;split at b
    .rename_i n S;split at b
     .rename_i h;obtain rfl:=Β b;obtain⟨l0,l1⟩:=BV k6;grind[Jr,List.all_eq_true,BI]
     .cases b
    .cases b
   .cases b
  .cases b
 grind[Kb]
 case h_16 N k d V k7 c=>
  split at b
  case isFalse=>cases b
  rename_i h;split at b;grind[BW];grind[BW]
  .obtain rfl:=Β b;exact xe _ k d V k7 c h.1 h.2 x p r
 case h_17 N k d c=>split at b;(rename_i y;obtain rfl:=Β b;exact Ji N k d c y x p r);(cases b)
 case h_18 B H d c=>
  split at b
  .rename_i k8 P g E;split at b
   .rename_i y;obtain rfl:=Β b;exact Jj B H d c P k8 g E y x p r
   .cases b
  .rename_i D g E;split at b
   .rename_i I;split at b
    .rename_i y;obtain rfl:=Β b;exact Jx B H d c D g I E y x p r
    .cases b
   .cases b
  .rename_i D g E;split at b
   .rename_i I;split at b
    .rename_i y;obtain rfl:=Β b;exact JB B H d c D g E I y x p r
    .cases b
   .cases b
  .cases b
 case h_19 k d V c=>
  split at b
  case h_2=>cases b
  rename_i D C;split at b
  case h_2=>cases b
  rename_i z i;split at b
  case h_2=>cases b
  rename_i n S;split at b
  case isFalse=>cases b
  rename_i h;obtain rfl:=Β b;grind[Jy,List.all_eq_true]
 case h_20 d z c=>split at b;(rename_i y;obtain rfl:=Β b;exact Jd d z c y x p r);(cases b)
 case h_21 Q c=>exact Kc c b x p r
 .cases b
end
def BX(a:Program)(b:TypeId):Bool:=
 match a.underlying b with
 |some (.slice _)=>ζ
 |some .string=>ζ
 |_=>θ
def xt(b:Program)(p:Env)(r:Option Nat)(c d:Operand)(h k:TypeId):Option cc:=
 match b.underlying h with
 |some (.slice x)=>match b.info? x with
  |some a=>match a.zero with
   |some o=>if BX b k=ζ/\o.cells.size=a.size/\o.cells.toList.all (·.oneCell')=ζ/\0<a.size/\aM c=ζ/\aM d=ζ then
     (if h≠k/\p.mut r=ζ then β (.mj a.size a.bytes c d)else ε)else ε
   |none=>ε
  |none=>ε
 |_=>ε
def r3(a:Program)(b:TypeId)(c:List c6):Bool:=
 decide (a.cellsOf b=α c)&&(a.info? b).isSome&&(match a.underlying b with|some (.array _ _)|some (.struct _)=>ζ|_=>θ)
theorem xu{a:List c6}(c:flatK m 20 b0=β a)(b:r3 m b0 a=ζ):mq m b0 (mo a):=by simp only[r3,Ξ,decide_eq_true_eq]at b;obtain⟨⟨d,h⟩,k⟩:=b;refine⟨⟨20,acq,by rw[uz];exact c⟩,by rw[uz];exact d,h,?_⟩;grind
def xv(a:Program)(k:Env)(o:Option Nat)(c:Call):Option cc:=
 match c.callee,c.args.toList,c.argTypes.toList with
 |.value (.tmp p),args,_=>if args.all aM=ζ then β (.jc (.tmp p) args)else ε
 |.builtin .append,[b,r],[x,y]=>xt a k o b r x y
 |.builtin .delete,[b,d],[mt,_]=>match a.underlying mt with
  |some (.map h _)=>match flatK a 20 h with
   |some bI=>if r3 a h bI=ζ/\aM b=ζ/\aM d=ζ then β (.oF (mo bI) b d)else ε
   |none=>ε
  |_=>ε
 |_,_,_=>ε
def BY:TypeDesc->Bool
 |.interface _=>ζ
 |_=>θ
def Ke{a:TypeDesc}(c:BY a=θ):∀b,a≠.interface b:=λb hm=>by subst hm;cases c
def xw(a:Program)(k:Op):Option cc:=
 match k with
 |.makeMap _ ε=>β .kA
 |.lookup mt b c ok=>match a.underlying mt with
  |some (.map d o)=>match flatK a 20 d,a.info? o with
   |some bI,β p=>match p.zero with
    |some h=>if r3 a d bI=ζ/\so h=ζ/\aM b=ζ/\aM c=ζ then β (.kB ok (mo bI) (ofConst h) b c)else ε
    |none=>ε
   |_,_=>ε
  |_=>ε
 |.mapUpdate mt b c v|.insert mt b c v=>match a.underlying mt with
  |some (.map d _)=>match flatK a 20 d with
   |some bI=>if r3 a d bI=ζ/\aM b=ζ/\aM c=ζ/\aM v=ζ then β (.lr (mo bI) b c v)else ε
   |none=>ε
  |_=>ε
 |_=>ε
def xx(c:Program)(h:Env)(d:Oper):Option cc:=
 match d.op with
 |.makeFunc (.func k) first cap=>if first.toList.all aM=ζ/\cap.toList.all aM=ζ then β (.bL k first.toList cap.toList)else ε
 |.makeInterface b a=>match c.underlying b with
  |some o=>if BY o=θ/\aM a=ζ then β (.qX b a)else ε
  |none=>ε
 |.panic a=>if aM a=ζ then β (.nm a)else ε
 |.range b a=>match c.underlying b with
  |some .string=>if aM a=ζ then β (.kz a)else ε
  |some (.map _ _)=>if aM a=ζ then β (.oC a)else ε
  |_=>ε
 |.next a ζ=>if aM a=ζ then β (.nn a)else ε
 |.next a θ=>if aM a=ζ then β (.oD a)else ε
 |.entry a=>if aM a=ζ then β (.oE a)else ε
 |.call p=>xv c h d.dst p
 |_=>ε
def BZ(a:Program)(c:FuncId):Bool:=
  match a.funcs[c]? with
  |some fn=>fn.origin== "slices.overlaps" &&fn.body.isNone&& !(fn.name== "runtime.NumGoroutine")&&(Extern.allNextRows.lookup fn.name).isNone&&(Extern.allGenericRows.lookup fn.name).isNone&&(Extern.allTypedRows.lookup fn.name).isNone&&(Extern.allRows.lookup fn.name).isNone&&
    (match fn.params.toList with
     |[b,d]=>b==d&&(match a.underlying b with|some (.slice h)=>(a.info? h).isSome|_=>θ)
     |_=>θ)
  |none=>θ
def C0(a:Program)(b:FuncId):Bool:=
 match a.funcs[b]? with
 |some fn=>fn.body.isNone&&fn.name== "math/bits.Add64" &&(Extern.findNext fn).isNone
 |none=>θ
def xy(c:Program)(x:Env)(o:Call):Option cc:=
 match o.callee,o.args.toList,o.argTypes.toList with
 |.builtin .cap,[a],[h]=>match c.underlying h with
  |some (.slice _)=>if aM a=ζ then β (.np a)else ε
  |_=>ε
 |.builtin .clear,[a],[h]=>match c.underlying h with
  |some (.slice p)=>match c.info? p with
   |some d=>match d.zero with
    |some k=>if k.cells.size=d.size/\k.cells.toList.all (·.oneCell')=ζ/\0<d.size/\aM a=ζ then β (.nq d.size (k.cells.toList.map cV) a)else ε
    |none=>ε
   |none=>ε
  |_=>ε
 |.builtin .copy,[a,b],[h,_]=>if x.xn=ζ then(match c.underlying h with
  |some (.slice p)=>match jT c p with
   |some y=>if aM a=ζ/\aM b=ζ then β (.nr y a b)else ε
   |none=>ε
  |_=>ε)else ε
 |.builtin .append,[a,b],[h,z]=>match c.underlying z with
  |some (.int _)=>match c.underlying h with
   |some (.slice p)=>match c.info? p with
    |some d=>match d.zero with
     |some k=>if k.cells.size=d.size/\k.cells.toList.all (·.oneCell')=ζ/\0<d.size/\aM a=ζ/\aM b=ζ then β (.ns d.size d.bytes (k.cells.toList.map cV) a b)else ε
     |none=>ε
    |none=>ε
   |_=>ε
  |_=>ε
 |.value (.func r),[a,b,o],_=>if C0 c r=ζ/\aM a=ζ/\aM b=ζ/\aM o=ζ then β (.qY a b o)else ε
 |.value (.func r),[a,b],_=>if BZ c r=ζ/\aM a=ζ/\aM b=ζ then β (.nt a b)else ε
 |_,_,_=>ε
def xz(a:Program)(c:Env)(h:Oper):Option cc:=
 match h.op with
 |.slice k d aV aU b=>if c.xn=ζ then(match a.underlying k with
  |some (.slice o)=>match jT a o with
   |some p=>if aM d=ζ/\aV.all aM=ζ/\aU.all aM=ζ/\b.all aM=ζ/\(b=ε\/aU.isSome=ζ)then β (.ml p d aV aU b)else ε
   |none=>ε
  |_=>ε)else ε
 |.call r=>xy a c r
 |_=>ε
def xA(b:Program)(d:Env)(c:Oper):Option cc:=
 match xz b d c with
 |some a=>β a
 |none=>match xw b c.op with
 |some a=>β a
 |none=>match xx b d c with
 |some a=>β a
 |none=>xq b d c
def Kf:Extern.allGenericRows.lookup "math/bits.Add64" =none:=by rfl
def Kg:Extern.allTypedRows.lookup "math/bits.Add64" =none:=by rfl
def Kh:Extern.allRows.lookup "math/bits.Add64" =β add64Entry:=by rfl
def Ki:Extern.allNextRows.lookup "slices.overlaps" =none:=by rfl
def Kj:Extern.allGenericRows.lookup "slices.overlaps" =none:=by rfl
def Kk:Extern.allTypedRows.lookup "slices.overlaps" =β Extern.SlicesOverlaps.overlaps:=by rfl
section
variable{o:Oper}{a:Act}
theorem Kl{h:Env}{k:Option Nat}{d:TypeId}(y:o.op=.call {callee:=.builtin .append,args:=#[N,e4],argTypes:=#[d,b0]})(b:xt m h k N e4 d b0=β e3)(z:bK u a j)(C:Holds u f l)(D:G ⟨m,q⟩ e3 j f Y):bN m q o a l u f Y:=by
 unfold xt at b;split at b
 case h_2=>cases b
 rename_i E F;split at b
 case h_2=>cases b
 rename_i L P;split at b
 case h_2=>cases b
 rename_i S T;split at b
 case isFalse=>cases b
 rename_i p;obtain⟨r,V,W,e,g,i⟩:=p;obtain⟨c,n,s⟩:∃c,m.underlying b0=β c/\((∃x,c=.slice x)\/c=.string):=by unfold BX at r;grind
 split at b
 case isFalse=>cases b
 obtain rfl:=Β b;grind[BK,List.all_eq_true]
theorem Km{D:Env}{E:Option Nat}{p:Call}(r:o.op=.call p)(b:xv m D E p=β e3)(x:bK u a j)(y:Holds u f l)(z:G ⟨m,q⟩ e3 j f Y):bN m q o a l u f Y:=by
 obtain⟨g,F,L⟩:=p;unfold xv at b;split at b
 .rename_i P c;simp only at c;subst c;split at b
  case isFalse=>cases b
  rename_i k;obtain rfl:=Β b;exact JD (.tmp P) F L r rfl (by grind) x y z
 .rename_i C i n s c d h;simp only at c d h;subst c;obtain rfl:=hS d;obtain rfl:=hS h;exact Kl r b x y z
 .rename_i C S mt T c d h;simp only at c d h;subst c;obtain rfl:=hS d;obtain rfl:=hS h;split at b
  case h_2=>cases b
  rename_i V W hm;split at b
  case h_2=>cases b
  rename_i t e;split at b
  case isFalse=>cases b
  rename_i k;obtain rfl:=Β b;exact K7 mt V W C S T r hm (xu e k.1) k.2.1 k.2.2 x y z
 .cases b
theorem Kn{z:Env}(b:xx m z o=β e3)(k:bK u a j)(p:Holds u f l)(r:G ⟨m,q⟩ e3 j f Y):bN m q o a l u f Y:=by
 unfold xx at b;split at b
 .rename_i F first L c
  split at b
  case isFalse=>cases b
  rename_i d;obtain rfl:=Β b;grind[JC,List.all_eq_true]
 .rename_i y h c;split at b
  case h_2=>cases b
  rename_i C x;split at b
  case isFalse=>cases b
  rename_i d;obtain rfl:=Β b;exact JE y h c C x (Ke d.1) d.2 k p r
 .rename_i h c;split at b
  case isFalse=>cases b
  rename_i d;obtain rfl:=Β b;exact JG h c d k p r
 .rename_i y h c;split at b
  .rename_i x;split at b
   case isFalse=>cases b
   rename_i d;obtain rfl:=Β b;exact JH y h c x d k p r
  .rename_i D E x;split at b
   case isFalse=>cases b
   rename_i d;obtain rfl:=Β b;exact K4 y h c D E x d k p r
  .cases b
 .rename_i h c;split at b
  case isFalse=>cases b
  rename_i d;obtain rfl:=Β b;exact JI h c d k p r
 .rename_i h c;split at b
  case isFalse=>cases b
  rename_i d;obtain rfl:=Β b;exact K5 h c d k p r
 .rename_i h c;split at b
  case isFalse=>cases b
  rename_i d;obtain rfl:=Β b;exact K6 h c d k p r
 .rename_i P c;exact Km c b k p r
 .cases b
theorem Ko(b:xw m o.op=β e3)(C:bK u a j)(r:Holds u f l)(x:G ⟨m,q⟩ e3 j f Y):bN m q o a l u f Y:=by
 have mf:∀mt d h v,(o.op=.mapUpdate mt d h v\/o.op=.insert mt d h v)->(match m.underlying mt with
  |some (.map k _)=>match flatK m 20 k with
   |some p=>if r3 m k p=ζ/\aM d=ζ/\aM h=ζ/\aM v=ζ then β (.lr (mo p) d h v)else ε
   |none=>ε
  |_=>ε)=β e3->bN m q o a l u f Y:=by
  intro mt d h v E b;split at b
  case h_2=>cases b
  rename_i k y hm;split at b
  case h_2=>cases b
  rename_i p z;split at b
  case isFalse=>cases b
  rename_i c;obtain rfl:=Β b;exact JT mt k y d h v E hm (xu z c.1) c.2.1 c.2.2.1 c.2.2.2 C r x
 generalize D:o.op=S at b;unfold xw at b;split at b
 .obtain rfl:=Β b;exact JQ _ D r x
 .split at b
  case h_2=>cases b
  rename_i k y hm;split at b
  case h_2=>cases b
  rename_i p T z F;split at b
  case h_2=>cases b
  rename_i L P;split at b
  case isFalse=>cases b
  rename_i c;obtain rfl:=Β b;exact JS _ k y _ _ _ D hm (xu z c.1) F P (bb.ofConst u L c.2.1) c.2.2.1 c.2.2.2 C r x
 .simp_all
 .simp_all
 .cases b
theorem Kp{A:Env}{D:Call}(F:o.op=.call D)(b:xy m A D=β e3)(L:bK u a j)(P:Holds u f l)(S:G ⟨m,q⟩ e3 j f Y):bN m q o a l u f Y:=by
 obtain⟨l0,l1,v⟩:=D;unfold xy at b;split at b
 .rename_i p x c d h;simp only at c d h;subst c;obtain rfl:=r2 d;obtain rfl:=r2 h;split at b
  case h_2=>cases b
  rename_i y z;split at b
  case isFalse=>cases b
  rename_i r;obtain rfl:=Β b;exact JU x p F y z r L P S
 .rename_i p x c d h;simp only at c d h;subst c;obtain rfl:=r2 d;obtain rfl:=r2 h;split at b
  case h_2=>cases b
  rename_i y z;split at b
  case h_2=>cases b
  rename_i B H;split at b
  case h_2=>cases b
  rename_i I K;split at b
  case isFalse=>cases b
  rename_i r;obtain rfl:=Β b;grind[JX,List.all_eq_true]
 .rename_i p C x w c d h;simp only at c d h;subst c;obtain rfl:=hS d;obtain rfl:=hS h;split at b
  case isFalse=>cases b
  split at b
  case h_2=>cases b
  rename_i y z;split at b
  case h_2=>cases b
  rename_i M N;split at b
  case isFalse=>cases b
  rename_i r;obtain rfl:=Β b;exact JZ x w p C F y z M N r.1 r.2 L P S
 .rename_i p C x l2 c d h;simp only at c d h;subst c;obtain rfl:=hS d;obtain rfl:=hS h;split at b
  case h_2=>cases b
  rename_i l3 l4;split at b
  case h_2=>cases b
  rename_i y z;split at b
  case h_2=>cases b
  rename_i B H;split at b
  case h_2=>cases b
  rename_i I K;split at b
  case isFalse=>cases b
  rename_i r;obtain rfl:=Β b;grind[K2,List.all_eq_true]
 .rename_i e p C D c d;simp only at c d;subst c;obtain rfl:=aba.1 (d: _=#[p,C,D].toList);split at b
  case isFalse=>cases b
  rename_i r;obtain rfl:=Β b;obtain⟨k,g,i,O⟩:=r;unfold C0 at k;split at k
  case h_2=>cases k
  rename_i E n;simp only[Ξ,beq_iff_eq,abC]at k;obtain⟨⟨T,V⟩,s⟩:=k;exact K0 e E p C D v F n (by rw[V];rfl) (by rw[T];rfl) s (by simp[Extern.find,V,Kf,Kg,Kh]) g i O L P S
 .rename_i e p C c d;simp only at c d;subst c;obtain rfl:=hS d;split at b
  case isFalse=>cases b
  rename_i r;obtain rfl:=Β b;obtain⟨k,g,i⟩:=r;unfold BZ at k;split at k
  case h_2=>cases k
  rename_i E n;simp only[Ξ,beq_iff_eq,abC,a9M]at k;obtain⟨⟨⟨⟨⟨⟨⟨T,V⟩,s⟩,Q⟩,X⟩,Z⟩,k3⟩,W⟩:=k;split at W
  case h_2=>cases W
  rename_i x w k4;simp only[Ξ,beq_iff_eq]at W;obtain⟨rfl,t⟩:=W;split at t
  case h_2=>cases t
  rename_i y z;obtain⟨k5,k6⟩:=a8X.1 t;have k7:=hS k4;have k8:Extern.findNext E=none:=by simp[Extern.findNext,T,Q,Ki]
  have k9:Extern.find E=β (Extern.SlicesOverlaps.overlaps #[x,x] E.resultTypes):=by simp[Extern.find,T,X,Z,k3,Kj,Kk,k7]
  exact K1 e E p C v F n s (by rw[V];rfl) k8 x _ k9 y z k5.size (by rw[k6];rfl) g i L P S
 .cases b
def Kq{r:Env}(b:xz m r o=β e3)(h:bK u a j)(k:Holds u f l)(p:G ⟨m,q⟩ e3 j f Y):bN m q o a l u f Y:=by
 unfold xz at b;split at b
 .rename_i x y z C D d;split at b
  case isFalse=>cases b
  split at b
  case h_2=>cases b
  rename_i E F;split at b
  case h_2=>cases b
  rename_i L P;split at b
  case isFalse=>cases b
  rename_i c;obtain rfl:=Β b;exact JW x y z C D d c.2.2.2.2 E F L P c.1 c.2.1 c.2.2.1 c.2.2.2.1 h k p
 .rename_i S d;exact Kp d b h k p
 .cases b
def Kr{r:Env}(b:xA m r o=β e3)(d:bK u a j)(h:Holds u f l)(k:G ⟨m,q⟩ e3 j f Y):bN m q o a l u f Y:=by
 unfold xA at b;split at b
 .rename_i p c;obtain rfl:=Β b;exact Kq c d h k
 split at b
 .rename_i p c;obtain rfl:=Β b;exact Ko c d h k
 .split at b
  .rename_i p c;obtain rfl:=Β b;exact Kn c d h k
  .exact Kd b d h k
end
structure ca where
 dst:Option Nat
 op:cc
 guard:Option (Nat×Bool)
def E(h:Ctx)(c:ca)(d:Fr)(a:U)(b:R->U->Prop):Prop:=
 match c.guard with
 |none=>G h c.op d a b
 |some (k,want)=>match d k with
  |.v (.bool o)=>if o=want then G h c.op d a b else b (.aJ []) a
  |.aJ []=>b (.aJ []) a
  |_=>False
def T(c:Ctx)(a:ca)(d:Fr->U->Prop)(b:Fr)(h:U):Prop:=E c a b h λk o=>d (dp b a.dst k) o
def je(b:Ctx):List ca->(Fr->U->Prop)->Fr->U->Prop
 |[],a=>a
 |c::d,a=>T b c (je b d a)
variable{K:Ctx}
theorem nv{b:ca}(c:∀d h,q d h->Y d h)(a:E K b j f q):E K b j f Y:=by
 unfold E at*;cases k:b.guard with
 |none=>rw[k]at a;exact Bv c a
 |some fJ=>
  obtain⟨p,r⟩:=fJ;rw[k]at a;simp only at a|-;split at a
  .split at a
   .next o=>rw[if_pos o];exact Bv c a
   simp_all
  .exact c _ _ a
  .omega
variable{k2:Fr -> U -> Prop}
def sB{b:ca}{c:Fr->U->Prop}(h:∀j d,k2 j d->c j d)(a:T K b k2 j f):T K b c j f:=nv (λ_ _ a=>h _ _ a) a
def tmpsOf(a:List Operand):Φ:=a.filterMap λ|.tmp b=>β b|_=>ε
def cc.operands:cc->List Operand
 |.fi a|.qX _ a|.nm a|.kz a|.nn a|.oC a|.oD a|.oE a|.box _ a|.lp _ a|.qW a|.pL a|.nk _ a|.load _ _ a|.qS a|.lq _ a|.pJ _ _ _ a|.len a|.qU a|.pI a|.un _ a|.jb _ a|.ext a _|.np a|.nq _ _ a=>[a]
 |.pick d h k|.qY d h k=>[d,h,k]
 |.alloc _ _|.kA=>[]
 |.kB _ _ _ a c|.oF _ a c=>[a,c]
 |.lr _ a c v=>[a,c,v]
 |.bL _ first cap=>first++cap
 |.jc a args=>a::args
 |.store _ a b|.ni _ a b|.pK _ a b|.qT _ _ a b|.dU _ a b|.pG _ _ _ a b|.mg a b|.bin _ a b|.eqv _ _ a b|.qV _ a b|.app _ _ a b|.mj _ _ a b|.mi _ _ a b|.kx _ _ _ a b|.nj _ a b|.nr _ a b|.ns _ _ _ a b|.nt a b=>[a,b]
 |.mh _ o=>o.map λp=>p.2.2
 |.kt _ xs=>xs
 |.ky _ xs=>xs
 |.pH _ a aV aU|.ku _ _ a aV aU _|.kv _ _ a aV aU=>a::(aV.toList++aU.toList)
 |.ml _ a aV aU r=>a::(aV.toList++(aU.toList++r.toList))
 |.fZ _ args=>args
def ca.reads(a:ca):Φ:=tmpsOf a.op.operands++(match a.guard with|some (b,_)=>[b]|none=>[])
def Ks{a:Fr}{b:List Operand}(d:∀c∈tmpsOf b,j c=a c)(h:N∈b):ak j N=ak a N:=by
 cases N<;>first
  |rfl
  |exact d _ (abt.2 ⟨_,h,rfl⟩)
def C1{b c:Fr}{k:Ψ->Prop}:∀(d:List (Nat×Nat×Operand))(h:Ψ),(∀a∈d,ak b a.2.2=ak c a.2.2)->(kC b h d k↔kC c h d k)
 |[],_,_=>aap
 |(off,ch,o)::r,h,p=>by
  have x:ak b o=ak c o:=p _ (aa6);simp only[kC,x];rw[C1 r _ (λa y=>p a (a9H _ y))]
theorem pP{c:Fr}{a:Option Operand}(h:∀b∈a.toList,ak j b=ak c b)(d:Nat):dd j a d=dd c a d:=by
 cases a with
 |none=>rfl
 |some b=>simp only[dd,h b acr]
theorem C2{k:Fr}(z:∀r∈tmpsOf e3.operands,j r=k r)(x:U)(y:R->U->Prop):G K e3 j x y↔G K e3 k x y:=by
 have a:∀d∈e3.operands,ak j d=ak k d:=λd C=>Ks z C;cases e3<;>simp only[cc.operands,a8E,a9n,or_false,forall_eq_or_imp,forall_eq,a8u]at a<;>simp only[G]
 case mh D E=>exact C1 E D (λF L=>a _ (a8D.2 ⟨F,L,rfl⟩))
 case kt h P=>rw[a9R a]
 case ky h P=>rw[a9R a]
 case fZ S T=>rw[a9R a]
 case jc d T=>rw[a.1,a9R a.2]
 case bL S first W=>grind[List.map_congr_left]
 case pH h d o p=>simp only[a.1,pP (λb c=>a.2 b (.inl c)),pP (λb c=>a.2 b (.inr c))]
 case ml h d o p e=>simp only[ss,a.1,pP (λb c=>a.2 b (.inl c)),pP (λb c=>a.2 b (.inr (.inl c))),pP (λb c=>a.2 b (.inr (.inr c)))]
 case ku h V d o p f=>grind[pP]
 case kv h V d o p=>grind[pP]
 all_goals simp_all
def Kt{a:ca}{h:Fr}(k:∀b∈a.reads,j b=h b)(c:U)(d:R->U->Prop):E K a j c d↔E K a h c d:=by
 have o:=λb p=>k b (aal _ p);unfold E;cases r:a.guard with
 |none=>exact C2 o c d
 |some fJ=>
  obtain⟨x,z⟩:=fJ;have y:=k x (aah _ (by simp[r]));simp only[y];split
  .split
   .exact C2 o c d
   .rfl
  .rfl
  .rfl
def Ku(c:Fr)(a:Nat)(b:R):(dp c (β a) b) a=b:=by simp[dp,mf]
theorem uD(c:Fr)(a:Option Nat)(d:R)(b:Nat)(h:a≠β b):(dp c a d) b=c b:=by
 cases a with
 |none=>rfl
 |some a=>simp[dp,mf,Δ (λk=>h (by rw[k]):a≠b)]
theorem r4(d:Fr)(a b:Option Nat)(h k:R)(o:∀c,a=β c->b≠β c):dp (dp d a h) b k=dp (dp d b k) a h:=by
 cases a with
 |none=>rfl
 |some a=>
  cases b with
  |none=>rfl
  |some b=>have r:a≠b:=λp=>o a rfl (by rw[p]);funext c;simp only[dp,mf];grind
theorem lz{b:ca}(c:Option Nat)(p:∀a,c=β a->a∉b.reads)(d:Fr)(o:R)(h:U)(k:R->U->Prop):E K b (dp d c o) h k↔E K b d h k:=
 Kt (λa r=>uD d c o a (λx=>p a x r)) h k
theorem U.dL(a:U)(d:e≠i)(b c:bt):(a.set e b).set i c=(a.set i c).set e b:=by grind[U.set]
theorem U.Kv(a:U)(c:e≠i)(b:bt):(a.set e b).del i=(a.del i).set e b:=by grind[U.set,U.del]
theorem U.uE(a:U)(b:Nat)(c:bt)(d:a b=ε):a.join (U.emp.set b c)=a.set b c:=by grind[U.join,U.set,U.emp]
theorem r5(c:U)(b:Nat)(d:bt):c.ox (U.emp.set b d)↔c b=none:=by
 constructor
 .intro a;rcases a b with a|a
  .exact a
  .simp[U.set]at a
 .intro a h;grind[U.set,U.emp]
def sC(b:Nat)(c:bt)(d:R->U->Prop):R->U->Prop:=λh k=>∃a,d h a/\a b=ε/\k=a.set b c
theorem sD(a:U)(c:bt)(d:a e=ε)(b:a.read i=β g):(a.set e c).read i=β g:=by
 have h:i≠e:=by rintro rfl;simp[U.read,d]at b
 simpa[U.read,ξ _ _ h] using b
theorem C3(a:U)(d:bt)(h:a e=ε){b:Nat×Ψ}(c:bT a i n=β b):bT (a.set e d) i n=β b:=by
 unfold bT at c|-;split
 .exact c
 grind[sD];grind[sD];simp_all
theorem Kw(a:U)(c:bt)(h:a e=ε){d:Nat×Ψ}(b:nu a i n=β d):nu (a.set e c) i n=β d:=by
 unfold nu at b|-;split
 .exact b
 .rename_i k;split at b
  .simp_all
  .exact C3 a c h b
theorem Kx(b:U)(c:bt)(h:b e=ε)(a:lv i g n b=β f):lv i g n (b.set e c)=β (f.set e c)/\f e=none:=by
 unfold lv at a|-;split at a
 .rename_i k o p r x;split at a
  case h_2=>cases a
  rename_i y d;have z:k≠e:=by rintro rfl;rw[h]at d;cases d
  split at a
  case isFalse=>cases a
  rename_i C;obtain rfl:=Β a;simp_all [ξ,U.dL,Δ]
 simp_all
 .cases a
theorem Ky(c:U)(d:bt)(h:c e=ε){o:R}(a:mm i n b6 c=β (o,f)):mm i n b6 (c.set e d)=β (o,f.set e d)/\f e=none:=by
 unfold mm at a|-;split at a
 case h_2=>cases a
 rename_i E F p;rw[C3 c d h p];simp only;split at a
 .rename_i k G r x y;split at a
  case h_2=>cases a
  rename_i z b;have C:k≠e:=by rintro rfl;rw[h]at b;cases b
  split at a
  case isFalse=>cases a
  rename_i D;simp only[a8t,a9u]at a;obtain⟨rfl,rfl⟩:=a;simp_all [ξ,U.dL,Δ]
 .rename_i k r x y;split at a
  case h_2=>cases a
  rename_i z b;have C:k≠e:=by rintro rfl;rw[h]at b;cases b
  split at a
  case isFalse=>cases a
  rename_i D;simp only[a8t,a9u]at a;obtain⟨rfl,rfl⟩:=a;simp_all [ξ,U.dL,Δ]
 simp_all
 .cases a
theorem Kz(a:U)(c:bt)(h:a e=ε){d:R}(k:lx n b6 a=β d):lx n b6 (a.set e c)=β d:=by
 have p:∀b,kD a b=ζ->kD (a.set e c) b=true:=λb o=>by
  have r:b≠e:=by rintro rfl;simp[kD,h]at o
  grind[kD,ξ]
 unfold lx at k|-;grind
variable{Z:bt}
theorem C4(d:f e=ε)(a:G K e3 j f q):G K e3 j (f.set e Z) (sC e Z q):=by
 have x:∀D,q D f->sC e Z q D (f.set e Z):=λD s=>⟨f,s,d,rfl⟩;have a00:∀(c)(L)(D),(f.set e Z) c=ε->(f c=ε->q D (f.set c L))->sC e Z q D ((f.set e Z).set c L):=λc L D i r=>by
  have b:e≠c:=by rintro rfl;simp[U.set]at i
  rw[ξ _ _ (Δ b)]at i;exact⟨_,r i,by rw[ξ _ _ b];exact d,U.dL f b Z L⟩
 cases e3<;>simp only[G]at a|-
 case fZ a01 k7=>
  have:=hQ.frame a ((r5 f e Z).2 d);rw[U.uE f e Z d]at this;refine this.mono (λD t ⟨C,u,l,m⟩=>⟨C,u,(r5 C e Z).1 l,?_⟩) (λ_ _ a=>a);rw[m,U.uE C e Z ((r5 C e Z).1 l)]
 case jc h k7=>
  split at a
  case h_2=>omega
  refine⟨a.1,?_⟩;have:=hQ.frame a.2 ((r5 f e Z).2 d);rw[U.uE f e Z d]at this;refine this.mono (λD t ⟨C,u,l,m⟩=>⟨C,u,(r5 C e Z).1 l,?_⟩) (λ_ _ a=>a);rw[m,U.uE C e Z ((r5 C e Z).1 l)]
 case np h=>grind
 case ml=>grind
 case nq y w h=>
  split at a
  case h_2=>exact a.elim
  rename_i C A;obtain⟨B,H⟩:=Kx f Z d A;rw[B];exact⟨C,a,H,rfl⟩
 case nr y h F=>
  split at a
  case h_2=>exact a.elim
  rename_i D C A;obtain⟨B,H⟩:=Ky f Z d A;rw[B];exact⟨C,a,H,rfl⟩
 case nt h F=>
  grind[Kz]
 case ns y bytes w h F=>
  grind[sD]
 case kA=>grind
 case pI h=>
  split at a
  case h_2=>omega
  next c z=>
  split at a
  case h_2=>exact a.elim
  next V W k=>
  have b:c≠e:=by rintro rfl;rw[d]at k;cases k
  rw[ξ _ _ b,k];exact x _ a
 case kB a02 X w h y=>
  split at a
  case h_2=>omega
  next c E z Y=>
  split at a
  case h_2=>exact a.elim
  next V W k=>
  have b:c≠e:=by rintro rfl;rw[d]at k;cases k
  grind[ξ,dx]
 case lr X h y v=>
  split at a
  case h_2=>omega
  next c E z Y=>
  split at a
  case h_2=>exact a.elim
  next V W k=>
  have b:c≠e:=by rintro rfl;rw[d]at k;cases k
  rw[ξ _ _ b,k];exact⟨a.1,a.2.1,_,a.2.2,by rw[ξ _ _ (Δ b)];exact d,U.dL f (Δ b) Z _⟩
 case kz h=>grind
 case oC h=>
  split at a
  case h_2=>omega
  next g z=>
  split at a
  case h_2=>exact a.elim
  next V W k=>
  have b:g≠e:=by rintro rfl;rw[d]at k;cases k
  grind[ξ]
 case oD h=>
  split at a
  case h_2=>omega
  next c P z=>
  refine⟨a.1,?_⟩;have r:=a.2;split at r
  case h_2=>trivial
  next g k8 seen k9 k=>
  split at r
  case h_2=>trivial
  next V W hm=>
  have b:c≠e:=by rintro rfl;rw[d]at k;cases k
  have I:g≠e:=by rintro rfl;rw[d]at hm;cases hm
  rw[ξ _ _ b,k];simp only;rw[ξ _ _ I,hm];simp only;exact⟨r.1,λa=>x _ (r.2.1 a),λt m n=>⟨_,r.2.2 t m n,by rw[ξ _ _ (Δ b)];exact d,U.dL f (Δ b) Z _⟩⟩
 case oE h=>
  split at a
  case h_2=>omega
  next c P z=>
  refine⟨a.1,?_⟩;have r:=a.2;split at r
  case h_2=>trivial
  next g k8 seen k9 k=>
  split at r
  case h_2=>trivial
  next V W a03 hm l0=>
  have b:c≠e:=by rintro rfl;rw[d]at k;cases k
  have I:g≠e:=by rintro rfl;rw[d]at hm;cases hm
  rw[ξ _ _ b,k];simp only;rw[ξ _ _ I,hm,l0];simp only;refine⟨r.1,?_⟩;have o:=r.2;split at o
  .exact x _ o
  .exact o.elim
 case oF X h y=>
  split at a
  case h_2=>omega
  next c E z Y=>
  split at a
  case h_2=>exact a.elim
  next V W k=>
  have b:c≠e:=by rintro rfl;rw[d]at k;cases k
  rw[ξ _ _ b,k];exact⟨a.1,a.2.1,_,a.2.2,by rw[ξ _ _ (Δ b)];exact d,U.dL f (Δ b) Z _⟩
 case nm h=>
  split at a
  case h_2=>omega
  obtain⟨l1,i,r⟩:=a;refine⟨l1,λc L l2=>?_,r⟩;have:=i c L l2;have b:c≠e:=by grind
  rw[ξ _ _ b];exact this
 case nn h=>
  split at a
  case h_2=>omega
  next c P z=>
  refine⟨a.1,?_⟩;have r:=a.2;split at r
  case h_2=>trivial
  next a04 a05 k=>
  have b:c≠e:=by rintro rfl;rw[d]at k;cases k
  rw[ξ _ _ b,k];simp only;split
  .next l3=>rw[if_pos l3]at r;exact⟨_,r,by rw[ξ _ _ (Δ b)];exact d,U.dL f (Δ b) Z _⟩
  simp_all
 case mh l4 a06=>exact x9 (λE p=>x _ p) _ _ a
 case alloc T l4=>grind
 case box T h=>simp_all
 case lp T h=>simp_all
 case kx y bytes w h F=>grind
 case mi=>grind
 case nk l5 h=>
  grind
 case ky y k3=>
  grind
 case mj y bytes h F=>
  split at a
  case h_2=>exact a.elim
  rename_i g M l6;rw[Kw f Z d l6];simp only;split at a;grind
  .next c S N O z=>
   split at a
   case h_3=>exact a.elim
   all_goals
   rename_i E p;have b:c≠e:=by rintro rfl;rw[d]at p;cases p
   rw[ξ _ _ b,p];refine⟨a.1,a.2.1,a.2.2.1,a.2.2.2.1,?_⟩;have o:=a.2.2.2.2;split
   .next n=>rw[if_pos n]at o;exact⟨_,o,by rw[ξ _ _ (Δ b)];exact d,U.dL f (Δ b) Z _⟩
   simp_all
  .next c P S N O z=>
   split at a
   case h_2=>exact a.elim
   rename_i E p;have b:c≠e:=by rintro rfl;rw[d]at p;cases p
   rw[ξ _ _ b,p];refine⟨a.1,a.2.1,a.2.2.1,a.2.2.2.1,?_⟩;have o:=a.2.2.2.2;split
   .next n=>rw[if_pos n]at o;exact⟨_,o,by rw[ξ _ _ (Δ b)];exact d,U.dL f (Δ b) Z _⟩
   simp_all
  .omega
 case ni l5 h F=>
  have k4:∀c,lu f c=ζ->lu (f.set e Z) c=true:=λc a=>by
   have b:c≠e:=by rintro rfl;simp[lu,d]at a
   unfold lu at a|-;rw[ξ _ _ b];exact a
  split at a
  .exact x _ a
  .exact x _ a
  .exact x _ a
  .exact⟨⟨k4 _ a.1.1,k4 _ a.1.2⟩,x _ a.2⟩
  .exact a.elim
 case kv y S h l7 l8=>
  split at a
  .next c P z=>
   split at a
   .refine⟨a.1,a.2.1,a.2.2.1,?_⟩;have o:=a.2.2.2;split at o
    .next E p=>
     have b:c≠e:=by rintro rfl;rw[d]at p;cases p
     grind[ξ]
    .trivial
   .omega
  .omega
 case nj y h F=>
  split at a
  .next c P S N O M l9 z n0=>
   refine⟨a.1,a.2.1,?_⟩;have o:=a.2.2;split at o
   .next E p=>
    have b:c≠e:=by rintro rfl;rw[d]at p;cases p
    rw[ξ _ _ b,p];exact⟨o.1,_,o.2,by rw[ξ _ _ (Δ b)];exact d,U.dL f (Δ b) Z _⟩
   .trivial
  .next c S N O M l9 z n0=>
   refine⟨a.1,a.2.1,?_⟩;have o:=a.2.2;split at o
   .next E p=>
    have b:c≠e:=by rintro rfl;rw[d]at p;cases p
    rw[ξ _ _ b,p];exact⟨o.1,_,o.2,by rw[ξ _ _ (Δ b)];exact d,U.dL f (Δ b) Z _⟩
   .trivial
  .omega
 case kt y k3=>
  grind
 case load a07 S h=>
  grind[sD]
 case store S h F=>
  split at a
  .next c P z=>
   split at a
   case h_2=>exact a.elim
   next p=>
    have b:c≠e:=by rintro rfl;rw[d]at p;cases p
    rw[ξ _ _ b,p];exact⟨a.1,a.2.1,_,a.2.2,by rw[ξ _ _ (Δ b)];exact d,U.dL f (Δ b) Z _⟩
  .omega
 case ku y S h l7 l8 a08=>
  split at a
  .next c P z=>
   split at a
   .refine⟨a.1,a.2.1,a.2.2.1,?_⟩;have o:=a.2.2.2;split at o
    .next E p=>
     have b:c≠e:=by rintro rfl;simp[U.read,d]at p
     rw[sD f Z d p];refine⟨o.1,?_⟩;have k5:=o.2;split
     .next s=>rw[if_pos s]at k5;exact⟨_,k5,by rw[ξ _ _ (Δ b)];exact d,U.dL f (Δ b) Z _⟩
     simp_all
    .trivial
   .omega
  .omega
 case app y bytes h F=>
  split at a<;>try exact a.elim
  rename_i k3 n1 M L _ _;refine⟨a.1,a.2.1,a.2.2.1,a.2.2.2.1,?_⟩;have o:=a.2.2.2.2;cases n1<;>simp only at o|-;grind;grind
  case buf n2 a09 _=>
   have b:n2≠e:=by rintro rfl;rw[d]at o;cases o.1
   refine⟨by rw[ξ _ _ b];exact o.1,λk6 n3 n4=>?_⟩;have Q:k6≠e:=by rintro rfl;grind[μ]
   have n5:=n4.imp id (λa=>by rwa[ξ _ _ Q]at a);refine⟨_,o.2 k6 n3 n5,by rw[ξ _ _ (Δ Q),U.eO _ (Δ b)];exact d,?_⟩;rw[U.Kv f (Δ b) Z,U.dL _ (Δ Q) Z]
 case pick=>grind
 case dU y h n9=>
  grind
 case mg h n9=>
  grind
 all_goals
  (repeat' split at a)<;>first
   |exact a.elim
   |exact x _ a
   |exact⟨a.1,x _ a.2⟩
   |exact⟨a.1,a.2.1,x _ a.2.2⟩
   |exact⟨a.1,a.2.1,a.2.2.1,x _ a.2.2.2⟩
   |exact⟨a.1,a.2.1,a.2.2.1,a.2.2.2.1,x _ a.2.2.2.2⟩
   |exact⟨a.1,a.2.1,a.2.2.1,a.2.2.2.1,a.2.2.2.2.1,x _ a.2.2.2.2.2⟩
theorem xB{b:ca}(c:f e=ε)(a:E K b j f q):E K b j (f.set e Z) (sC e Z q):=by
 have k:∀d,q d f->sC e Z q d (f.set e Z):=λd o=>⟨f,o,c,rfl⟩;unfold E at*;cases h:b.guard with
 |none=>rw[h]at a;exact C4 c a
 |some fJ=>
  obtain⟨r,x⟩:=fJ;rw[h]at a;simp only at a|-;split at a
  .split at a
   .next p=>rw[if_pos p];exact C4 c a
   simp_all
  .exact k _ a
  .omega
def nx:cc->Bool
 |.nq _ _ _|.nr _ _ _|.ns _ _ _ _ _|.nt _ _|.alloc _ _|.kA|.pI _|.kB _ _ _ _ _|.lr _ _ _ _|.kz _|.nn _|.oC _|.oD _|.oE _|.oF _ _ _|.nm _|.jc _ _|.box _ _|.lp _ _|.load _ _ _|.store _ _ _|.kt _ _|.ku _ _ _ _ _ _|.kv _ _ _ _ _|.app _ _ _ _|.fZ _ _|.kx _ _ _ _ _|.nj _ _ _|.nk _ _|.ni _ _ _|.ky _ _|.mj _ _ _ _=>θ
 |_=>ζ
def oI:cc->Bool
 |.load _ _ _|.kv _ _ _ _ _|.ni _ _ _=>ζ
 |_=>θ
def lA:cc->Bool
 |.alloc _ _|.kA|.kz _|.box _ _|.lp _ _|.kt _ _|.ky _ _|.kx _ _ _ _ _=>ζ
 |_=>θ
def C5{k:Fr}:∀(o:List (Nat×Nat×Operand))(b:Ψ) {r:Ψ->Prop},kC k b o r->∃c,∀a:Ψ->Prop,kC k b o a↔a c
 |[],b,_,_=>⟨b,λa=>aap⟩
 |(off,ch,y)::c,b,_,d=>by
  obtain⟨x,p⟩:=C5 c _ d.2.2;exact⟨x,λa=>⟨λh=>(p a).1 h.2.2,λh=>⟨d.1,d.2.1,(p a).2 h⟩⟩⟩
def C6(a:nx e3=ζ)(b:G K e3 j f q):∃k,∀(c:U)(d:R->U->Prop),G K e3 j c d↔d k c:=by
 cases e3<;>simp only[nx,a9m]at a<;>simp only[G]at b|-
 case pick=>split at b;(exact⟨_,λc d=>aap⟩);trivial
 case np=>split at b;(exact⟨_,λc d=>aap⟩);trivial
 case ml=>split at b;(exact⟨_,λc d=>aap⟩);trivial
 case mh x y=>
  obtain⟨k,o⟩:=C5 _ _ b;exact⟨.agg k,λc d=>o _⟩
 case mi=>split at b;(exact⟨_,λc d=>⟨λa=>a.2,λa=>⟨b.1,a⟩⟩⟩);trivial
 case dU z p r=>
  split at b
  .have h:=b.2;split at h
   .exact⟨_,λc d=>⟨λa=>a.2.2,λa=>⟨b.1,h.1,a⟩⟩⟩
   .trivial
  .exact⟨_,λc d=>⟨λa=>a.2.2.2,λa=>⟨b.1,b.2.1,b.2.2.1,a⟩⟩⟩
  .exact⟨_,λc d=>⟨λa=>a.2.2.2,λa=>⟨b.1,b.2.1,b.2.2.1,a⟩⟩⟩
  .trivial
 case mg p r=>
  split at b
  .have h:=b.2;split at h
   .exact⟨_,λc d=>⟨λa=>a.2,λa=>⟨b.1,a⟩⟩⟩
   .trivial
  .trivial
 all_goals
  (repeat' split at b)<;>first
   |exact b.elim
   |exact⟨_,λc d=>aap⟩
   |exact⟨_,λc d=>⟨λa=>a.2,λa=>⟨b.1,a⟩⟩⟩
   |exact⟨_,λc d=>⟨λa=>a.2.2,λa=>⟨b.1,b.2.1,a⟩⟩⟩
   |exact⟨_,λc d=>⟨λa=>a.2.2.2,λa=>⟨b.1,b.2.1,b.2.2.1,a⟩⟩⟩
   |exact⟨_,λc d=>⟨λa=>a.2.2.2.2,λa=>⟨b.1,b.2.1,b.2.2.1,b.2.2.2.1,a⟩⟩⟩
   |exact⟨_,λc d=>⟨λa=>a.2.2.2.2.2,λa=>⟨b.1,b.2.1,b.2.2.1,b.2.2.2.1,b.2.2.2.2.1,a⟩⟩⟩
def C7(a:oI e3=ζ)(b:G K e3 j f q):∃h,∀(c:R->U->Prop),G K e3 j f c↔c h f:=by
 cases e3<;>simp only[oI,a9m]at a<;>simp only[G]at b|-
 case load=>
  split at b
  .split at b
   .exact⟨_,λc=>⟨λa=>a.2,λa=>⟨b.1,a⟩⟩⟩
   .trivial
  .exact⟨_,λc=>⟨λa=>a.2,λa=>⟨b.1,a⟩⟩⟩
  .trivial
 case kv=>
  split at b
  .split at b
   .have d:=b.2.2.2;split at d
    .exact⟨_,λc=>⟨λa=>a.2.2.2.2,λa=>⟨b.1,b.2.1,b.2.2.1,d.1,a⟩⟩⟩
    .trivial
   .trivial
  .trivial
 case ni=>
  (repeat' split at b)<;>first
   |exact b.elim
   |exact⟨_,λc=>aap⟩
   |exact⟨_,λc=>⟨λa=>a.2,λa=>⟨b.1,a⟩⟩⟩
def C8(a:lA e3=ζ)(b:G K e3 j U.emp λ_ _=>True):
  (∃y,∀(c:U)(d:R->U->Prop),G K e3 j c d↔d y c)\/∃(z:Nat->R)(C:Nat->bt),∀(c:U)(d:R->U->Prop),G K e3 j c d↔ ∀r,c r=ε->d (z r) (c.set r (C r)):=by
 cases e3<;>simp only[lA,a9m]at a<;>simp only[G]at b|-
 case alloc T D=>exact .inr ⟨_,_,λc d=>aap⟩
 case kA=>exact .inr ⟨_,λ_=> _,λc d=>aap⟩
 case kz x=>split at b;(exact .inr ⟨_,λ_=> _,λc d=>aap⟩);trivial
 case box T x=>exact .inr ⟨_,λ_=> _,λc d=>⟨λa=>a.2,λa=>⟨b.1,a⟩⟩⟩
 case lp T x=>exact .inr ⟨_,λ_=> _,λc d=>⟨λa=>a.2,λa=>⟨b.1,a⟩⟩⟩
 case kx k bytes E x F=>split at b;(exact .inr ⟨λo=>.aq o _ _ k,λ_=> _,λc d=>⟨λa=>a.2.2.2.2,λa=>⟨b.1,b.2.1,b.2.2.1,b.2.2.2.1,a⟩⟩⟩);trivial
 case kt k h=>
  by_cases p:α h=0
  .simp only[if_pos p]at b|-;exact .inl ⟨_,λc d=>⟨λa=>a.2,λa=>⟨b.1,a⟩⟩⟩
  .simp only[if_neg p]at b|-;exact .inr ⟨λo=>.J (h.map (ak j)) (.buf o (α h)),λ_=>.buf k (α h) (α h),λc d=>⟨λa=>a.2,λa=>⟨b.1,a⟩⟩⟩
 case ky k h=>
  by_cases p:α h=0
  .simp only[if_pos p]at b|-;exact .inl ⟨_,λc d=>⟨λa=>a.2,λa=>⟨b.1,a⟩⟩⟩
  .simp only[if_neg p]at b|-;exact .inr ⟨λo=>.aq o (α h) (α h) k,λ_=>.cells (flat (h.map (ak j))),λc d=>⟨λa=>a.2,λa=>⟨b.1,a⟩⟩⟩
theorem C9(a:lA e3=ζ)(b:G K e3 j f q):G K e3 j U.emp λ_ _=>True:=by
 cases e3<;>simp only[lA,a9m]at a<;>simp only[G]at b|-;simp
 case kA=>simp
 case kz c=>grind
 simp_all;simp_all
 case kx=>grind
 simp_all;simp_all
def Def(a:Ctx)(b:ca)(c:Fr):Prop:=E a b c U.emp λ_ _=>True
def xC{b:ca}(k:nx b.op=ζ)(a:E K b j f q):∃p,∀(c:U)(d:R->U->Prop),E K b j c d↔d p c:=by
 unfold E at*;cases o:b.guard with
 |none=>rw[o]at a;exact C6 k a
 |some fJ=>
  obtain⟨r,x⟩:=fJ;rw[o]at a;simp only at a|-;split at a
  .split at a
   .next h=>simp only[if_pos h];exact C6 k a
   .next h=>simp only[if_neg h];exact⟨_,λc d=>aap⟩
  .exact⟨_,λc d=>aap⟩
  .trivial
theorem uF{b:ca}(h:oI b.op=ζ)(a:E K b j f q):∃o,∀(c:R->U->Prop),E K b j f c↔c o f:=by
 unfold E at*;cases k:b.guard with
 |none=>rw[k]at a;exact C7 h a
 |some fJ=>
  obtain⟨p,r⟩:=fJ;rw[k]at a;simp only at a|-;split at a
  .split at a
   .next d=>simp only[if_pos d];exact C7 h a
   .next d=>simp only[if_neg d];exact⟨_,λc=>aap⟩
  .exact⟨_,λc=>aap⟩
  .trivial
theorem KA{b:ca}(c:lA b.op=ζ)(a:E K b j f q):Def K b j:=by
 unfold Def;unfold E at*;cases d:b.guard with
 |none=>rw[d]at a;exact C9 c a
 |some fJ=>
  obtain⟨k,o⟩:=fJ;rw[d]at a;simp only at a|-;split at a
  .split at a
   .next h=>rw[if_pos h];exact C9 c a
   .simp_all
  .trivial
  .trivial
def Cb{d:ca}(o:lA d.op=ζ)(a:Def K d j):
  (∃r,∀(b:U)(c:R->U->Prop),E K d j b c↔c r b)\/∃(x:Nat->R)(y:Nat->bt),∀(b:U)(c:R->U->Prop),E K d j b c↔ ∀h,b h=ε->c (x h) (b.set h (y h)):=by
 unfold Def at a;unfold E at*;cases p:d.guard with
 |none=>rw[p]at a;exact C8 o a
 |some fJ=>
  obtain⟨z,C⟩:=fJ;rw[p]at a;simp only at a|-;split at a
  .split at a
   .next k=>simp only[if_pos k];exact C8 o a
   .next k=>simp only[if_neg k];exact .inl ⟨_,λb c=>aap⟩
  .exact .inl ⟨_,λb c=>aap⟩
  .trivial
structure dj where
 i:Nat
 pre:Φ
 jU:Φ
section
variable(P:Ctx)(xs:Nat->ca)
def hs(a:Nat)(b:Fr)(c:U):Prop:=
 match(xs a).dst with
 |some d=>E P (xs a) b c λh _=>h=b d
 |none=>True
def can(c:Fr->U->Prop):List dj->Fr->U->Prop
 |[]=>c
 |a::o=>λd p=>(∀b∈a.pre,Def P (xs b) d)/\T P (xs a.i) (λh k=>(∀b∈a.jU,hs P xs b h k)/\can c o h k) d p
def clear(a:Option Nat)(b:Φ):Bool:=match a with|some c=> !b.contains c|none=>ζ
def mu(a b:Option Nat):Bool:=match a,b with|some c,β d=>c !=d|_,_=>ζ
def indep(a b:dj)(d:Φ):Bool:=
  clear (xs a.i).dst (xs b.i).reads&&clear (xs b.i).dst (xs a.i).reads&&mu (xs a.i).dst (xs b.i).dst&&
  b.jU.all (λc=>c==a.i||d.contains c||(clear (xs a.i).dst (xs c).reads&&mu (xs a.i).dst (xs c).dst))&&
  ((a.pre.isEmpty&&a.jU.isEmpty&&(nx (xs a.i).op||(oI (xs a.i).op&&((nx (xs b.i).op||oI (xs b.i).op||lA (xs b.i).op)||(b.jU.contains a.i&&clear (xs a.i).dst (xs a.i).reads&&(xs a.i).dst.isSome)))))||
   (b.jU.isEmpty&&(nx (xs b.i).op||lA (xs b.i).op)&&a.pre.contains b.i&&a.pre.all (λc=>clear (xs b.i).dst (xs c).reads)&&
     a.jU.all (λc=>clear (xs b.i).dst (xs c).reads&&mu (xs b.i).dst (xs c).dst)))
variable{P xs}
theorem sE{b:Option Nat}{c:Φ}(d:clear b c=ζ):∀a,b=β a->a∉c:=by intro a h;subst h;simpa[clear] using d
theorem Cc{a b:Option Nat}(d:mu a b=ζ):∀c,a=β c->b≠β c:=by grind[mu]
theorem Cd{a:Option Nat}(h:clear a (xs e).reads=ζ)(k:mu a (xs e).dst=ζ)(b:Fr)(d:R)(c:U):hs P xs e (dp b a d) c↔hs P xs e b c:=by
 unfold hs;cases o:(xs e).dst with
 |none=>rfl
 |some p=>grind[lz,sE,uD,Cc]
theorem KB(b:f i=ε)(a:hs P xs e j f):hs P xs e j (f.set i Z):=by
 unfold hs at*;cases c:(xs e).dst with
 |none=>trivial
 |some h=>rw[c]at a;exact nv (λk o ⟨p,d,_,_⟩=>d) (xB b a)
def Pass(a:Nat->ca)(b:dj):List dj->Prop
 |[]=>True
 |d::c=>indep a d b (c.map (·.i))=ζ/\Pass a b c
theorem Ce{C:Fr->U->Prop}(h:dj)(e:List dj):∀(p:List dj),Pass xs h p->(p.map (·.i)).Nodup->∀(k:Fr)(o:U),can P xs C (p++h::e) k o->
  T P (xs h.i) (λS d=>(∀a∈h.jU,a∉p.map (·.i)->hs P xs a S d)/\can P xs C (p++e) S d) k o
 |[],_,_,k,o,q=>sB (λS d D=>⟨λa y _=>D.1 a y,D.2⟩) q.2
 |r::p,hk,a00,k,o,q=>by
  have A:=hk.1;have Z:(p.map (·.i)).Nodup:=by simp_all
  have k3:r.i∉p.map (·.i):=by simp_all
  have ih:=Ce (C:=C) h e p hk.2 Z;obtain⟨k4,B⟩:=q;simp only[indep,Ξ]at A;obtain⟨⟨⟨⟨k5,k6⟩,a3⟩,a4⟩,H⟩:=A;have i:=sE k5;have c2:=sE k6;have aD:=Cc a3;have a01:∀a∈h.jU,a≠r.i->a∉p.map (·.i)->clear (xs r.i).dst (xs a).reads=ζ/\mu (xs r.i).dst (xs a).dst=true:=λa y a02 a03=>by
   grind
  have W:T P (xs r.i) (λS d=>(∀a∈r.jU,hs P xs a S d)/\T P (xs h.i) (λI K=>(∀a∈h.jU,a∉p.map (·.i)->hs P xs a I K)/\can P xs C (p++e) I K) S d) k o:=
   sB (λS d D=>⟨D.1,ih S d D.2⟩) B
  clear B ih;simp only[a9U,Ξ]at H;rcases H with⟨⟨k7,k8⟩,k9⟩|⟨⟨⟨⟨l0,l1⟩,l2⟩,a04⟩,a05⟩
  .
   have l3:=abF.1 k7;have a06:=abF.1 k8;have j:∀(x:R)(b:R)(d:U),(∀G,E P (xs r.i) k d G↔G x d)->
     ((∀a∈h.jU,a∉p.map (·.i)->hs P xs a (dp (dp k (xs r.i).dst x) (xs h.i).dst b) d)/\can P xs C (p++e) (dp (dp k (xs r.i).dst x) (xs h.i).dst b) d)->
     (∀a∈h.jU,a∉(r::p).map (·.i)->hs P xs a (dp k (xs h.i).dst b) d)/\can P xs C (r::p++e) (dp k (xs h.i).dst b) d:=λx b d V g=>by
    rw[r4 k _ _ x b aD]at g;refine⟨λa y l4=>?_,?_⟩
    .simp only[a8C,a8E,not_or]at l4;grind[Cd]
    .refine⟨by rw[l3];simp,?_⟩;simp_all [T,lz]
   rcases k9 with l5|⟨l6,l7⟩
   .obtain⟨x,V⟩:=xC l5 W;have s:=(V o _).1 W;have c:=s.2;unfold T at c|-;rw[lz _ i]at c;exact nv (λb d g=>j x b d (λG=>V d G) g) c
   .obtain⟨x,V⟩:=uF l6 W;have s:=(V _).1 W;have c:=s.2;unfold T at c|-;rw[lz _ i]at c;rcases l7 with t|⟨⟨l8,l9⟩,n0⟩
    .rcases t with t|M
     case inr=>
      rcases Cb M (KA M c)with⟨b,z⟩|⟨f,l,z⟩
      .rw[z]at c|-;exact j x b o V c
      .rw[z]at c|-;intro F m;refine j x (f F) _ ?_ (c F m);have n1:E P (xs r.i) k o λu _=>u=x:=(V _).2 rfl;have a07:=nv (λ_ _ ⟨_,D,_,_⟩=>D) (xB (Z:=l F) m n1);grind[uF]
     have L:∃b,∀G:R->U->Prop,E P (xs h.i) k o G↔G b o:=by
      rcases t with L|L
      .obtain⟨b,z⟩:=xC L c;exact⟨b,λG=>z o G⟩
      .exact uF L c
     obtain⟨b,z⟩:=L;rw[z]at c|-;exact j x b o V c
    .refine nv (λb d g=>?_) c;have n2:=g.1 r.i (by simpa using l8) k3;obtain⟨a08,N⟩:=a8X.1 n0;have a09:E P (xs r.i) k d λu _=>u=x:=by have:=n2;rw[r4 k _ _ x b aD]at this;unfold hs at this;rw[N]at this;simp only at this;rw[Ku,<-N,lz _ (sE l9),lz _ c2]at this;exact this
     grind[uF]
  .
   have O:=abF.1 l0;have Q:=k4 h.i (by simpa using l2);have n3:(∃x,∀(o:U)(C:R->U->Prop),E P (xs h.i) k o C↔C x o)\/∃(f:Nat->R)(l:Nat->bt),∀(o:U)(C:R->U->Prop),E P (xs h.i) k o C↔ ∀F,o F=ε->C (f F) (o.set F (l F)):=by
    rcases l1 with L|L
    .exact .inl (xC L Q)
    .exact Cb L Q
   have X:∀b,∀a∈r.pre,Def P (xs a) (dp k (xs h.i).dst b):=λb a y=>by
    grind[Def,lz,sE,List.all_eq_true]
   have a10:∀a∈r.jU,∀(w)(b)(n),hs P xs a w n->hs P xs a (dp w (xs h.i).dst b) n:=λa y w b n D=>by
    simp_all [Ξ,Cd]
   unfold T at W;rcases n3 with⟨b,z⟩|⟨f,l,z⟩
   .unfold T;rw[z];refine⟨λa y=>(by rw[O]at y;cases y),X b,?_⟩;unfold T;rw[lz _ c2];refine nv (λv n4 D=>?_) W;have c:=D.2;rw[lz _ i,z,r4 k _ _ v b aD]at c;refine⟨λa y=>?_,c.2⟩;grind[r4]
   .unfold T;rw[z];intro F m;refine⟨λa y=>(by rw[O]at y;cases y),X (f F),?_⟩;unfold T;rw[lz _ c2];refine nv (λv n n5=>?_) (xB m W);obtain⟨n4,D,n9,rfl⟩:=n5;have c:=D.2;rw[lz _ i,z]at c;have Y:=c F n9;rw[r4 k _ _ v (f F) aD]at Y;refine⟨λa y=>?_,Y.2⟩;grind[r4,KB]
def uG(a:Nat->Φ):Nat->Φ->Nat->Φ
 |0,acc,_=>acc
 |d+1,acc,b=>uG a d (acc++[(a b).foldl (λh c=>h|||2^c|||acc.getD c 0) 0]) (b+1)
def dep(a:Φ)(b c:Nat):Bool:=(a.getD c 0).testBit b
def kE(c:Nat->ca)(d:Φ)(a:dj):Φ->List dj->Bool
 |_,[]=>ζ
 |h,b::k=>(dep d a.i b.i||indep c a b h)&&kE c d a (h++[b.i]) k
def ny(a:Nat->ca)(b:Φ):List dj->Bool
 |[]=>ζ
 |d::c=>kE a b d [] c&&ny a b c
def jf(a:Array Oper)(b:Nat):Φ:=
 match a[b]? with
 |some c=>(c.after.toList.filter λd=>Region.binds .any d).map (·.on)
 |none=>[]
def uH(k:Ctx)(o:Nat->ca)(b:Array Oper)(h:Fr->U->Prop):Nat->Array Bool->Fr->U->Prop
 |0,a,c,d=>Region.ready .any b a=[]/\h c d
 |fuel+1,a,c,d=>(Region.ready .any b a=[]->h c d)/\∀p∈Region.ready .any b a,T k (o p) (uH k o b h fuel (a.setIfInBounds p ζ)) c d
def Cf(b:Array Oper)(c:Array Bool):Prop:=∀a,a<b.size->c.getD a ζ=ζ->∀d∈jf b a,c.getD d θ=ζ
theorem xD{a:Array Oper}:i∈jf a e↔ ∃b,a[e]?=β b/\∃c∈b.after,Region.binds .any c=ζ/\c.on=i:=by unfold jf;grind
theorem xE{a:Array Oper}{b:Array Bool}:e∈Region.ready .any a b↔b.getD e ζ=θ/\e<a.size/\∀d∈jf a e,b.getD d θ=true:=by
 rw[mem_ready];constructor
 .rintro⟨c,z,x,h⟩;refine⟨c,(a9o.1 x).1,λd y=>?_⟩;obtain⟨C,D,k,o,p,rfl⟩:=xD.1 y;simp_all
 .rintro⟨c,r,h⟩;exact⟨c,a[e],aa2 r,λk o p=>h _ (xD.2 ⟨_,aa2 r,k,o,p,rfl⟩)⟩
theorem KC(c:Φ)(h:Φ)(d:Nat):∀a,(c.foldl (λa b=>a|||2^b|||h.getD b 0) a).testBit d=ζ->a.testBit d=ζ\/∃b∈c,d=b\/(h.getD b 0).testBit d=true:=by
 induction c with
 |nil=>intro a k;exact .inl k
 |cons o c ih=>grind
def Bits(h:Nat->Φ)(d:Φ):Prop:=∀a b,dep d b a=ζ->∃c∈h a,b=c\/(dep d b c=ζ/\c<a)
theorem Cg{h:Nat->Φ}(F:∀b a,a∈h b->a<b):∀(x:Nat)(c:Φ)(d:Nat),α c=d->Bits h c->Bits h (uG h x c d)
 |0,c,d,_,y=>y
 |x+1,c,d,z,y=>by
  refine Cg F x _ (d+1) (by simp[z]) λb G k=>?_;have C:∀b,b<d->(c++[(h d).foldl (λo a=>o|||2^a|||c.getD a 0) 0]).getD b 0=c.getD b 0:=λb p=>by
   grind
  unfold dep at k|-;rcases abz b d with p|p|p
  .rw[C b p]at k;obtain⟨a,D,r⟩:=y b G k;refine⟨a,D,r.imp id λE=>⟨?_,E.2⟩⟩;rw[C a acq];exact E.1
  .subst p;have L:(c++[(h b).foldl (λo a=>o|||2^a|||c.getD a 0) 0]).getD b 0=(h b).foldl (λo a=>o|||2^a|||c.getD a 0) 0:=by rw[<-z];simp
   rw[L]at k;rcases KC _ _ _ _ k with r|⟨a,D,r⟩
   .simp at r
   grind
  grind
theorem KD{h:Array Oper}{d:Array Bool}{x:Φ}(y:Bits (jf h) x)(z:Cf h d)(L:d.size=h.size):∀(k a b:Nat),b<=k->dep x a b=ζ->(∀c∈jf h b,d.getD c θ=ζ)->d.getD a θ=true:=by
 intro k
 induction k with
 |zero=>
  intro a b C r o;obtain⟨c,p,rfl|⟨_,D⟩⟩:=y b a r
  .exact o _ p
  .omega
 |succ k ih=>
  intro a b C r o;obtain⟨c,p,rfl|⟨E,D⟩⟩:=y b a r
  .exact o _ p
  .have F:=o c p;have G:c<d.size:=by grind
   refine ih a c acq E (z c acq ?_);simpa[G] using F
def Ch{k:Φ}{c d:dj}{o:List dj}:∀ {h:List dj}{b:Φ},kE xs k c b (h++d::o)=ζ->dep k c.i d.i=ζ\/indep xs c d (b++h.map (·.i))=ζ
 |[],b,a=>by
  simp only[a8y,kE,Ξ,a9U]at a;simpa using a.1
 |p::h,b,a=>by
  simp only[a9v,kE,Ξ]at a;have:=Ch a.2;simpa using this
theorem Ci{d:Φ}{b:dj}{k:List dj}:∀ {a:List dj},ny xs d (a++b::k)=ζ->(∀h∈a,dep d h.i b.i=θ)->Pass xs b a
 |[],_,_=>trivial
 |h::a,c,o=>by
  simp only[a9v,ny,Ξ]at c;refine⟨?_,Ci c.2 (λp r=>o p (a9H _ r))⟩;have:=Ch c.1;simp_all
theorem KE{a c:dj}{d h:Φ}(k:indep xs a c d=ζ)(o:∀b,b∈d->b∈h\/(clear (xs a.i).dst (xs b).reads=ζ/\mu (xs a.i).dst (xs b).dst=ζ)):indep xs a c h=true:=by simp only[indep,Ξ]at k|-;grind
theorem Cj{o:Φ}{c:dj}:∀ {d:List dj}{h k:Φ},kE xs o c h d=ζ->(∀a,a∈h->a∈k\/(clear (xs c.i).dst (xs a).reads=ζ/\mu (xs c.i).dst (xs a).dst=ζ))->kE xs o c k d=ζ
 |[],_,_,_,_=>rfl
 |p::d,h,k,b,hm=>by
  simp only[kE,Ξ,a9U]at b|-;refine⟨b.1.imp id (λb=>KE b hm),Cj b.2 λa r=>?_⟩;grind
theorem Ck{k:Φ}{b d:dj}{o:List dj}(p:clear (xs b.i).dst (xs d.i).reads=ζ/\mu (xs b.i).dst (xs d.i).dst=ζ):∀ {h:List dj}{c:Φ},kE xs k b c (h++d::o)=ζ->kE xs k b c (h++o)=ζ
 |[],c,a=>by
  simp only[a8y,kE,Ξ]at a|-;refine Cj a.2 λr x=>?_;grind
 |r::h,c,a=>by
  simp only[a9v,kE,Ξ]at a|-;exact⟨a.1,Ck p a.2⟩
def Cl{d:Φ}{h:dj}{k:List dj}:∀ {b:List dj},ny xs d (b++h::k)=ζ->Pass xs h b->ny xs d (b++k)=ζ
 |[],a,_=>by simp only[a8y,ny,Ξ]at a|-;exact a.2
 |p::b,a,o=>by
  simp only[a9v,ny,Ξ]at a|-;have c:=o.1;simp only[indep,Ξ]at c;exact⟨Ck ⟨c.1.1.1.1,c.1.1.2⟩ a.1,Cl a.2 o.2⟩
theorem KF{k:Array Oper}{V:Φ}(q:Bits (jf k) V)(s:∀a c,c∈jf k a->c<a):∀(y:Nat)(b:Array Bool)(d:List dj),b.size=k.size->α d<=y->
  (∀a,a∈d.map (·.i)↔(a<k.size/\b.getD a ζ=θ))->(d.map (·.i)).Nodup->ny xs V d=ζ->Cf k b->∀z C,can P xs k2 d z C->uH P xs k k2 y b z C:=by
 have t:∀(b:Array Bool)(d:List dj),b.size=k.size->(∀a,a∈d.map (·.i)↔(a<k.size/\b.getD a ζ=θ))->Region.ready .any k b=[]->d=[]:=λb d D r W=>by
  cases d with
  |nil=>rfl
  |cons h X=>
   exfalso;have u:∀G a,a<=G->a<k.size->b.getD a ζ=θ->∃c,c∈Region.ready .any k b:=by
    intro G
    induction G with
    |zero=>intro a e o p;refine⟨a,xE.2 ⟨p,o,λc x=>?_⟩⟩;have:=s a c x;omega
    |succ G ih=>
     intro a e o p;by_cases v:∀c∈jf k a,b.getD c θ=ζ
     .exact⟨a,xE.2 ⟨p,o,v⟩⟩
     grind
   obtain⟨o,p⟩:=(r h.i).1 acr;obtain⟨c,x⟩:=u h.i h.i (a8P _) o p;rw[W]at x;cases x
 intro y
 induction y with
 |zero=>intro b d D g r _ _ _ z C L;have:d=[]:=a8q acq;subst this;refine⟨?_,L⟩;simp_all [Region.ready]
 |succ y ih=>
  intro b d D g r w i j z C L;refine⟨λW=>?_,λa e=>?_⟩
  .have:=t b d D r W;subst this;exact L
  .obtain⟨o,p,l⟩:=xE.1 e;have A:=(r a).2 ⟨p,o⟩;obtain⟨h,B,rfl⟩:=a8D.1 A;obtain⟨E,S,rfl⟩:=aav B;have H:(E.map (·.i)++h.i::S.map (·.i)).Nodup:=by simpa using w
   have I:(E.map (·.i)).Nodup:=(abA.1 H).1;have m:=Ci i λF f=>by
    cases K:dep V F.i h.i with
    |false=>rfl
    |true=>exfalso;have Y:=KD q j D h.i F.i h.i (a8P _) K l;grind
   have M:=Ce h S E m I z C L;refine sB (λN O Q=>?_) M;refine ih (b.setIfInBounds h.i ζ) (E++S) (by simp[D]) (by simp at g|-;omega) (λc=>?_) ?_ (Cl i m) ?_ N O Q.2
   .have Z:h.i∉(E++S).map (·.i):=by grind
    by_cases T:h.i=c;simp_all
    .rw[getD_set_ne ζ T,<-r c];grind
   grind
   .intro c x n F f;by_cases T:h.i=c
    .subst T;exact getD_set_true (l F f)
    .rw[getD_set_ne ζ T]at n;exact getD_set_true (j c x n F f)
end
inductive gi where
 |norm
 |exit (id:Nat)
 |ret
inductive dV where
 |skip
 |plain (ops:List ca)
 |draw (ops:List ca) (order:List dj)
 |seq (a b:dV)
 |cond (c:Operand) (a b:dV)
 |block (id:Nat) (a:dV)
 |loop (a:dV)
 |exit (id:Nat)
 |ret
 |refuse
def nth(a:List ca)(b:Nat):ca:=a.getD b {dst:=ε,op:=.fi (.const (.bool ζ)),guard:=ε}
def eY(a:Fr->U->Prop)(b:gi->Fr->U->Prop):gi->Fr->U->Prop
 |.norm=>a
 |c=>b c
def lB(id:Nat)(a:gi->Fr->U->Prop):gi->Fr->U->Prop
 |.exit b=>if b=id then a .norm else a (.exit b)
 |c=>a c
def bW(c:Ctx):dV->(gi->Fr->U->Prop)->Fr->U->Prop
 |.skip,a=>a .norm
 |.plain ops,a=>je c ops (a .norm)
 |.draw ops order,a=>can c (nth ops) (a .norm) order
 |.seq h k,a=>bW c h (eY (bW c k a) a)
 |.cond z h k,a=>λb d=>match ak b z with
  |.v (.bool p)=>(p=ζ->bW c h a b d)/\(p=θ->bW c k a b d)
  |_=>False
 |.block id h,a=>bW c h (lB id a)
 |.loop h,a=>λb d=>∃(o:Fr->U->Prop)(r:Fr->U->Nat),o b d/\∀b d,o b d->bW c h (eY (λx y=>o x y/\r x y<r b d) a) b d
 |.exit id,a=>a (.exit id)
 |.ret,a=>a .ret
 |.refuse,_=>λ_ _=>False
def xF(a:Array Oper)(b:Oper):Option (Option (Nat×Bool)):=
 match b.guard with
 |none=>β ε
 |some (c,want)=>match(a[c]?).bind (·.dst)with
  |some d=>β (β (d,want))
  |none=>ε
def Cm(a:Nat):Option Nat->Bool
 |some b=>decide (b<a)
 |none=>ζ
def xG(a:Φ):Option Nat->Bool
 |some b=> !a.contains b
 |none=>ζ
def r6(c:Program)(b:Env)(d:Nat)(h:Array Oper)(a:Oper):Option ca:=
 match xA c b a,xF h a with
 |some k,β o=>if Cm d a.dst=ζ/\xG b.pins a.dst=ζ then β {dst:=a.dst,op:=k,guard:=o}else ε
 |_,_=>ε
def fC{a b:Type}(c:a->Option b):List a->Option (List b)
 |[]=>β []
 |d::h=>match c d,fC c h with
  |some k,β o=>β (k::o)
  |_,_=>ε
def xH(b:Nat->Φ)(c:Φ)(d:Nat->Bool)(left:Φ):Option Nat:=left.find? λa=>(b a).all (λh=>c.contains h)&&d a
def Cn(b:Nat->Φ)(c:Nat->ca):Nat->Φ->Φ->Φ
 |0,_,_=>[]
 |fuel+1,done,left=>
  match(xH b done (λa=>nx (c a).op||oI (c a).op) left).or ((xH b done (λa=> !lA (c a).op) left).or (xH b done (λ_=>ζ) left))with
  |some a=>a::Cn b c fuel (a::done) (left.filter (·!=a))
  |none=>[]
def Co(a:ca):Bool:=nx a.op||oI a.op
def marks(a:Nat->ca)(d:Nat->Nat->Bool):Φ->Φ->List dj
 |_,[]=>[]
 |ahead,b::h=>
  let k:=if Co (a b)then []else h.filter λc=>(lA (a c).op||nx (a c).op)&& !d b c
  let o:=if Co (a b)||lA (a b).op then []else ahead.filter λc=>oI (a c).op&& !d c b
  ⟨b,k,o⟩::marks a d (ahead++[b]) h
def Cp(a:Array Oper)(b:Nat->ca):List dj:=
 marks b (dep (uG (jf a) a.size [] 0)) [] (Cn (jf a) b a.size [] (χ a.size))
def xI(a:Array Oper)(d:Nat->ca)(b:List dj):Bool:=
 (χ a.size).all (λc=>(jf a c).all (λh=>decide (h<c)))&&decide (α b<=a.size)&&(χ a.size).all (λc=>(b.map (·.i)).contains c)&&b.all (λk=>decide (k.i<a.size))&&
  decide ((b.map (·.i)).Nodup)&&ny d (uG (jf a) a.size [] 0) b
def uI:Code->List Oper
 |.region _ ops _=>ops.toList
 |.seq a b|.cond _ a b=>uI a++uI b
 |.block _ a|.loop a=>uI a
 |_=>[]
def sF(a:Φ):Operand->Bool
 |.tmp b=>a.contains b
 |_=>θ
def derive(a:Φ):List Oper->Φ
 |[]=>a
 |d::h=>match d.op,d.dst with
  |.fieldAddr _ b _,β c|.indexAddr _ b _,β c|.nilCheck b,β c=>derive (if sF a b then c::a else a) h
  |_,_=>derive a h
def KG(a:Φ)(b:Oper):Bool:=
 match b.op with
 |.fieldAddr _ _ _|.indexAddr _ _ _|.nilCheck _|.load _ _|.slice _ _ _ _ _=>θ
 |op=>op.operands.toList.any (sF a)
def KH(a:Φ)(b:Oper):Bool:=
 match b.op with
 |.slice _ c _ _ _=>sF a c
 |_=>θ
def KI(a:Φ)(h:Oper):Φ:=
 let p (a:Φ) (b:Operand):Φ:=match b with|.tmp k=>if a.contains k then a else k::a|_=>a
 let c (b:Operand):Φ:=match h.dst with
  |some d=>if a.contains d then p a b else if sF a b then(if a.contains d then a else d::a)else a
  |none=>a
 match h.op with
 |.move b|.assign b=>c b
 |.slice _ b _ _ _=>c b
 |.call o=>match o.callee,o.args.toList with
  |.builtin .append,[b,_]=>c b
  |_,_=>a
 |_=>a
def xJ(b:List Oper):Nat->Φ->Φ
 |0,a=>a
 |d+1,a=>let c:=b.foldl KI a;if α c=α a then a else xJ b d c
def Cq(c:Program)(a:List Oper):Φ:=
 a.filterMap λb=>match b.op,b.dst with
  |.indexAddr d (.tmp h) _,β k=>if !(match c.underlying d with|some (.slice _)=>ζ|_=>θ)then ε else let o:=derive [k] a;if a.any (λp=>match p.op with|.store _ r _=>sF o r|_=>θ)then β h else ε
  |_,_=>ε
def KJ(b:Program)(c:Φ)(a:Oper):Bool:=
 match a.op,a.dst with
 |.convert st _ _,β d=>(match b.underlying st with|some .string=>ζ|_=>θ)&&c.contains d
 |_,_=>θ
def KK(d:Program)(b:Code):Env:=
 let a:=uI b
 let h:=(a.filterMap λc=>match c.op with|.box _ _=>c.dst|_=>ε).filter λo=>let k:=derive [o] a;a.any (KH k)&& !a.any (KG k)
 {jR:=h,BS:=derive h a,wr:=a.filterMap λc=>match c.op with|.call b=>(match b.callee,b.args.toList with|.builtin .copy,.tmp p:: _=>β p|_,_=>ε)|_=>ε,uA:=xJ a 40 (Cq d a),ty:=θ,mr:=a.any (KJ d (xJ a 40 (Cq d a)))}
def gT(b:Program)(a:Env)(c:Nat):Code->Option dV
 |.skip=>β .skip
 |.region _ ops θ=>match fC (r6 b a c ops) ops.toList with
  |some xs=>β (.plain xs)
  |none=>if a.BT=ζ then β .refuse else ε
 |.region _ ops ζ=>match fC (r6 b a c ops) ops.toList with
  |some xs=>if xI ops (nth xs) (Cp ops (nth xs))=ζ then β (.draw xs (Cp ops (nth xs)))else ε
  |none=>ε
 |.seq d h=>match gT b a c d,gT b a c h with
  |some k,β o=>β (.seq k o)
  |_,_=>ε
 |.cond p d h=>match gT b a c d,gT b a c h with
  |some k,β o=>if aM p=ζ then β (.cond p k o)else ε
  |_,_=>ε
 |.block id d=>(gT b a c d).map (.block id)
 |.loop d=>(gT b a c d).map .loop
 |.exit id=>β (.exit id)
 |.ret=>β .ret
 |.refuse _=>β .refuse
 |_=>ε
def pQ(a:List Deferred×List (Nat×Value))(b:Act):Prop:=b.defers=a.1/\∀c∈a.2,b.tmps.getD c.1 undef=c.2
theorem pQ.put{d:List Deferred×List (Nat×Value)}{a:Act}(h:pQ d a){b:Option Nat}{v:Value}{k:Φ}(p:∀c∈d.2,c.1∈k)(r:xG k b=ζ):pQ d (a.put b v):=by
 refine⟨by rw[<-h.1];cases b<;>rfl,λc o=>?_⟩;cases b with
 |none=>exact h.2 c o
 |some b=>
  have x:c.1≠b:=by rintro rfl;grind[xG,Bool.not_eq_true',decide_eq_false_iff_not]
  rw[<-h.2 c o];simp_all [Act.put,Δ]
def hT(c:List Deferred×List (Nat×Value))(d:Nat)(h:bk)(k:U)(o:World)(p:Fr)(r:U)(a:Act)(x:World):Prop:=
 a.tmps.size=d/\pQ c a/\∃b,bK b a p/\Step h k o b r x
def post(h:List Deferred×List (Nat×Value))(D:R->U->Prop)(r:Nat)(k:bk)(o:U)(p:World)(x:gi->Fr->U->Prop):Exit->Act->World->Prop
 |.normal,b,d=>∃a c,hT h r k o p a c b d/\x .norm a c
 |.exit id,b,d=>∃a c,hT h r k o p a c b d/\x (.exit id) a c
 |.ret,b,d=>∃a c,hT h r k o p a c b d/\x .ret a c
 |.panic E,b,d=>pQ h b/\∃v z y C,E=[{v,recovered:=θ}]/\Step k o p y C d/\bb y v z/\up D z C/\∃a,bK y b a
 |_,_,_=>False
variable{b5:FuncId}
section
variable{env:Env}{D:List Deferred×List (Nat×Value)}
def size_put(a:Act)(b:Option Nat)(v:Value):(a.put b v).tmps.size=a.tmps.size:=by cases b<;>simp[Act.put]
theorem Cr{c o:Type}{p:c->Option o}:∀ {d:List c}{b:List o},fC p d=β b->α d=α b/\∀(r:Nat)(h:c),d[r]?=β h->∃k,b[r]?=β k/\p h=β k
 |[],b,a=>by simp only[fC,a8t]at a;simp_all
 |h::y,b,a=>by
  simp only[fC]at a;split at a
  case h_2=>cases a
  rename_i k z C x;obtain rfl:=Β a;obtain⟨E,F⟩:=Cr x;grind
theorem KL{h:Array Oper}{o:Oper}{z:Option (Nat×Bool)}(c:xF h o=β z){a:Act}(E:bK u a j):
  match z with
  |none=>Region.wanted o (yielded h a.tmps)=ζ
  |some (b,C)=>(∀p,j b=.v (.bool p)->Region.wanted o (yielded h a.tmps)=(p==C))/\(j b=.aJ []->Region.wanted o (yielded h a.tmps)=θ):=by
 unfold xF at c;split at c
 .rename_i x;obtain rfl:=Β c;simp[Region.wanted,x]
 .rename_i F C x;split at c
  case h_2=>cases c
  rename_i b G;obtain rfl:=Β c;have d:=E b;refine⟨λp y=>?_,λy=>?_⟩
  .rw[y]at d;have k:=d.ds;have S:a.tmps[b]?=β (.bool p):=by
    rw[a9g]at k;cases r:a.tmps[b]? with
    |none=>rw[r]at k;cases k
    |some L=>rw[r]at k;simpa using k
   grind[yielded,Region.wanted]
  .rw[y]at d;have P:yielded h a.tmps F=none:=by
    unfold yielded;rw[G];simp only[Option.bind_some];cases r:a.tmps[b]? with
    |none=>rfl
    |some L=>rw[a9g,r]at d;simp only[a9W]at d;cases d;rfl
   simp[Region.wanted,x,P]
theorem Cs(L:∀A∈D.2,A.1∈env.pins){P:Array Oper}{b:Oper}{S:ca}(p:r6 m env e P b=β S){d:Act}(B:hT D e u f l j s d j3)(H:T ⟨m,q⟩ S k2 j s)(x:Exit->Act->World->Prop)(I:∀v k o a h,(∃j,bK o d j)->Step u f l o a h->bb o v k->up q k a->x (.panic [{v,recovered:=θ}]) d h):
  if Region.wanted b (yielded P d.tmps)then b.wp m d j3 (λy h=>∃c a,hT D e u f l c a y h/\k2 c a) x else∃c a,hT D e u f l c a (d.put b.dst undef) j3/\k2 c a:=by
 obtain⟨V,W,g,r,z⟩:=B;unfold r6 at p;split at p
 case h_2=>cases p
 rename_i K k3 M N;split at p
 case isFalse=>cases p
 rename_i i;obtain rfl:=Β p;have n:∀C,b.dst=β C->C<d.tmps.size:=λC k4=>by grind[Cm]
 have k5:=KL N r;have k6:G ⟨m,q⟩ K j s (λk a=>k2 (dp j b.dst k) a)->b.wp m d j3 (λy h=>∃c a,hT D e u f l c a y h/\k2 c a) x:=λO=>by
  have:=Kr M r z.holds O x (λv k o a h t Q X=>I v k o a h ⟨j,r.mono t.le⟩ (z.trans t) Q X);refine Oper.wp_mono (λy h Y=>?_) this;obtain⟨v,o,a,k,rfl,w,Z,F⟩:=Y;exact⟨dp j b.dst k,a,⟨by rw[size_put];exact V,W.put L i.2,o,(r.mono w.le).put b.dst n Z,z.trans w⟩,F⟩
 have k7:k2 (dp j b.dst (.aJ [])) s->∃c a,hT D e u f l c a (d.put b.dst undef) j3/\k2 c a:=λF=>
  ⟨dp j b.dst (.aJ []),s,⟨by rw[size_put];exact V,W.put L i.2,g,r.put b.dst n (bb.undef g),z⟩,F⟩
 unfold T E at H;grind
theorem Ct(F:∀T∈D.2,T.1∈env.pins){G:Array Oper}{o:Exit->Act->World->Prop}{L:Fr->U->Prop}(P:∀b c a d,hT D e u f l b c a d->L b c->o .normal a d)(S:∀a v p k r x,(pQ D a/\∃b,bK k a b)->Step u f l k r x->bb k v p->up q p r->o (.panic [{v,recovered:=θ}]) a x):∀(y:List Oper)(z:List ca),fC (r6 m env e G) y=β z->
  ∀(b:Fr)(c:U)(a:Act)(d:World),hT D e u f l b c a d->je ⟨m,q⟩ z L b c->wpList m G o y a d
 |[],z,h,b,c,a,d,C,E=>by
  simp only[fC,a8t]at h;subst h;exact P b c a d C E
 |n::y,z,h,b,c,a,d,C,E=>by
  simp only[fC]at h;split at h
  case h_2=>cases h
  rename_i s V W g;obtain rfl:=Β h;have ih:=Ct F P S y V g;have:=Cs F W C E o (λv p k r x i=>S a v p k r x ⟨C.2.1,i⟩);simp only[wpList];split
  .rename_i j;rw[if_pos j]at this;grind[Oper.wp_mono]
  grind
def xK(G:∀w∈D.2,w.1∈env.pins){y:Array Oper}{z:Exit->Act->World->Prop}{j:Fr->U->Prop}(C:∀b d a c,hT D e u f l b d a c->j b d->z .normal a c)(L:∀a v E o h k,(pQ D a/\∃b,bK o a b)->Step u f l o h k->bb o v E->up q E h->z (.panic [{v,recovered:=θ}]) a k){P:List ca}(S:fC (r6 m env e y) y.toList=β P):
  ∀(p:Nat)(F:Array Bool)(b:Fr)(d:U)(a:Act)(c:World),hT D e u f l b d a c->uH ⟨m,q⟩ (nth P) y j p F b d->wpAny m .any y z p F a c
 |0,F,b,d,a,c,r,x=>⟨x.1,C b d a c r x.2⟩
 |p+1,F,b,d,a,c,r,x=>by
  refine⟨λA=>C b d a c r (x.1 A),λT n=>?_⟩;have s:=x.2 T n;obtain⟨_,B,t,_⟩:=mem_ready.1 n;obtain⟨H,I,K⟩:=(Cr S).2 T B (by simpa using t);have M:nth P T=H:=by simp[nth,I]
  rw[M]at s;have:=Cs G K r s z (λv E o h k N=>L a v E o h k ⟨r.2.1,N⟩);unfold wpOp;simp only[t];split
  .rename_i V;rw[if_pos V]at this;exact .inl (Oper.wp_mono (λO k ⟨W,h,g,i⟩=>xK G C L S p _ W h O k g i) this)
  .rename_i V;rw[if_neg V]at this;obtain⟨W,h,g,i⟩:=this;exact xK G C L S p _ W h _ c g i
theorem KM{a:Array Oper}{d:Nat->ca}{h:List dj}(c:xI a d h=ζ)(p:can K d k2 h j f):uH K d a k2 a.size (Array.replicate a.size θ) j f:=by
 simp only[xI,Ξ,a8A,decide_eq_true_eq,a9C]at c;obtain⟨⟨⟨⟨⟨E,F⟩,G⟩,L⟩,x⟩,y⟩:=c;have r:∀b k,k∈jf a b->k<b:=λb k P=>by
  grind[xD,Array.getElem?_eq_some_iff]
 refine KF (Cg r a.size [] 0 rfl (λb z c=>by simp[dep]at c)) r a.size _ h acr acq (λb=>?_) x y (λb o C=>?_) j f p
 .constructor
  .intro o;obtain⟨z,p,rfl⟩:=a8D.1 o;simp_all
  simp_all
 .simp[o]at C
def pR(L:m.follows .mixedOrders=ζ)(G:∀k6∈D.2,k6.1∈env.pins):∀(r:Code)(x:dV),gT m env e r=β x->∀(p:gi->Fr->U->Prop)(b:Fr)(c:U)(d:Act)(k:World),hT D e u f l b c d k->bW ⟨m,q⟩ x p b c->r.wp m (post D q e u f l p) d k
 |.skip,x,a,p,b,c,d,k,h,c3=>by
  simp only[gT,a8t]at a;subst a;exact wp_skip ⟨b,c,h,c3⟩
 |.region id ops k7,x,a,p,b,c,d,k,h,c3=>by
  cases k7 with
  |false=>
   simp only[gT]at a;split at a
   case h_2=>
    split at a
    .obtain rfl:=Β a;trivial
    .cases a
   rename_i Y n;obtain rfl:=Β a;refine wp_region_list ?_;exact Ct G (λb c d k h y=>⟨b,c,h,y⟩) (λd v s t z E F P w A=>⟨F.1,v,s,t,z,rfl,P,w,A,F.2⟩) ops.toList Y n b c d k h c3
  |true=>
   simp only[gT]at a;split at a
   case h_2=>cases a
   rename_i Y n;split at a
   case isFalse=>cases a
   rename_i k8;obtain rfl:=Β a;refine wp_region_any L ?_;obtain⟨k9,l0,l1,l2,Z⟩:=h;exact xK G (λb c d k h y=>⟨b,c,h,y⟩) (λd v s t z E F P w A=>⟨F.1,v,s,t,z,rfl,P,w,A,F.2⟩) n ops.size _ b c d _ ⟨k9,l0,l1,l2,Z.trans (Step.drew Z.holds)⟩ (KM k8 c3)
 |.seq c1 c2,x,a,p,b,c,d,k,h,c3=>by
  simp only[gT]at a;split at a
  case h_2=>cases a
  rename_i cu cp F P;obtain rfl:=Β a;refine wp_seq (wp_mono (pR L G c1 cu F _ b c d k h c3) λC S E o=>?_);cases C with
  |normal=>obtain⟨T,z,V,y⟩:=o;exact pR L G c2 cp P p T z S E V y
  |exit id=>exact o
  |ret=>exact o
  |goto k3=>exact o
  |panic B=>exact o
  |outgrown=>exact o
 |.cond r c1 c2,x,a,p,b,c,d,k,h,c3=>by
  simp only[gT]at a;split at a
  case h_2=>cases a
  rename_i cu cp F P;split at a
  case isFalse=>cases a
  rename_i l3;obtain rfl:=Β a;simp only[bW]at c3;split at c3
  case h_2=>trivial
  rename_i n9 l4;have k4:=(h.2.2.choose_spec.1).ak r l3;rw[l4]at k4;refine wp_cond_split k4.ds (λH=>?_) (λH=>?_)
  .exact pR L G c1 cu F p b c d k h (c3.1 H)
  .exact pR L G c2 cp P p b c d k h (c3.2 H)
 |.block id r,x,a,p,b,c,d,k,h,c3=>by
  simp only[gT]at a;obtain⟨I,K,rfl⟩:=aaJ.1 a;refine wp_block (wp_mono (pR L G r I K _ b c d k h c3) λC S E o=>?_);cases C with
  |normal=>exact o
  |exit a00=>
   obtain⟨T,z,V,y⟩:=o;simp only[Exit.inBlock];simp only[lB]at y;split
   .rename_i M;rw[if_pos M]at y;exact⟨T,z,V,y⟩
   .rename_i M;rw[if_neg M]at y;exact⟨T,z,V,y⟩
  |ret=>exact o
  |goto k3=>exact o
  |panic B=>exact o
  |outgrown=>exact o
 |.loop r,x,a,p,b,c,d,k,h,c3=>by
  simp only[gT]at a;obtain⟨I,K,rfl⟩:=aaJ.1 a;obtain⟨l5,k5,N,l6⟩:=c3;intro O Q X;have l7:∀g b c d k,k5 b c=g->l5 b c->hT D e u f l b c d k->
    ∃C S E,post D q e u f l p C S E/\Arrives m (lone (O.at d (.code r::.inLoop r::Q)) X k) O Q X C S E:=by
   intro g
   induction g using Nat.strongRecOn with
   |_ g ih=>
    intro b c d k l8 N h;obtain⟨C,i,j,o,W⟩:=pR L G r I K _ b c d k h (l6 b c N) O (.inLoop r::Q) X;cases C with
    |normal=>obtain⟨T,z,V,l9,n0⟩:=o;obtain⟨n1,n2,n3,n4,n5⟩:=ih (k5 T z) (l8▸n0) T z i j rfl l9 V;exact⟨n1,n2,n3,n4,.of_steps (Steps.trans W (.one step_inLoop)) n5⟩
    |exit id=>exact⟨.exit id,i,j,o,.pass rfl (λ_ _=>.inl acr) W⟩
    |goto k3=>trivial
    |ret=>exact⟨.ret,i,j,o,.pass rfl (λ_ _=>.inl acr) W⟩
    |panic B=>exact⟨.panic B,i,j,o,.pass rfl (λ_ _=>.inl acr) W⟩
    |outgrown=>trivial
  obtain⟨C,S,E,o,W⟩:=l7 _ b c d k rfl N h;exact⟨C,S,E,o,.of_steps (.one step_loop) W⟩
 |.exit id,x,a,p,b,c,d,k,h,c3=>by
  simp only[gT,a8t]at a;subst a;exact wp_exit ⟨b,c,h,c3⟩
 |.ret,x,a,p,b,c,d,k,h,c3=>by
  simp only[gT,a8t]at a;subst a;exact wp_ret ⟨b,c,h,c3⟩
 |.refuse a01,x,a,p,b,c,d,k,h,c3=>by
  simp only[gT,a8t]at a;subst a;trivial
structure ar where
 ntmps:Nat
 nparams:Nat
 code:dV
 results:List (Nat×Option (Bool×Nat))
def r7(b:Program):ResultVar->Option (Nat×Option (Bool×Nat))
 |.tmp a=>β (a,ε)
 |.cell d a=>match b.underlying a,jT b a with
  |some c,β e=>if c.isRow=ζ\/e=1 then β (d,β (c.isRow,e))else ε
  |_,_=>ε
def Env.all(a:Env)(c:Nat)(b:Nat):Env:=
 match c with
 |1=> {a with uA:=χ b}
 |2=> {a with ty:=ζ}
 |5=> {a with BT:=ζ}
 |6=> {a with uA:=χ b,xn:=ζ}
 |_=>a
def dz(a:Program)(c:Nat)(d:FuncId):Option ar:=
 match a.funcs[d]? with
 |some fn=>match fn.body with
  |some b=>match gT a ((KK a b).all c fn.ntmps) fn.ntmps b,fC (r7 a) fn.results.toList with
   |some h,β rs=>if fn.params.size<=fn.ntmps then β ⟨fn.ntmps,fn.params.size,h,rs⟩else ε
   |_,_=>ε
  |none=>ε
 |none=>ε
def gj(b:Fr)(c:U):Nat×Option (Bool×Nat)->Option R
 |(a,ε)=>β (b a)
 |(a,β (agg,e))=>match b a with
  |.ptr d off=>match c.read d with
   |some cs=>if off+e<=α cs then β (aQ agg e (cs.drop off))else ε
   |none=>ε
  |_=>ε
def jg(a:Fr)(b:U)(c:List (Nat×Option (Bool×Nat))):Option R:=
 match fC (gj a b) c with
 |some [d]=>β d
 |some h=>β (.aJ h)
 |none=>ε
def r8(d:ar)(h:R->U->Prop):gi->Fr->U->Prop
 |.exit _,_,_=>False
 |_,k,a=>∃b c,jg k a d.results=β b/\c.sub a/\h b c
def mv(a:Ψ):Fr:=λb=>a.getD b (.aJ [])
def sG(b:Array Value):ResultVar->Sem Value
 |.tmp a=>pure (b.getD a undef)
 |.cell c a=>do loadVar a (<-asAddr (b.getD c undef))
theorem KN{o:Act}{p:ResultVar}{k:Nat×Option (Bool×Nat)}(z:bb u (o.tmps.getD k.1 undef) (j k.1))(P:Holds u f l)(d:r7 m p=β k)(b:gj j f k=β n):
  ∃v,(sG o.tmps p).run m l=.ok v l/\bb u v n:=by
 cases p with
 |tmp r=>simp only[r7,a8t]at d;subst d;simp only[gj,a8t]at b;subst b;exact⟨_,rfl,z⟩
 |cell C r=>
  simp only[r7]at d;split at d
  case h_2=>cases d
  rename_i x e E S;split at d
  case isFalse=>cases d
  rename_i V;obtain rfl:=Β d;simp only[gj]at b;split at b
  case h_2=>cases b
  rename_i h a W;split at b
  case h_2=>cases b
  rename_i I g;split at b
  case isFalse=>cases b
  rename_i i;obtain rfl:=Β b;have F:bb u (o.tmps.getD C undef) (j C):=z;rw[W]at F;have q:=F.iE;obtain⟨s,c,T,K,t,G⟩:=P.read g;have M:=G.1;cases y:x.isRow with
  |true=>
   have w:l.rangeAt h a ((c.toList.drop a).take e):=by intro N v O;grind[cell_of_row]
   have A:((c.toList.drop a).take e).length=e:=acs;have L:=run_loadVar_mid l h a r ((c.toList.drop a).take e) x w E y (by rw[A];exact S);refine⟨.agg ((c.toList.drop a).take e).toArray,by simp only[sG,Sem.run_bind,q,asAddr,Sem.run_pure,Result.andThen_ok,L],?_⟩;rw[show((c.toList.drop a).take e).toArray=c.extract a (a+e) by grind];exact bb.aQ G s a e i
  |false=>
   obtain rfl:=uC V y;have B:a<c.size:=acq;have H:l.cell? ⟨h,a,ε⟩=β (c.getD a undef):=by rw[cell_of_row l h a c T _ t];simp[B]
   have L:=xc l r x ⟨h,a,ε⟩ _ E y H;grind[undef,sG,Sem.run_bind,asAddr,Sem.run_pure,Result.andThen_ok,bb.xb]
theorem Cu{p:bk}{E:Fr}{F:U}{G:Act}{r:World}(L:Holds p F r):∀(k:List ResultVar)(c:List (Nat×Option (Bool×Nat)))(d:Ψ),(∀o∈c,bb p (G.tmps.getD o.1 undef) (E o.1))->fC (r7 m) k=β c->fC (gj E F) c=β d->
  ∃h:List Value,(k.mapM (sG G.tmps)).run m r=.ok h r/\α h=α d/\∀(x:Nat)(y:Value)(z:R),h[x]?=β y->d[x]?=β z->bb p y z
 |[],c,d,C,a,b=>by
  simp only[fC,a8t]at a;subst a;simp only[fC,a8t]at b;simp_all
 |j::k,c,d,C,a,b=>by
  simp only[fC]at a;split at a
  case h_2=>cases a
  rename_i o P S T;obtain rfl:=Β a;simp only[fC]at b;split at b
  case h_2=>cases b
  rename_i l V W e;obtain rfl:=Β b;obtain⟨v,n,q⟩:=KN (C o acr) L S W;obtain⟨h,s,f,t⟩:=Cu L k P V (λg i=>C g (by simp[i])) T e;refine⟨v::h,?_,by simp[f],λx y z u w=>?_⟩;simp_all;grind
theorem KO{k:Act}{c:Func}{o:List (Nat×Option (Bool×Nat))}(L:∀F∈o,bb u (k.tmps.getD F.1 undef) (j F.1))(P:Holds u f l)(S:fC (r7 m) c.results.toList=β o)(p:jg j f o=β n):
  ∃v,(results c k.tmps).run m l=.ok v l/\bb u v n:=by
 unfold jg at p;have G:∀d,fC (gj j f) o=β d->∃a:Array Value,(results c k.tmps).run m l=.ok (if T:a.size=1 then a[0]else .tuple a) l/\α a.toList=α d/\∀(x)(y)(z),a.toList[x]?=β y->d[x]?=β z->bb u y z:=λd r=>by
  obtain⟨a,b,C,h⟩:=Cu P c.results.toList o d L S r;refine⟨a.toArray,?_,by trivial,λx y z e V=>h x y z (by trivial) V⟩;have W:results c k.tmps=(do let a <-c.results.mapM (sG k.tmps);pure (if T:a.size=1 then a[0]else .tuple a)):=rfl;rw[W,Sem.run_bind,Array.mapM_eq_mapM_toList,Sem.run_map];rw[b];rfl
 split at p
 .rename_i g r;obtain rfl:=Β p;obtain⟨a,b,C,h⟩:=G _ r;have E:a.size=1:=by trivial
  rw[dif_pos E]at b;refine⟨_,b,h 0 _ _ ?_ rfl⟩;simp
 .rename_i d i r;obtain rfl:=Β p;obtain⟨a,b,C,h⟩:=G _ r;have E:a.size≠1:=by grind[List.length_eq_one_iff]
  rw[dif_neg E]at b;exact⟨_,b,.aJ _ _ (bw.ed.2 ⟨C,h⟩).1 (bw.ed.2 ⟨C,h⟩).2⟩
 .cases p
theorem KP(A:m.follows .mixedOrders=ζ){C:ar}(b:dz m e b5=β C)(B:α g<=C.ntmps)(s:bW ⟨m,Y⟩ C.code (r8 C q) (mv g) f):hQ m b5 g f q (up Y):=by
 intro h r o t H;unfold dz at b;split at b
 case h_2=>cases b
 rename_i p I;split at b
 case h_2=>cases b
 rename_i K M;split at b
 case h_2=>cases b
 rename_i N O Q X;split at b
 case isFalse=>cases b
 rename_i k8;obtain rfl:=Β b;simp only at B s;refine calls_of_wp I M ?_;have u:=t.1;have Z:hT ([],[]) p.ntmps o f r (mv g) f {tmps:=h++Array.replicate (p.ntmps - h.size) undef,defers:=[]} r:=by
  refine⟨acs,⟨rfl,λS T=>by simp at T⟩,o,λc=>?_,.refl H⟩;by_cases E:c<α g
  .have V:mv g c=g[c]:=by simp[mv,E]
   rw[V];have:=t.2 c g[c] (Μ E);have W:(h++Array.replicate (p.ntmps - h.size) undef).getD c undef=h.getD c undef:=by simp[ac1,u,E]
   rw[W];exact this
  .have V:mv g c=.aJ []:=by simp[mv,E]
   rw[V];have W:(h++Array.replicate (p.ntmps - h.size) undef).getD c undef=undef:=by simp only[a9g,ac1,u];grind
   rw[W];exact bb.undef o
 refine wp_mono (pR A (λS T=>by simp at T) K N Q _ _ _ _ _ Z s) λk3 i x F=>?_;have w:(∃G y,hT ([],[]) p.ntmps o f r G y i x/\∃a L,jg G y O=β a/\L.sub y/\q a L)->
   i.defers=[]/\∃v,(results p i.tmps).run m x=.ok v x/\((∃z a d k,Ending.returned v=.returned z/\Step o f r d k x/\bb d z a/\q a k)\/(∃z a d k,Ending.returned v=.panicked [{v:=z,recovered:=θ}]/\Step o f r d k x/\bb d z a/\up Y a k)):=by
  rintro⟨G,y,⟨_,j,d,k4,P⟩,a,L,k5,k6,l⟩;obtain⟨v,k7,n⟩:=KO (λS _=>k4 S.1) P.holds X k5;exact⟨j.1,v,k7,.inl ⟨v,a,d,L,rfl,P.drop k6,n,l⟩⟩
 cases k3 with
 |normal=>exact w F
 |ret=>exact w F
 |exit id=>obtain⟨G,y,_,k9⟩:=F;trivial
 |goto l0=>trivial
 |panic l1=>obtain⟨j,v,a,d,k,rfl,P,n,l,_⟩:=F;exact⟨j.1,.inr ⟨v,a,d,k,rfl,P,n,l⟩⟩
 |outgrown=>trivial
def KQ(b:m.follows .mixedOrders=ζ){a:ar}(c:dz m e b5=β a)(d:α g<=a.ntmps)(h:bW (Ctx.of m) a.code (r8 a q) (mv g) f):AC m b5 g f q:=
 (KP b c d h).IK
end
abbrev aH(a:Nat):Operand:=.tmp a
abbrev mw(a:Int):Operand:=.const (.int .i64 a)
abbrev r9:Operand:=.const (.bool θ)
abbrev KR:Operand:=.const (.slice ε 0 0)
abbrev bH(a:Nat)(b:cc):ca:=⟨β a,b,ε⟩
abbrev on(a:cc):ca:=⟨ε,a,ε⟩
abbrev fj(a:Nat)(b:Bool)(c:Nat)(d:cc):ca:=⟨β c,d,β (a,b)⟩
abbrev aA(a b:Nat):ca:=⟨β a,.fi (.tmp b),ε⟩
abbrev cI(a:Nat)(b:BinOp)(c d:Nat):ca:=⟨β a,.bin b (.tmp c) (.tmp d),ε⟩
abbrev fD(a:Nat)(b:BinOp)(c:Nat)(d:Int):ca:=⟨β a,.bin b (.tmp c) (.const (.int .i64 d)),ε⟩
abbrev pS(a b:Nat):ca:=⟨β a,.len (.tmp b),ε⟩
abbrev bj(a:Nat):dj:=⟨a,[],[]⟩
end Go.bD
