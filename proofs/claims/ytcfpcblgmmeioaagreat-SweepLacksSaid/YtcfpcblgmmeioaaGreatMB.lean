import Derived.Test.YtcfpcblgmmeioaaGreatMA
import Derived.Lib.Overlaps
import Derived.Laws.Externs
import Derived.KernelRfl
set_option linter.all false
open Option renaming some->β,none->ζ
open List renaming replicate->ε,range->ω,take_of_length_le->Ε,getElem?_eq_some_iff->Ζ,length->α
open Bool renaming true->η,false->ι
open Go.bD.U renaming ai->ξ,an->ο
namespace Go.bD
open Go
variable{n b5:R}{t Z:R -> U -> Prop}{j:Fr}{f s e0:U}{g H c0:ύ}{e i v M b9 j1:Nat}{u:bn}{m:Program}{e5:Value}{l h9:World}
section
variable{o:Oper}{a:Act}
def Jz(x:TypeId)(b:Operand)(y:o.op=.call {callee:=.builtin .cap,args:=#[b],argTypes:=#[x]})(F:TypeId)(z:m.underlying x=β (.slice F))(L:aQ b=η)(P:bP u a j)(C:Holds u f l)(h:G ⟨m,t⟩ (.mX b) j f Z):bV m t o a l u f Z:=by
 have c:=P.al b L;simp only[G]at h;generalize D:a.eval b=W at c;split at h
 case h_2=>trivial
 rename_i e d;unfold rW at d;split at d
 .rename_i S T k E p;rw[p]at c;obtain rfl:=Δ d;cases c with
  |aq S T k E hk V=>exact .same C (by simp[execOp,y,resolve,invoke,builtin,D,Builtin.cap_,run_underlying z,goInt]) (.v _ rfl) h
 .rename_i p;rw[p]at c;obtain rfl:=Δ d;cases c with
  |di g k dv bZ r=>simp only[Own.lY]at r;subst r;have:=bZ rfl;subst this;exact .same C (by simp[execOp,y,resolve,invoke,builtin,D,Builtin.cap_,run_underlying z,goInt]) (.v _ rfl) h
  |J i off len k E n xs dv hk hlen V q s hH v r=>trivial
 .cases d
theorem JA(z p:Nat)(x r d:Option Operand)(h b c:Int)(C:(x=ζ/\h=0)\/∃k,valOf a x=β (.int k h))(D:(r=ζ/\b=z)\/∃k,valOf a r=β (.int k b))(L:(d=ζ/\c=p)\/∃k,valOf a d=β (.int k c))
  (P:d=ζ\/r.isSome=η) (S:0<=h) (T:h<=b) (j:b<=c) (l:c<=p) (E:World):(Instr.sliceBounds η z p (valOf a x) (valOf a r) (valOf a d)).run m E=.ok (h.toNat,b.toNat,c.toNat) E:=by
 have n:(b.toNat)=b:=a8V δ;have q:(c.toNat)=c:=a8V δ;have V:0<=b:=δ;have s:0<=c:=δ;have W:b<=(p):=δ;have y:valOf a ζ=none:=rfl;rcases L with⟨rfl,rfl⟩|⟨t,hm⟩
 .rcases C with⟨rfl,rfl⟩|⟨e,F⟩<;>rcases D with⟨rfl,rfl⟩|⟨f,G⟩
  .rfl
  .simp only[Instr.sliceBounds,y,G];simp[run_sliceBound,W,V]
  .simp only[Instr.sliceBounds,y,F];simp[run_sliceBound,S,T]
  simp_all [Instr.sliceBounds,run_sliceBound]
 .have g:d≠none:=by rintro rfl;rw[y]at hm;cases hm
  have i:=P.resolve_left g;rcases D with⟨rfl,rfl⟩|⟨f,G⟩
  .simp at i
  rcases C with⟨rfl,rfl⟩|⟨e,F⟩;simp_all [Instr.sliceBounds,run_sliceBound];simp_all [Instr.sliceBounds,run_sliceBound]
def JB(k3:TypeId)(V:Operand)(z D E:Option Operand)(k5:o.op=.slice k3 V z D E)(k6:E=ζ\/D.isSome=η)(Y:TypeId)(k7:m.underlying k3=β (.slice Y))(W:Nat)(H:(m.info? Y).map (·.size)=β W)(k8:aQ V=η)(I:z.all aQ=η)(K:D.all aQ=η)(M:E.all aQ=η)
  (p:bP u a j) (N:Holds u f l) (e:G ⟨m,t⟩ (.mf W V z D E) j f Z):bV m t o a l u f Z:=by
 have r:=p.al V k8;have O:∀(g)(len k:Nat)(c h d:Int),((z=ζ/\c=0)\/∃n,valOf a z=β (.int n c))->((D=ζ/\h=len)\/∃n,valOf a D=β (.int n h))->((E=ζ/\d=k)\/∃n,valOf a E=β (.int n d))->0<=c->c<=h->h<=d->d<=k->
   a.eval V=.slice g len k->(execOp a.eval o).run m l=.ok (.value (sliced g c.toNat h.toNat d.toNat W)) l:=by
  intro g len k c h d q F L s v w x i;have k4:=JA (m:=m) len k z D E c h d q F L k6 s v w x l;simp only[valOf]at k4;cases j9:m.info? Y with
  |none=>simp[j9]at H
  |some ii=>
   have k9:ii.size=W:=by simpa[j9] using H
   simp[execOp,k5,i,Instr.sliceAt,Instr.slice,run_underlying k7,k4,sizeOf,typeInfo,j9,k9,sliced]
 simp only[G]at e;generalize i:a.eval V=l7 at r;split at e
 case h_2=>trivial
 rename_i C b;unfold rX at b;split at b
 .rename_i A len k Q P;rw[P]at r;split at b
  case h_2=>cases b
  rename_i c h d y S hm;split at b
  case isFalse=>cases b
  rename_i x;obtain⟨rfl,s,v,w,k0⟩:=x;obtain rfl:=Δ b;have q:=gk p I y;have F:=gk p K S;have L:=gk p M hm;cases r with
  |aq A l0 k Q X k1=>
   have C:=O _ len k c h d (by trivial) F L s v w k0 i;refine .same N C ?_ e;cases z with
   |none=>
    simp only[dc,a7y]at y;subst y;simp only[a9a,a8o,if_false];have:sliced (β ⟨A,0,ζ⟩) ((0:Nat):Int).toNat h.toNat d.toNat Q=.slice (β ⟨A,0,ζ⟩) h.toNat d.toNat:=by unfold sliced;simp[Addr.add]
    rw[this];exact .aq _ _ _ _ X δ
   |some z=>
    simp only[a9K,if_true];by_cases B:c<d
    .rw[if_pos B];unfold sliced;rw[if_neg δ,a8u,hA,a7Q];exact .bE _ _ _ _ _ X δ
    .rw[if_neg B];unfold sliced;have:h.toNat - c.toNat=0:=δ;rw[this];exact .di _ _ _ (λl1=>by omega) (show d.toNat - c.toNat=0 by omega)
 .rename_i A k2 len k Q P;rw[P]at r;split at b
  case h_2=>cases b
  rename_i c h d y S hm;split at b
  case isFalse=>cases b
  rename_i x;obtain⟨rfl,s,v,w,k0⟩:=x;obtain rfl:=Δ b;have q:=gk p I y;have F:=gk p K S;have L:=gk p M hm;cases r with
  |bE A k2 l0 k Q X k1=>
   have C:=O _ len k c h d (by trivial) F L s v w k0 i;refine .same N C ?_ e;by_cases B:c<d
   .rw[if_pos B];unfold sliced;rw[if_neg δ,a8u,hA];exact .bE _ _ _ _ _ X δ
   .rw[if_neg B];unfold sliced;have:h.toNat - c.toNat=0:=δ;rw[this];exact .di _ _ _ (λl1=>by omega) (show d.toNat - c.toNat=0 by omega)
 .rename_i P;rw[P]at r;split at b
  case h_2=>cases b
  rename_i c h d y S hm;split at b
  case isFalse=>cases b
  rename_i x;obtain⟨rfl,rfl,rfl⟩:=x;obtain rfl:=Δ b;have q:=gk p I y;have F:=gk p K S;have L:=gk p M hm;cases r with
  |di g k dv bZ T=>simp only[Own.lY]at T;subst T;have:=bZ rfl;subst this;have C:=O ζ 0 0 0 0 0 (by trivial) (by trivial) (by trivial) δ δ δ δ i;exact .same N C (.di _ _ .nil (λ_=>rfl) rfl) e
  |J l2 k2 len k W l3 xs dv H hlen k1 l4 l5 hH l6 T=>trivial
 .rename_i P;rw[P]at r;split at b
  case h_2=>cases b
  rename_i c h d y S hm;split at b
  case isFalse=>cases b
  rename_i x;obtain⟨rfl,rfl,rfl⟩:=x;obtain rfl:=Δ b;have q:=gk p I y;have F:=gk p K S;have L:=gk p M hm;cases r with
  |di g k dv bZ T=>simp only[Own.lY]at T;subst T;have C:=O g 0 0 0 0 0 (by trivial) (by trivial) (by trivial) δ δ δ δ i;refine .same N C ?_ e;unfold sliced;exact .di _ _ .zero (λ_=>rfl) rfl
  |J l2 k2 len k W l3 xs dv H hlen k1 l4 l5 hH l6 T=>trivial
 .cases b
theorem wR{b:Array Value}(k:b.size=e)(F:∀c∈b.toList,c.oneCell'=η)(C:0<e)(d:Nat):bx u (Builtin.zeroCells b d) (ε d (b.toList.map cv)).flatten/\(∀r∈(ε d (b.toList.map cv)).flatten,r.one=η):=by
 have x:(b.toList.map cv).length=e:=by simp[k]
 refine⟨bx.dZ.2 ⟨by simp[size_zeroCells],λy c G h D=>?_⟩,λr p=>?_⟩
 .have z:y<d*e:=by grind[Ζ,lu]
  rw[wN _ _ _ (by rw[x];exact z),x,a7R]at D;rw[a8X]at h;have L:y%e<b.size:=by rw[k];exact a9t _ C
  simp only[Builtin.zeroCells,k]at h;rw[Array.getElem?_map]at h;simp only[abl,z,if_true,a8u,a7y]at h;grind[Array.getElem?_eq_getElem,Option.some.injEq,aZ.cv]
 .obtain⟨P,E,p⟩:=aaN.1 p;obtain rfl:=(List.mem_replicate.1 E).2;obtain⟨c,_,rfl⟩:=a7G.1 p;exact o5 c
theorem JC(P:TypeId)(h:Operand)(C:o.op=.call {callee:=.builtin .clear,args:=#[h],argTypes:=#[P]})(S:TypeId)(D:m.underlying P=β (.slice S))(p:TypeInfo)(w:m.info? S=β p)(c:Value)(A:p.zero=β c)(V:c.cells.size=p.size)(W:∀h∈c.cells.toList,h.oneCell'=η)(e:0<p.size)
  (B:aQ h=η) (H:bP u a j) (g:Holds u f l) (z:G ⟨m,t⟩ (.mY p.size (c.cells.toList.map cv) h) j f Z):bV m t o a l u f Z:=by
 have r:=H.al h B;simp only[G]at z;generalize E:a.eval h=k4 at r;split at z
 case h_2=>trivial
 rename_i k5 d;unfold lq at d;split at d
 .rename_i x k b F I L;rw[L]at r;split at d
  case h_2=>cases d
  rename_i k6 K;split at d
  case isFalse=>cases d
  rename_i M;obtain⟨rfl,N⟩:=M;obtain rfl:=Δ d;obtain⟨i,n⟩:=wR (u:=u) V W e b;have q:(ε b (c.cells.toList.map cv)).flatten.length=b*p.size:=by rw[lu];simp[V]
  obtain⟨y,T,s,k7,O⟩:=Step.store g K k _ _ i n (by rw[q];exact N);refine .value (v:=.tuple #[]) ?_ O (.undef _) z;have v:=run_storeCells_at m x k T (Builtin.zeroCells c.cells b).toList 0 y l s (by have:=i.1;simp only[aaz];omega) (Bl W b);simp only[a9p]at v;have Q:(storeCells ⟨x,k,ζ⟩ (Builtin.zeroCells c.cells b).toList).run m l=.ok () (l.setRow x (df y k (Builtin.zeroCells c.cells b).toList)):=by rw[v];rfl
  cases r with
  |bE x k b F I k8 X=>
   cases b with
   |zero=>
    have Y:(Builtin.zeroCells c.cells 0).toList=[]:=a7t (by simp[size_zeroCells]);have j9:df y k []=y:=by simp[df]
    rw[Y,j9];have k0:=setRow_self l x y T (0,0) s;simp[execOp,C,resolve,invoke,builtin,E,Builtin.clear_,run_underlying D,k0]
   |succ b=>simp[execOp,C,resolve,invoke,builtin,E,Builtin.clear_,run_underlying D,zeroValue,w,A,typeInfo,Q]
 .rename_i k9 L;rw[L]at r;obtain rfl:=Δ d;have k1:(execOp a.eval o).run m l=.ok (.value (.tuple #[])) l:=by
   cases r with
   |di k2 F dv bZ k3=>cases k2<;>simp[execOp,C,resolve,invoke,builtin,E,Builtin.clear_,run_underlying D]
   |J l0 k len F l1 l2 xs dv e q X l3 n hH l4 k3=>simp_all [execOp,resolve,invoke,builtin,Builtin.clear_,run_underlying]
  exact .same g k1 (.undef _) z
 .cases d
theorem JD(G:aZ u e5 n)(K:Holds u f l)(c:bW f e n=β (i,g))(y:Program)(b:Nat)(x:b<=i):
  ∃z:List Value,(Builtin.firstCells e b e5).run y l=.ok z.toArray l/\bx u z.toArray (g.take (b*e))/\(g.take (b*e)).length=b*e:=by
 have L:∀(P)(S)(T),aZ u P S->bW f e S=β (b,T)->T=g.take (b*e)->(Builtin.firstCells e b P).run y l=(Builtin.firstCells e b e5).run y l->
   ∃z:List Value,(Builtin.firstCells e b e5).run y l=.ok z.toArray l/\bx u z.toArray (g.take (b*e))/\(g.take (b*e)).length=b*e:=by
  intro P S T M V t N;obtain⟨O,v,Q,k4,_⟩:=wM M K V y;refine⟨O,by rw[<-N];exact v.cells,?_,by rw[<-t,<-Q];exact v.size⟩;rw[<-t];refine bx.dZ.2 ⟨by trivial,λC k5 W k6 k7=>?_⟩;grind
 have k8:=c;unfold bW at c;split at c
 .rename_i p w;split at c
  case isFalse=>cases c
  rename_i k9;simp only[a7y,a8x]at c;obtain⟨rfl,rfl⟩:=c;have l0:∀D∈p,α D.cells=e:=by simp_all
  cases G with
  |di X d w bZ Y=>simp only[a7x,Nat.le_zero]at x;subst x;exact⟨[],by cases X<;>simp[Builtin.firstCells,loadCells,loadCellsFrom],⟨ς,λC W c=>by simp at c⟩,ς⟩
  |J A r len d j Z p w hk hlen B H l1 hH l2 Y=>
   subst hlen;have j9:∀D∈p.take b,α D.cells=j:=λD k0=>H D (a7A k0);have k1:=((gh b H).2).symm;by_cases I:p=[]
   .subst I;simp only[a7x,Nat.le_zero]at x;subst x;exact⟨[],by simp[Builtin.firstCells,loadCells,loadCellsFrom],⟨ς,λC W c=>by simp at c⟩,ς⟩
   obtain rfl:j=e:=by
    match p,I with
    |l3::l4,_=>simp_all
   refine L (.slice (β ⟨A,r,ζ⟩) b d) (.J (p.take b) .any) (flat (p.take b)) (.J A r b d j Z (p.take b) .any hk Μ δ j9 (λl5 F=>?_) (λC k2=>hH C (a8z k2 (a7D _ x))) (λC W l6=>?_) trivial) ?_ k1 rfl;grind;grind
   .unfold bW;simp_all
 .rename_i k E d h;split at c
  case h_2=>cases c
  rename_i m q;split at c
  case isFalse=>cases c
  rename_i F;simp only[a7y,a8x]at c;obtain⟨rfl,rfl⟩:=c;obtain⟨rfl,k3⟩:=F;have V:b*h<=E*h:=a7D _ x;cases G with
  |aq k E d h s B=>refine L (.slice (β ⟨k,0,ζ⟩) b d) (.aq k b d h) (m.take (b*h)) (.aq k b d h s δ) ?_ (by grind) rfl;simp only[bW,q];grind
 .rename_i k r E d h;split at c
  case h_2=>cases c
  rename_i m q;split at c
  case isFalse=>cases c
  rename_i F;simp only[a7y,a8x]at c;obtain⟨rfl,rfl⟩:=c;obtain⟨rfl,k3⟩:=F;have V:b*h<=E*h:=a7D _ x;cases G with
  |bE k r E d h s B=>refine L (.slice (β ⟨k,r,ζ⟩) b d) (.bE k r b d h) ((m.drop r).take (b*h)) (.bE k r b d h s δ) ?_ (by grind) rfl;simp only[bW,q];grind
 .cases c
theorem JE(M k3:TypeId)(D E:Operand)(i:o.op=.call {callee:=.builtin .copy,args:=#[D,E],argTypes:=#[M,k3]})(n:TypeId)(q:m.underlying M=β (.slice n))(d:Nat)(k4:(m.info? n).map (·.size)=β d)
  (k5:aQ D=η) (k6:aQ E=η) (N:bP u a j) (V:Holds u f l) (s:G ⟨m,t⟩ (.mZ d D E) j f Z):bV m t o a l u f Z:=by
 have y:=N.al D k5;have O:=N.al E k6;simp only[G]at s;generalize W:a.eval D=k7 at y;split at s
 case h_2=>trivial
 rename_i l9 n0 c;unfold mg at c;split at c
 case h_2=>cases c
 rename_i p z Q;obtain⟨n1,e,n2,n3,k8⟩:=wM O V Q m;have n4:=e.size;have n5:α z=p*d:=δ;have X:∀b,∃r:Array Value,(Builtin.firstCells d (min p b) (a.eval E)).run m l=.ok r l/\bx u r (z.take (b*d))/\(z.take (b*d)).length=min p b*d:=by intro b;obtain⟨r,n9,a00,a01⟩:=JD O V Q m (min p b) δ;grind[min,Nat.mul_le_mul_right,Nat.min_eq_left,Ε,Nat.min_eq_right]
 have k9:∃v,m.info? n=β v/\v.size=d:=by simp_all
 obtain⟨v,w,A⟩:=k9;have a02:∀(h k b x)(C),k7=.slice (β ⟨h,k,ζ⟩) b x->f h=β (.cells C)->k+b*d<=α C->
   Z (.v (.int .i64 (min p b:Nat))) (f.set h (.cells (putAt C k (z.take (b*d)))))->bV m t o a l u f Z:=by
  intro h k b x C l0 B Y l1;obtain⟨r,F,L,g⟩:=X b;have H:∀I∈z.take (b*d),I.one=true:=λI P=>k8 I (a7A P);have a03:min p b*d<=b*d:=a7D _ δ;obtain⟨j9,T,l2,a04,l3⟩:=Step.store V B k (z.take (b*d)) r L H δ;refine .value ?_ l3 (.v _ rfl) l1;have k0:=run_storeCells_at m h k T r.toList 0 j9 l l2 (by have:=L.1;simp;omega) (L.o3 H);simp only[a9p]at k0;have l4:(storeCells ⟨h,k,ζ⟩ r.toList).run m l=.ok () (l.setRow h (df j9 k r.toList)):=by rw[k0];rfl
  have k1:Nat.min p b=min p b:=rfl;rw[l0]at W;simp[execOp,i,resolve,invoke,builtin,W,Builtin.copy_,run_underlying q,e.len,sizeOf,typeInfo,w,A,F,l4,goInt]
 split at c
 .rename_i h k b x K S;rw[S]at y;split at c
  case h_2=>cases c
  rename_i C B;split at c
  case isFalse=>cases c
  rename_i P;obtain⟨rfl,Y⟩:=P;simp only[a7y,a8x]at c;obtain⟨rfl,rfl⟩:=c;cases y with
  |bE h k b x K l5 k2=>grind
 .rename_i h b x K S;rw[S]at y;split at c
  case h_2=>cases c
  rename_i C B;split at c
  case isFalse=>cases c
  rename_i P;obtain⟨rfl,Y⟩:=P;simp only[a7y,a8x]at c;obtain⟨rfl,rfl⟩:=c;cases y with
  |aq h b x K l5 k2=>simp_all
 .rename_i a05 S;rw[S]at y;simp only[a7y,a8x]at c;obtain⟨rfl,rfl⟩:=c;have c:(execOp a.eval o).run m l=.ok (.value (.int .i64 0)) l:=by
   obtain⟨r,F,L,g⟩:=X 0;have k1:Nat.min p 0=0:=Nat.min_zero p;rw[Nat.min_zero]at F;have l6:=aaw (by have:=L.1;simp at this;simpa using this);subst l6;cases y with
   |di l7 x dv bZ l8=>cases l7<;>simp[execOp,i,resolve,invoke,builtin,W,Builtin.copy_,run_underlying q,e.len,sizeOf,typeInfo,w,A,k1,F,goInt,storeCells]
   |J a06 k len x d a07 xs dv k4 g k2 a08 H hH a09 l8=>simp at g;subst g;simp[execOp,i,resolve,invoke,builtin,W,Builtin.copy_,run_underlying q,e.len,sizeOf,typeInfo,w,A,F,goInt,storeCells]
  exact .same V c (.v _ rfl) s
 .cases c
theorem JF(y:FuncId)(h:Func)(k p:Operand)(M:Array TypeId)(N:o.op=.call {callee:=.value (.func y),args:=#[k,p],argTypes:=M})(O:m.funcs[y]?=β h) (Q:(h.name== "runtime.NumGoroutine")=ι) (X:h.body.isNone=η) (Y:Extern.findNext h=ζ)
  (c:TypeId) (C:Array TypeId) (j9:Extern.find h=β (Extern.SlicesOverlaps.overlaps #[c,c] C)) (r:TypeId) (k0:m.underlying c=β (.slice r)) (D:Nat) (k1:(m.info? r).map (·.size)=β D)
  (k2:aQ k=η) (k3:aQ p=η) (w:bP u a j) (A:Holds u f l) (E:G ⟨m,t⟩ (.nd k p) j f Z):bV m t o a l u f Z:=by
 have B:=w.al k k2;have H:=w.al p k3;simp only[G]at E;generalize k4:a.eval k=a00 at B;generalize k5:a.eval p=a01 at H;split at E
 case h_2=>trivial
 rename_i a02 d;unfold lr at d;split at d
 case h_2=>cases d
 rename_i F L k6 k7;split at d
 case isFalse=>cases d
 rename_i k8;obtain⟨k9,l0,l1⟩:=k8;obtain rfl:=Δ d;have I:∀(P:R)(S:Value)(b:Nat),cN P=β b->aZ u S P->∃l2 l3 l4,S=.slice (β ⟨b,l2,ζ⟩) l3 l4:=by
  intro P S b x V;cases V<;>simp only[cN,a7y,reduceCtorEq]at x
  .subst x;simp
  .subst x;simp
 have K:∀b,ky f b=η->∃z T,l.heap[b]?=β (.cells z T (0,0))/\z.size≠0:=by
  intro b W;unfold ky at W;split at W
  .rename_i a03 a04 l5;obtain⟨_,z,T,x,V,_⟩:=A.cT b _ l5;exact⟨z,T,x,by rw[V.1];simp⟩
  .cases W
 obtain⟨e,g,i,rfl⟩:=I _ _ _ k6 B;obtain⟨n,q,c2,rfl⟩:=I _ _ _ k7 H;obtain⟨l6,l7,s,a05⟩:=K _ l0;obtain⟨l8,l9,n0,n1⟩:=K _ l1;have n2:∀l,(Go.sizeOf r).run m l=.ok D l:=by
  intro l;cases n3:m.info? r with
  |none=>simp[n3]at k1
  |some ii=>simp_all [sizeOf,typeInfo]
 have n4:=Lib.run_overlaps_apart l c (C.getD 0 0) r k0 D n2 ⟨F,e,ζ⟩ ⟨L,n,ζ⟩ g i q c2 k9 l7 l9 l6.size l8.size (by simp[World.shape?,s]) (by simp[World.shape?,n0]) n1 (by simp[World.frozen?,s]) (by simp[World.frozen?,s]);have n5:(Extern.SlicesOverlaps.overlaps #[c,c] C #[.slice (β ⟨F,e,ζ⟩) g i,.slice (β ⟨L,n,ζ⟩) q c2]).run m l=.ok (.bool ι) l:=n4;have v:=run_callFunc_extern O Q X Y j9 #[.slice (β ⟨F,e,ζ⟩) g i,.slice (β ⟨L,n,ζ⟩) q c2] l;rw[n5]at v;simp only[Result.andThen_ok]at v;refine .same A ?_ (.v _ rfl) E;have n9:a.eval (.func y)=.func (.func y) #[] #[]:=rfl;simp[execOp,N,resolve,n9,Deferred.ofValue,invoke,k4,k5,v]
def Br(h:World)(x y E p:TypeId)(d:TypeInfo)(r:Value)(F:IntKind)(G:m.underlying x=β (.slice p))(L:m.underlying y=β (.int F))
  (P:m.info? p=β d) (S:d.zero=β r) (z:Option Addr) (c k:Nat) (C:List Value) (u:0<d.size)
  (T:(Builtin.firstCells d.size c (.slice z c k)).run m h.drew=.ok C.toArray h.drew)
  (b:Nat) (v:0<b) (V:k<c+b) (w:((c+b:Nat):Int)<=9223372036854775807) (W:(c+b)*d.bytes<=140737488355328):
  (Builtin.append_ #[x,y] E #[.slice z c k,.int .i64 b]).run m h=
   .ok (.slice (β ⟨h.heap.size,0,ζ⟩) (c+b) (grownCap h (c+b) k p))
    (h.drew.alloc (.cells (C.toArray++Builtin.zeroCells r.cells b++Builtin.zeroCells r.cells (grownCap h (c+b) k p -(c+b))) p)):=by
 have e:¬(c+b<=k):=δ;have f:¬(9223372036854775807<((c)+(b:Int))):=δ;have g:¬(281474976710656<Builtin.nextslicecap (c+b) k*d.bytes):=by have:=growslice_fits V W;omega
 have i:IntKind.i64.wrap (b)=b:=by rw[IntKind.wrap_i64];omega
 have j:¬((b:Int)<0):=δ;have A:b*d.bytes<=(c+b)*d.bytes:=a7D _ δ;have l:¬(281474976710656<(b)*(d.bytes:Int)):=by rw[<-Int.natCast_mul];omega
 have D:b≠0:=δ;have n:¬(b*d.size=0):=Nat.mul_ne_zero D δ;have q:=λs=>run_underlying L s;have t:¬(d.size=0):=δ;simp[Builtin.append_,run_underlying G,q,sizeOf,typeInfo,zeroValue,P,S,asInt,asIntOf,i,j,e,n,D,t,f,g,l,Question.forced,T,newRow,grownCap]
theorem JG(r x:Operand)(z C:TypeId)(s:IntKind)(k1:m.underlying C=β (.int s))(k2:o.op=.call {callee:=.builtin .append,args:=#[r,x],argTypes:=#[z,C]})(k:TypeId)(k3:m.underlying z=β (.slice k))(d:TypeInfo)(k4:m.info? k=β d)(p:Value)(k5:d.zero=β p)
  (w:p.cells.size=d.size) (k6:∀r∈p.cells.toList,r.oneCell'=η) (y:0<d.size) (l4:aQ r=η) (l5:aQ x=η) (k7:bP u a j) (P:Holds u f l) (S:G ⟨m,t⟩ (.nc d.size d.bytes (p.cells.toList.map cv) r x) j f Z):bV m t o a l u f Z:=by
 have D:=k7.al r l4;have V:=k7.al x l5;simp only[G]at S;generalize k8:a.eval r=l6 at D;generalize k9:a.eval x=a02 at V;have newRow:∀(A:List Value)(b c h)(e),bx u A.toArray e->(∀W∈e,W.one=η)->b+c<=h->
   ∃E:ύ,α E=(h -(b+c))*d.size/\Step u f l u (f.set l.heap.size (.cells (e++(ε c (p.cells.toList.map cv)).flatten++E))) (l.drew.alloc (.cells (A.toArray++Builtin.zeroCells p.cells c++Builtin.zeroCells p.cells (h -(b+c))) k)):=by
  intro A b c h e B H I;obtain⟨l7,a03⟩:=wR w k6 y c;obtain⟨l8,a04⟩:=wR w k6 y (h -(b+c));refine⟨(ε (h -(b+c)) (p.cells.toList.map cv)).flatten,by rw[lu];simp[w],?_⟩;refine(Step.drew P).trans (Step.new P.drew _ k _ (λW g=>?_) (bx.append (bx.append B l7) l8));grind
 split at S
 .rename_i i b h a05 c K M;rw[K]at D;rw[M]at V;obtain rfl:=V.dD;split at S
  case h_2=>trivial
  rename_i N l9;obtain⟨rfl,n0,l0,n1,O,n2,Q⟩:=S;obtain⟨H,X,T,a06,a07,l1⟩:=P.read l9;have a08:=l1.1;have Y:=a8V l0;cases D with
  |aq i b h n3 a09 I=>
   have a10:b*d.size<=α N:=by rw[n0];exact a7D _ I
   have n4:(X.toList.take (b*d.size)).length=b*d.size:=Μ;have n5:(Builtin.firstCells d.size b (.slice (β ⟨i,0,ζ⟩) b h)).run m l.drew=.ok (X.toList.take (b*d.size)).toArray l.drew:=by
    refine run_firstCells_some l.drew d.size b ⟨i,0,ζ⟩ b h _ n4 (λl2 v D=>?_);have a11:l2<b*d.size:=by grind
    rw[hA,a7Q];show l.cell? _= _;grind[cell_of_row,List.getElem?_take_of_lt]
   have F:=Br l z C o.type k d p s k3 k1 k4 k5 (β ⟨i,0,ζ⟩) b h _ y n5 c.toNat δ n1 δ O;rw[Y]at F;have L:=grownCap_ge l (b+c.toNat) h k;have j9:=grownCap_le_maxLen l (b+c.toNat) h k (by unfold maxLen;omega);have B:bx u (X.toList.take (b*d.size)).toArray (N.take (b*d.size)):=by rw[bx.dZ]at l1|-;grind
   obtain⟨E,n,q⟩:=newRow _ b c.toNat (grownCap l (b+c.toNat) h k) (N.take (b*d.size)) B (λW g=>H W (a7A g)) L;exact .value (jg r x z C k2 (by rw[k8,k9];exact F)) q (.aq _ _ _ _ y L) (Q _ _ E P.ek L j9 n)
 .rename_i n9 l3 c K M;rw[K]at D;rw[M]at V;obtain rfl:=V.dD;obtain⟨rfl,rfl,l0,O,n2,Q⟩:=S;have Y:((c.toNat))=c:=a8V δ;have a00:l6=.slice ζ 0 0:=by
   cases D with
   |di a13 h l3 bZ k0=>simp only[Own.lY]at k0;subst k0;rw[bZ rfl]
   |J a14 off len h n3 a15 n9 l3 y hlen I a16 H hH a18 k0=>trivial
  subst a00;have F:=Br l z C o.type k d p s k3 k1 k4 k5 ζ 0 0 [] y abH c.toNat δ δ δ (by simpa using O);rw[Y]at F;simp only[a7Q]at F;have L:=grownCap_ge l c.toNat 0 k;have j9:=grownCap_le_maxLen l c.toNat 0 k (by unfold maxLen;omega);obtain⟨E,n,q⟩:=newRow [] 0 c.toNat (grownCap l c.toNat 0 k) [] ⟨rfl,λl2 a19 a01=>by simp at a01⟩ (λW g=>by simp at g) δ;simp only[a7Q,a7H]at q n;exact .value (jg r x z C k2 (by rw[k8,k9];exact F)) q (.aq _ _ _ _ y L) (Q _ _ E P.ek L j9 n)
 .trivial
end
def jO(a:Program)(b:TypeId):Option Nat:=(a.info? b).map (·.size)
def placeOf(a:Program)(h:TypeId)(b:Nat):Option (Nat×Nat):=
 match a.underlying h with
 |some (.struct k)=>(k.toList.mapM (λc=>(a.info? c.type).map λo=>(c.offset,o.size))).bind λp=>p[b]?
 |some (.array _ r)=>(a.info? r).map λd=>(b*d.size,d.size)
 |_=>ζ
def wS(a:Program)(c:TypeId):Bool:=
 match a.underlying c with
 |some (.struct d)=>(d.toList.mapM (λb=>(a.info? b.type).map λh=>(b.offset,h.size))).isSome
 |some (.array _ k)=>(a.info? k).isSome
 |_=>ι
def s3(b:Program)(c:TypeId):Option (Array Value):=
 match b.info? c with
 |some d=>match d.zero with
  |some a=>if a.cells.toList.all (·.oneCell')then β a.cells else ζ
  |none=>ζ
 |none=>ζ
def Bs(b:Program)(c:TypeId)(a:Nat×Operand):Option (Nat×Nat×Operand):=
 match placeOf b c a.1 with
 |some (off,cf)=>if 0<cf/\aQ a.2=η then β (off,cf,a.2)else ζ
 |none=>ζ
def s4(a:Program)(b:TypeId):List (Nat×Operand)->Option (List (Nat×Nat×Operand))
 |[]=>β []
 |c::d=>match Bs a b c,s4 a b d with
  |some h,β k=>β (h::k)
  |_,_=>ζ
def s5:Nat->List (Nat×Operand)->Option (List Operand)
 |_,[]=>β []
 |a,(c,b)::d=>if a=c/\aQ b=η then(s5 (a+1) d).map (b:: ·)else ζ
def Bt(a:Program)(b:TypeId)(c:Operand):Option cd:=
 match a.underlying b,jO a b with
 |some d,β h=>if aQ c=η/\(d.isRow=η\/h=1)then β (.load d.isRow h c)else ζ
 |_,_=>ζ
structure Env where
 jL:ϋ
 Bu:ϋ
 wr:ϋ
 u7:ϋ
 ty:Bool
 mi:Bool
 pins:ϋ:=[]
 Bv:Bool:=ι
 wT:Bool:=ι
def Env.JH(a:Env):Operand->Bool
 |.tmp b=>a.Bu.contains b
 |_=>ι
def Env.gl(a:Env):Option Nat->Bool
 |some b=> !a.wr.contains b
 |none=>η
def Env.mut(a:Env):Option Nat->Bool
 |some b=>a.u7.contains b
 |none=>ι
def Env.box(a:Env):Option Nat->Bool
 |some b=>a.jL.contains b
 |none=>ι
def wU(h:Program)(o:Env)(r:Option Nat)(x:TypeId)(a:Operand)(c d y:Option Operand):Option cd:=
 if aQ a=η/\c.all aQ=η/\d.all aQ=η then
  match h.underlying x,y with
  |some (.slice k),ζ=>match jO h k with
   |some b=>β (.pk b a c d)
   |none=>ζ
  |some (.array p k),ζ=>match jO h k with
   |some b=>if 0<b then β (if o.JH a=η then .kq b p a c d else .kp b p a c d (o.gl r))else ζ
   |none=>ζ
  |_,_=>ζ
 else ζ
def JI:Operand->Bool
 |.const (.pointer ζ)=>η
 |_=>ι
def u9(a:Program)(c:Bool)(h:TypeId)(d b:Operand):Option cd:=
 match a.underlying h with
 |some .bool=>ζ
 |some (.slice _)=>match b with
  |.const (.slice ζ 0 0)=>β (.mU c d)
  |_=>ζ
 |some (.pointer k)=>match a.info? k with
  |some o=>if o.size≠0 then β (if JI b=η then .qC c d b else .mS c d b)else ζ
  |none=>ζ
 |some (.int _)=>β (.bin (if c then .neq else .eql) d b)
 |some .string=>β (.bin (if c then .neq else .eql) d b)
 |some p=>match flatK a 20 h with
  |some bF=>if a.cellsOf h=α bF/\(a.info? h).isSome=η/\p.isRow=η/\a.eqGuardType a.depth h=ι then β (.eqv c (ng bF) d b)else ζ
  |none=>ζ
 |none=>ζ
def wV(d:Program)(x:Env)(y:Option Nat)(k:Call):Option cd:=
 match k.callee,k.args.toList,k.argTypes.toList with
 |.value (.func p),args,_=>if fA d p=η/\args.all aQ=η then β (.gg p args)else ζ
 |.builtin .len,[a],[h]=>match d.underlying h with
  |some (.slice _)=>if aQ a=η then β (.len a)else ζ
  |some .string=>if aQ a=η then β (.qB a)else ζ
  |some (.map _ _)=>if aQ a=η then β (.pn a)else ζ
  |_=>ζ
 |.builtin .append,[a,b],[h,z]=>match d.underlying h with
  |some (.slice o)=>match d.info? o with
   |some c=>match c.zero with
    |some r=>if h=z/\r.cells.size=c.size/\0<c.size/\aQ a=η/\aQ b=η then(if x.mut y=η then(if r.cells.toList.all (·.oneCell')=η then β (.me c.size c.bytes a b)else ζ)else β (.app c.size c.bytes a b))else ζ
    |none=>ζ
   |none=>ζ
  |_=>ζ
 |.builtin .max,[a,b],_=>if aQ a=η/\aQ b=η then β (.mc η .i64 a b)else ζ
 |.builtin .min,[a,b],_=>if aQ a=η/\aQ b=η then β (.mc ι .i64 a b)else ζ
 |.builtin .copy,[a,b],[h,_]=>match d.underlying h with
  |some (.slice o)=>match jO d o with
   |some C=>if aQ a=η/\aQ b=η then β (.mT C a b)else ζ
   |none=>ζ
  |_=>ζ
 |_,_,_=>ζ
def wW(b:Program)(z:Env)(x:Oper):Option cd:=
 match x.op with
 |.move a|.assign a=>if aQ a=η then β (.fg a)else ζ
 |.pick C a k=>if aQ C=η/\aQ a=η/\aQ k=η then β (.pick C a k)else ζ
 |.alloc T=>match s3 b T with
  |some o=>β (.alloc T (o.toList.map cv))
  |none=>ζ
 |.box T a=>if aQ a=η then β (if z.box x.dst=η then .ll T a else .box T a)else ζ
 |.load d a=>Bt b d a
 |.store d a k=>match jO b d with
  |some p=>if 0<p/\aQ a=η/\aQ k=η then β (.store p a k)else ζ
  |none=>ζ
 |.nilCheck a=>if aQ a=η then β (.qz a)else ζ
 |.fieldAddr d a c=>match b.underlying d with
  |some (.struct D)=>match D[c]? with
   |some fd=>match jO b fd.type with
    |some p=>if p≠0/\aQ a=η then β (.ln fd.offset a)else ζ
    |none=>ζ
   |none=>ζ
  |_=>ζ
 |.indexAddr d a c=>if aQ a=η/\aQ c=η then
   match b.underlying d with
   |some (.array len h)=>match jO b h with
    |some r=>β (.qA r len a c)
    |none=>ζ
   |some (.slice h)=>match jO b h with
    |some r=>β (.dS r a c)
    |none=>ζ
   |_=>ζ
  else ζ
 |.field d a c=>match b.underlying d with
  |some (.struct D)=>match D[c]? with
   |some fd=>match b.underlying fd.type,jO b fd.type with
    |some y,β p=>if aQ a=η/\(y.isRow=η\/p=1)then β (.po y.isRow fd.offset p a)else ζ
    |_,_=>ζ
   |none=>ζ
  |_=>ζ
 |.index d a c=>if aQ a=η/\aQ c=η then
   match b.underlying d with
   |some (.array len h)=>match b.underlying h,jO b h with
    |some y,β r=>if y.isRow=η\/r=1 then β (.pj y.isRow r len a c)else ζ
    |_,_=>ζ
   |some .string=>β (.ma a c)
   |_=>ζ
  else ζ
 |.build d parts=>match s3 b d,s4 b d parts.toList with
  |some o,β res=>if wS b d=η then β (.mb (o.toList.map cv) res)else ζ
  |_,_=>ζ
 |.buildSlice d p parts=>match b.underlying d,s5 0 parts.toList with
  |some (.slice h),β xs=>match b.info? h with
   |some c=>match c.zero with
    |some o=>if o.cells.size=c.size/\o.cells.toList.all (·.oneCell')=η/\0<c.size/\p*c.size<=2^24/\α xs=p then β (if z.mut x.dst=η then .ks c.size xs else .ko c.size xs)else ζ
    |none=>ζ
   |none=>ζ
  |_,_=>ζ
 |.slice d a aT aS E=>wU b z x.dst d a aT aS E
 |.binOp op d a k _=>if aQ a=η/\aQ k=η then
   match op with
   |.eql=>u9 b ι d a k
   |.neq=>u9 b η d a k
   |op=>β (.bin op a k)
  else ζ
 |.unOp op _ a=>if aQ a=η then β (.un op a)else ζ
 |.convert st F a=>match b.underlying st,b.underlying F with
  |some (.int _),β (.int r)=>if aQ a=η then β (.je r a)else ζ
  |some (.slice h),β .string=>match b.underlying h with
   |some (.int .u8)=>if aQ a=η then β (.qD a)else ζ
   |_=>ζ
  |some .string,β (.slice h)=>match b.underlying h with
   |some (.int .u8)=>if aQ a=η then β (.pq a)else ζ
   |_=>ζ
  |_,_=>ζ
 |.makeSlice d a k=>match b.underlying d with
  |some (.slice h)=>match b.info? h with
   |some c=>match c.zero with
    |some o=>if o.cells.size=c.size/\o.cells.toList.all (·.oneCell')=η/\0<c.size/\aQ a=η/\aQ k=η then β (.kr c.size c.bytes (o.cells.toList.map cv) a k)else ζ
    |none=>ζ
   |none=>ζ
  |_=>ζ
 |.extract a c=>if aQ a=η then β (.ext a c)else ζ
 |.call C=>wV b z x.dst C
 |_=>ζ
variable{e2:cd}{I:Bool}{X e7:Operand}{b0:Type}{b2:TypeId}
section
variable{o:Oper}{a:Act}
def ua{b:TypeDesc}(c:b.isRow=η\/e=1):b.isRow=ι->e=1:=λd=>c.resolve_left (by simp[d])
theorem wX{b:Array Value}(d:s3 m b2=β b):∃c v,m.info? b2=β c/\c.zero=β v/\v.cells=b/\∀h∈b.toList,h.oneCell'=true:=by unfold s3 at d;grind
theorem JJ{b:Array Value}(d:s3 m b2=β b)(h:wS m b2=η)(c:List (Nat×Value)):m.built b2 c=Instr.fill (placeOf m b2) b c:=by obtain⟨k,v,p,r,rfl,_⟩:=wX d;unfold wS at h;unfold Program.built placeOf;grind[Option.isSome_iff_exists]
theorem Bw{x:TypeId}:∀ {r:List (Nat×Operand)}{res:List (Nat×Nat×Operand)},s4 m x r=β res->α r=α res/\
  ∀(d:Nat)(h:Nat×Operand)(b:Nat×Nat×Operand),r[d]?=β h->res[d]?=β b->placeOf m x h.1=β (b.1,b.2.1)/\h.2=b.2.2/\aQ h.2=η/\0<b.2.1
 |[],res,c=>by
  simp only[s4,a7y]at c;simp_all
 |h::r,res,c=>by
  simp only[s4]at c;split at c
  case h_2=>cases c
  rename_i b D y z;obtain rfl:=Δ c;obtain⟨C,E⟩:=Bw z;refine⟨by simp[C],λd F G k p=>?_⟩
  match d,k,p with
  |0,k,p=>simp only[a9c,a7y]at k p;subst k;subst p;unfold Bs at y;grind
  |d+1,k,p=>grind
theorem Bx:∀ {d:Nat}{h:List (Nat×Operand)}{c:List Operand},s5 d h=β c->h=(c.zipIdx d).map (λk=>(k.2,k.1))/\∀p∈c,aQ p=η
 |d,[],c,b=>by
  simp only[s5,a7y]at b;simp_all
 |d,(x,p)::y,c,b=>by
  simp only[s5]at b;split at b
  case isFalse=>cases b
  rename_i z;obtain⟨C,r,rfl⟩:=a9W.1 b;obtain⟨D,E⟩:=Bx r;simp_all
def qI{b:Array b0}{c:b0}(d:b.toList=[c]):b=#[c]:=aaO.1 d
def jh{b:Array b0}{c d:b0}(h:b.toList=[c,d]):b=#[c,d]:=aaO.1 h
theorem JK{P:Env}{S:Option Nat}{d h E:Option Operand}(z:o.op=.slice b2 X d h E)(b:wU m P S b2 X d h E=β e2)(C:bP u a j)(D:Holds u f l)(k:G ⟨m,t⟩ e2 j f Z):bV m t o a l u f Z:=by
 unfold wU at b;split at b
 case isFalse=>cases b
 rename_i c;split at b
 .rename_i p r;split at b
  case h_2=>cases b
  rename_i x y;obtain rfl:=Δ b;exact J4 b2 X d h z p r x y c.1 c.2.1 c.2.2 C D k
 .rename_i F p r;split at b
  case h_2=>cases b
  rename_i x y;split at b
  case isFalse=>cases b
  rename_i L;obtain rfl:=Δ b;split at k
  .exact Jb b2 X d h z F p r x y L c.1 c.2.1 c.2.2 C D k
  .exact Bg b2 X d h z F p r x y L _ c.1 c.2.1 c.2.2 C D k
 .cases b
theorem By{c:TypeId}(d:o.op=.binOp (if I then .neq else .eql) b2 X e7 c)(h:aQ X=η)(y:aQ e7=η)(b:u9 m I b2 X e7=β e2)(k:bP u a j)(p:Holds u f l)(r:G ⟨m,t⟩ e2 j f Z):bV m t o a l u f Z:=by
 unfold u9 at b;split at b
 .cases b
 .rename_i z x;split at b
  .obtain rfl:=Δ b;exact Jf I b2 X c d z x h k p r
  .cases b
 .rename_i z x;split at b
  .rename_i D E;split at b
   .rename_i C;split at b
    .obtain rfl:=Δ b;exact J2 I b2 X e7 c d z x D E C h y k p r
    .obtain rfl:=Δ b;exact Jk I b2 X e7 c d z x D E C h y k p r
   .cases b
  .cases b
 .obtain rfl:=Δ b;exact wJ _ b2 X e7 c d h y k p r
 .obtain rfl:=Δ b;exact wJ _ b2 X e7 c d h y k p r
 .rename_i F _ _ _ _ _ x;split at b
  case h_2=>cases b
  rename_i L P;split at b
  case isFalse=>cases b
  rename_i C;obtain rfl:=Δ b;grind[J1]
 .cases b
theorem JL{V:Env}{W:Option Nat}{P:Call}(C:o.op=.call P)(b:wV m V W P=β e2)(D:bP u a j)(E:Holds u f l)(F:G ⟨m,t⟩ e2 j f Z):bV m t o a l u f Z:=by
 obtain⟨H,I,K⟩:=P;unfold wV at b;split at b
 .rename_i M c;simp only at c;subst c;split at b
  case isFalse=>cases b
  rename_i d;obtain rfl:=Δ b;obtain⟨y,S⟩:=d;unfold fA at y;split at y
  case h_2=>cases y
  rename_i N O;simp only[Υ,bne_iff_ne,ne_eq]at y;grind[J3,List.all_eq_true]
 .rename_i p r c h x;simp only at c h x;subst c;obtain rfl:=qI h;obtain rfl:=qI x;split at b
  .rename_i z k;split at b
   case isFalse=>cases b
   rename_i d;obtain rfl:=Δ b;exact IV r p C z k d D E F
  .rename_i k;split at b
   case isFalse=>cases b
   rename_i d;obtain rfl:=Δ b;exact IW r p C k d D E F
  .rename_i e g k;split at b
   case isFalse=>cases b
   rename_i d;obtain rfl:=Δ b;exact Jw r p C e g k d D E F
  .cases b
 .rename_i p L r T c h x;simp only at c h x;subst c;obtain rfl:=jh h;obtain rfl:=jh x;split at b
  case h_2=>cases b
  rename_i z k;split at b
  case h_2=>cases b
  rename_i i n;split at b
  case h_2=>cases b
  rename_i q s;split at b
  case isFalse=>cases b
  rename_i d;obtain⟨rfl,y,S,v,w⟩:=d;split at b
  .split at b
   case isFalse=>cases b
   rename_i Q;obtain rfl:=Δ b;exact Bm p L r r _ k (.inl ⟨z,rfl⟩) C z k i n q s y (by grind) S v w D E F
  .obtain rfl:=Δ b;grind[J8]
 .rename_i p L c h;simp only at c h;subst c;obtain rfl:=jh h;split at b
  case isFalse=>cases b
  rename_i d;obtain rfl:=Δ b;grind[Bn]
 .rename_i p L c h;simp only at c h;subst c;obtain rfl:=jh h;split at b
  case isFalse=>cases b
  rename_i d;obtain rfl:=Δ b;grind[Bn]
 .rename_i p L r T c h x;simp only at c h x;subst c;obtain rfl:=jh h;obtain rfl:=jh x;split at b
  case h_2=>cases b
  rename_i z k;split at b
  case h_2=>cases b
  rename_i A B;split at b
  case isFalse=>cases b
  rename_i d;obtain rfl:=Δ b;exact Je r T p L C z k A B d.1 d.2 D E F
 .cases b
theorem JM{O:Env}(b:wW m O o=β e2)(x:bP u a j)(p:Holds u f l)(r:G ⟨m,t⟩ e2 j f Z):bV m t o a l u f Z:=by
 unfold wW at b;split at b
 case h_1 d c=>split at b;(rename_i y;obtain rfl:=Δ b;exact Ba d (.inl c) y x p r);(cases b)
 case h_2 d c=>split at b;(rename_i y;obtain rfl:=Δ b;exact Ba d (.inr c) y x p r);(cases b)
 case h_3 Q d V c=>split at b;(rename_i y;obtain rfl:=Δ b;grind[IK]);(cases b)
 case h_4 T c=>
  split at b
  .rename_i n S;obtain rfl:=Δ b;obtain⟨z,v,i,K,rfl,q⟩:=wX S;exact II T c z i v K q p r
  .cases b
 case h_5 T d c=>
  split at b
  .rename_i y;obtain rfl:=Δ b;grind[Ja,IJ]
  .cases b
 case h_6 k d c=>
  unfold Bt at b;split at b
  .rename_i W F C L;split at b
   .rename_i h;obtain rfl:=Δ b;exact IF k d c W C F L (ua h.2) h.1 x p r
   .cases b
  .cases b
 case h_7 k d V c=>
  split at b
  .rename_i F L;split at b
   .rename_i h;obtain rfl:=Δ b;exact IH k d V c F L h.1 h.2.1 h.2.2 x p r
   .cases b
  .cases b
 case h_8 d c=>split at b;(rename_i y;obtain rfl:=Δ b;exact IL d c y x p r);(cases b)
 case h_9 k d z c=>
  split at b
  .rename_i s C;split at b
   .rename_i w A;split at b
    .rename_i F L;split at b
     .rename_i h;obtain rfl:=Δ b;exact IM k d z c s C w A F L h.1 h.2 x p r
     .cases b
    .cases b
   .cases b
  .cases b
 case h_10 k d z c=>
  split at b
  case isFalse=>cases b
  rename_i h;split at b
  .rename_i len D C;split at b
   .rename_i P e;obtain rfl:=Δ b;exact IN k d z c len D C P e h.1 h.2 x p r
   .cases b
  .rename_i D C;split at b
   .rename_i P e;obtain rfl:=Δ b;exact IP k d z c D C P e h.1 h.2 x p r
   .cases b
  .cases b
 case h_11 k d z c=>
  split at b
  .rename_i s C;split at b
   .rename_i w A;split at b
    .rename_i W F E L;split at b
     .rename_i h;obtain rfl:=Δ b;exact IQ k d z c s C w A W E F L (ua h.2) h.1 x p r
     .cases b
    .cases b
   .cases b
  .cases b
 case h_12 k d z c=>
  split at b
  case isFalse=>cases b
  rename_i h;split at b
  .rename_i len D C;split at b
   .rename_i W P E e;split at b
    .rename_i X;obtain rfl:=Δ b;exact IS k d z c len D C W E P e (ua X) h.1 h.2 x p r
    .cases b
   .cases b
  .rename_i C;obtain rfl:=Δ b;exact IT k d z c C h.1 h.2 x p r
  .cases b
 case h_13 k M c=>
  split at b
  .rename_i n res S Y;split at b
   .rename_i j9;obtain rfl:=Δ b;obtain⟨z,v,i,K,rfl,q⟩:=wX S;obtain⟨k0,k1⟩:=Bw Y;exact J6 k M c (placeOf m k) _ res (JJ S j9) q k0 k1 x p r
   .cases b
  .cases b
 case h_14 k F M c=>
  split at b
  .rename_i D k5 C k2;split at b
   .rename_i z i;split at b
    .rename_i n S;split at b
     .rename_i h;obtain rfl:=Δ b;obtain⟨k6,k7⟩:=Bx k2;grind[J7,List.all_eq_true,Bk]
     .cases b
    .cases b
   .cases b
  .cases b
 grind[JK]
 case h_16 N k d V k3 c=>
  split at b
  case isFalse=>cases b
  rename_i h;split at b;grind[By];grind[By]
  .obtain rfl:=Δ b;exact wJ _ k d V k3 c h.1 h.2 x p r
 case h_17 N k d c=>split at b;(rename_i y;obtain rfl:=Δ b;exact IZ N k d c y x p r);(cases b)
 case h_18 B H d c=>
  split at b
  .rename_i k4 P g E;split at b
   .rename_i y;obtain rfl:=Δ b;exact J0 B H d c P k4 g E y x p r
   .cases b
  .rename_i D g E;split at b
   .rename_i I;split at b
    .rename_i y;obtain rfl:=Δ b;exact Jc B H d c D g I E y x p r
    .cases b
   .cases b
  .rename_i D g E;split at b
   .rename_i I;split at b
    .rename_i y;obtain rfl:=Δ b;exact Jg B H d c D g E I y x p r
    .cases b
   .cases b
  .cases b
 case h_19 k d V c=>
  split at b
  case h_2=>cases b
  rename_i D C;split at b
  case h_2=>cases b
  rename_i z i;split at b
  case h_2=>cases b
  rename_i n S;split at b
  case isFalse=>cases b
  rename_i h;obtain rfl:=Δ b;grind[Jd,List.all_eq_true]
 case h_20 d z c=>split at b;(rename_i y;obtain rfl:=Δ b;exact IU d z c y x p r);(cases b)
 case h_21 Q c=>exact JL c b x p r
 .cases b
end
def Bz(a:Program)(b:TypeId):Bool:=
 match a.underlying b with
 |some (.slice _)=>η
 |some .string=>η
 |_=>ι
def wY(b:Program)(p:Env)(r:Option Nat)(c d:Operand)(h k:TypeId):Option cd:=
 match b.underlying h with
 |some (.slice x)=>match b.info? x with
  |some a=>match a.zero with
   |some o=>if Bz b k=η/\o.cells.size=a.size/\o.cells.toList.all (·.oneCell')=η/\0<a.size/\aQ c=η/\aQ d=η then
     (if h≠k/\p.mut r=η then β (.me a.size a.bytes c d)else ζ)else ζ
   |none=>ζ
  |none=>ζ
 |_=>ζ
def wZ(b:Program)(c:Env)(d:Option Nat)(a:Call):Option cd:=
 match a.callee,a.args.toList,a.argTypes.toList with
 |.value (.tmp h),args,_=>if args.all aQ=η then β (.jf (.tmp h) args)else ζ
 |.builtin .append,[k,o],[p,r]=>wY b c d k o p r
 |_,_,_=>ζ
def BA:TypeDesc->Bool
 |.interface _=>η
 |_=>ι
def JN{a:TypeDesc}(c:BA a=ι):∀b,a≠.interface b:=λb hm=>by subst hm;cases c
def s6(a:Program)(b:TypeId)(c:List cb):Bool:=
 decide (a.cellsOf b=α c)&&(a.info? b).isSome&&(match a.underlying b with|some (.array _ _)|some (.struct _)=>η|_=>ι)
theorem BB{a:List cb}(c:flatK m 20 b2=β a)(b:s6 m b2 a=η):nh m b2 (ng a):=by simp only[s6,Υ,decide_eq_true_eq]at b;obtain⟨⟨d,h⟩,k⟩:=b;refine⟨⟨20,δ,by rw[u6];exact c⟩,by rw[u6];exact d,h,?_⟩;grind
def x0(a:Program)(k:Op):Option cd:=
 match k with
 |.makeMap _ ζ=>β .ku
 |.lookup mt b c ok=>match a.underlying mt with
  |some (.map d o)=>match flatK a 20 d,a.info? o with
   |some bF,β p=>match p.zero with
    |some h=>if s6 a d bF=η/\rT h=η/\aQ b=η/\aQ c=η then β (.kv ok (ng bF) (ofConst h) b c)else ζ
    |none=>ζ
   |_,_=>ζ
  |_=>ζ
 |.mapUpdate mt b c v|.insert mt b c v=>match a.underlying mt with
  |some (.map d _)=>match flatK a 20 d with
   |some bF=>if s6 a d bF=η/\aQ b=η/\aQ c=η/\aQ v=η then β (.lo (ng bF) b c v)else ζ
   |none=>ζ
  |_=>ζ
 |_=>ζ
def x3(c:Program)(h:Env)(d:Oper):Option cd:=
 match d.op with
 |.makeFunc (.func k) first cap=>if first.toList.all aQ=η/\cap.toList.all aQ=η then β (.bG k first.toList cap.toList)else ζ
 |.makeInterface b a=>match c.underlying b with
  |some o=>if BA o=ι/\aQ a=η then β (.qE b a)else ζ
  |none=>ζ
 |.panic a=>if aQ a=η then β (.mV a)else ζ
 |.range b a=>match c.underlying b with
  |some .string=>if aQ a=η then β (.kt a)else ζ
  |_=>ζ
 |.next a η=>if aQ a=η then β (.mW a)else ζ
 |.call p=>wZ c h d.dst p
 |_=>ζ
def BC(a:Program)(c:FuncId):Bool:=
  match a.funcs[c]? with
  |some fn=>fn.origin== "slices.overlaps" &&fn.body.isNone&& !(fn.name== "runtime.NumGoroutine")&&(Extern.allNextRows.lookup fn.name).isNone&&(Extern.allGenericRows.lookup fn.name).isNone&&(Extern.allTypedRows.lookup fn.name).isNone&&(Extern.allRows.lookup fn.name).isNone&&
    (match fn.params.toList with
     |[b,d]=>b==d&&(match a.underlying b with|some (.slice h)=>(a.info? h).isSome|_=>ι)
     |_=>ι)
  |none=>ι
def x4(c:Program)(r:Env)(p:Call):Option cd:=
 match p.callee,p.args.toList,p.argTypes.toList with
 |.builtin .cap,[a],[h]=>match c.underlying h with
  |some (.slice _)=>if aQ a=η then β (.mX a)else ζ
  |_=>ζ
 |.builtin .clear,[a],[h]=>match c.underlying h with
  |some (.slice o)=>match c.info? o with
   |some b=>match b.zero with
    |some k=>if k.cells.size=b.size/\k.cells.toList.all (·.oneCell')=η/\0<b.size/\aQ a=η then β (.mY b.size (k.cells.toList.map cv) a)else ζ
    |none=>ζ
   |none=>ζ
  |_=>ζ
 |.builtin .copy,[a,d],[h,_]=>if r.wT=η then(match c.underlying h with
  |some (.slice o)=>match jO c o with
   |some x=>if aQ a=η/\aQ d=η then β (.mZ x a d)else ζ
   |none=>ζ
  |_=>ζ)else ζ
 |.builtin .append,[a,d],[h,y]=>match c.underlying y with
  |some (.int _)=>match c.underlying h with
   |some (.slice o)=>match c.info? o with
    |some b=>match b.zero with
     |some k=>if k.cells.size=b.size/\k.cells.toList.all (·.oneCell')=η/\0<b.size/\aQ a=η/\aQ d=η then β (.nc b.size b.bytes (k.cells.toList.map cv) a d)else ζ
     |none=>ζ
    |none=>ζ
   |_=>ζ
  |_=>ζ
 |.value (.func z),[a,d],_=>if BC c z=η/\aQ a=η/\aQ d=η then β (.nd a d)else ζ
 |_,_,_=>ζ
def x5(a:Program)(c:Env)(h:Oper):Option cd:=
 match h.op with
 |.slice k d aT aS b=>if c.wT=η then(match a.underlying k with
  |some (.slice o)=>match jO a o with
   |some p=>if aQ d=η/\aT.all aQ=η/\aS.all aQ=η/\b.all aQ=η/\(b=ζ\/aS.isSome=η)then β (.mf p d aT aS b)else ζ
   |none=>ζ
  |_=>ζ)else ζ
 |.call r=>x4 a c r
 |_=>ζ
def x6(b:Program)(d:Env)(c:Oper):Option cd:=
 match x5 b d c with
 |some a=>β a
 |none=>match x0 b c.op with
 |some a=>β a
 |none=>match x3 b d c with
 |some a=>β a
 |none=>wW b d c
def JO:Extern.allNextRows.lookup "slices.overlaps" =none:=by rfl
def JP:Extern.allGenericRows.lookup "slices.overlaps" =none:=by rfl
def JQ:Extern.allTypedRows.lookup "slices.overlaps" =β Extern.SlicesOverlaps.overlaps:=by rfl
section
variable{o:Oper}{a:Act}
theorem JR{h:Env}{k:Option Nat}{d:TypeId}(y:o.op=.call {callee:=.builtin .append,args:=#[X,e7],argTypes:=#[d,b2]})(b:wY m h k X e7 d b2=β e2)(z:bP u a j)(C:Holds u f l)(D:G ⟨m,t⟩ e2 j f Z):bV m t o a l u f Z:=by
 unfold wY at b;split at b
 case h_2=>cases b
 rename_i E F;split at b
 case h_2=>cases b
 rename_i L P;split at b
 case h_2=>cases b
 rename_i S T;split at b
 case isFalse=>cases b
 rename_i p;obtain⟨r,V,W,e,g,i⟩:=p;obtain⟨c,n,q⟩:∃c,m.underlying b2=β c/\((∃x,c=.slice x)\/c=.string):=by unfold Bz at r;grind
 split at b
 case isFalse=>cases b
 obtain rfl:=Δ b;grind[Bm,List.all_eq_true]
theorem JS{z:Env}{C:Option Nat}{d:Call}(h:o.op=.call d)(b:wZ m z C d=β e2)(k:bP u a j)(p:Holds u f l)(r:G ⟨m,t⟩ e2 j f Z):bV m t o a l u f Z:=by
 obtain⟨L,D,E⟩:=d;unfold wZ at b;split at b
 .rename_i F c;simp only at c;subst c;split at b
  case isFalse=>cases b
  rename_i P;obtain rfl:=Δ b;exact Ji (.tmp F) D E h rfl (by grind) k p r
 .rename_i S T V W c x y;simp only at c x y;subst c;obtain rfl:=jh x;obtain rfl:=jh y;exact JR h b k p r
 .cases b
theorem JT{z:Env}(b:x3 m z o=β e2)(k:bP u a j)(p:Holds u f l)(r:G ⟨m,t⟩ e2 j f Z):bV m t o a l u f Z:=by
 unfold x3 at b;split at b
 .rename_i D first E c
  split at b
  case isFalse=>cases b
  rename_i d;obtain rfl:=Δ b;grind[Jh,List.all_eq_true]
 .rename_i x h c;split at b
  case h_2=>cases b
  rename_i C y;split at b
  case isFalse=>cases b
  rename_i d;obtain rfl:=Δ b;exact Jj x h c C y (JN d.1) d.2 k p r
 .rename_i h c;split at b
  case isFalse=>cases b
  rename_i d;obtain rfl:=Δ b;exact Jl h c d k p r
 .rename_i x h c;split at b
  case h_2=>cases b
  rename_i y;split at b
  case isFalse=>cases b
  rename_i d;obtain rfl:=Δ b;exact Jm x h c y d k p r
 .rename_i h c;split at b
  case isFalse=>cases b
  rename_i d;obtain rfl:=Δ b;exact Jn h c d k p r
 .rename_i F c;exact JS c b k p r
 .cases b
theorem JU(b:x0 m o.op=β e2)(C:bP u a j)(r:Holds u f l)(x:G ⟨m,t⟩ e2 j f Z):bV m t o a l u f Z:=by
 have lZ:∀mt d h v,(o.op=.mapUpdate mt d h v\/o.op=.insert mt d h v)->(match m.underlying mt with
  |some (.map k _)=>match flatK m 20 k with
   |some p=>if s6 m k p=η/\aQ d=η/\aQ h=η/\aQ v=η then β (.lo (ng p) d h v)else ζ
   |none=>ζ
  |_=>ζ)=β e2->bV m t o a l u f Z:=by
  intro mt d h v E b;split at b
  case h_2=>cases b
  rename_i k y hm;split at b
  case h_2=>cases b
  rename_i p z;split at b
  case isFalse=>cases b
  rename_i c;obtain rfl:=Δ b;exact Jy mt k y d h v E hm (BB z c.1) c.2.1 c.2.2.1 c.2.2.2 C r x
 generalize D:o.op=S at b;unfold x0 at b;split at b
 .obtain rfl:=Δ b;exact Jv _ D r x
 .split at b
  case h_2=>cases b
  rename_i k y hm;split at b
  case h_2=>cases b
  rename_i p T z F;split at b
  case h_2=>cases b
  rename_i L P;split at b
  case isFalse=>cases b
  rename_i c;obtain rfl:=Δ b;exact Jx _ k y _ _ _ D hm (BB z c.1) F P (aZ.ofConst u L c.2.1) c.2.2.1 c.2.2.2 C r x
 .simp_all
 .simp_all
 .cases b
theorem JV{g:Env}{F:Call}(L:o.op=.call F)(b:x4 m g F=β e2)(P:bP u a j)(S:Holds u f l)(T:G ⟨m,t⟩ e2 j f Z):bV m t o a l u f Z:=by
 obtain⟨k5,k6,i⟩:=F;unfold x4 at b;split at b
 .rename_i r k c d h;simp only at c d h;subst c;obtain rfl:=qI d;obtain rfl:=qI h;split at b
  case h_2=>cases b
  rename_i x y;split at b
  case isFalse=>cases b
  rename_i p;obtain rfl:=Δ b;exact Jz k r L x y p P S T
 .rename_i r k c d h;simp only at c d h;subst c;obtain rfl:=qI d;obtain rfl:=qI h;split at b
  case h_2=>cases b
  rename_i x y;split at b
  case h_2=>cases b
  rename_i n q;split at b
  case h_2=>cases b
  rename_i s v;split at b
  case isFalse=>cases b
  rename_i p;obtain rfl:=Δ b;grind[JC,List.all_eq_true]
 .rename_i r C k W c d h;simp only at c d h;subst c;obtain rfl:=jh d;obtain rfl:=jh h;split at b
  case isFalse=>cases b
  split at b
  case h_2=>cases b
  rename_i x y;split at b
  case h_2=>cases b
  rename_i w A;split at b
  case isFalse=>cases b
  rename_i p;obtain rfl:=Δ b;exact JE k W r C L x y w A p.1 p.2 P S T
 .rename_i r C k k7 c d h;simp only at c d h;subst c;obtain rfl:=jh d;obtain rfl:=jh h;split at b
  case h_2=>cases b
  rename_i k8 k9;split at b
  case h_2=>cases b
  rename_i x y;split at b
  case h_2=>cases b
  rename_i n q;split at b
  case h_2=>cases b
  rename_i s v;split at b
  case isFalse=>cases b
  rename_i p;obtain rfl:=Δ b;grind[JG,List.all_eq_true]
 .rename_i B r C c d;simp only at c d;subst c;obtain rfl:=jh d;split at b
  case isFalse=>cases b
  rename_i p;obtain rfl:=Δ b;obtain⟨z,H,I⟩:=p;unfold BC at z;split at z
  case h_2=>cases z
  rename_i D K;simp only[Υ,beq_iff_eq,aaM,a8R]at z;obtain⟨⟨⟨⟨⟨⟨⟨e,M⟩,N⟩,O⟩,Q⟩,X⟩,Y⟩,E⟩:=z;split at E
  case h_2=>cases E
  rename_i k W j9;simp only[Υ,beq_iff_eq]at E;obtain⟨rfl,V⟩:=E;split at V
  case h_2=>cases V
  rename_i x y;obtain⟨k0,k1⟩:=a7Y.1 V;have k2:=jh j9;have k3:Extern.findNext D=none:=by simp[Extern.findNext,e,O,JO]
  have k4:Extern.find D=β (Extern.SlicesOverlaps.overlaps #[k,k] D.resultTypes):=by simp[Extern.find,e,Q,X,Y,JP,JQ,k2]
  exact JF B D r C i L K N (by rw[M];rfl) k3 k _ k4 x y k0.size (by rw[k1];rfl) H I P S T
 .cases b
def JW{r:Env}(b:x5 m r o=β e2)(h:bP u a j)(k:Holds u f l)(p:G ⟨m,t⟩ e2 j f Z):bV m t o a l u f Z:=by
 unfold x5 at b;split at b
 .rename_i x y z C D d;split at b
  case isFalse=>cases b
  split at b
  case h_2=>cases b
  rename_i E F;split at b
  case h_2=>cases b
  rename_i L P;split at b
  case isFalse=>cases b
  rename_i c;obtain rfl:=Δ b;exact JB x y z C D d c.2.2.2.2 E F L P c.1 c.2.1 c.2.2.1 c.2.2.2.1 h k p
 .rename_i S d;exact JV d b h k p
 .cases b
def JX{r:Env}(b:x6 m r o=β e2)(d:bP u a j)(h:Holds u f l)(k:G ⟨m,t⟩ e2 j f Z):bV m t o a l u f Z:=by
 unfold x6 at b;split at b
 .rename_i p c;obtain rfl:=Δ b;exact JW c d h k
 split at b
 .rename_i p c;obtain rfl:=Δ b;exact JU c d h k
 .split at b
  .rename_i p c;obtain rfl:=Δ b;exact JT c d h k
  .exact JM b d h k
end
structure ca where
 dst:Option Nat
 op:cd
 guard:Option (Nat×Bool)
def E(h:Ctx)(c:ca)(d:Fr)(a:U)(b:R->U->Prop):Prop:=
 match c.guard with
 |none=>G h c.op d a b
 |some (k,want)=>match d k with
  |.v (.bool o)=>if o=want then G h c.op d a b else b (.aJ []) a
  |.aJ []=>b (.aJ []) a
  |_=>False
def T(c:Ctx)(a:ca)(d:Fr->U->Prop)(b:Fr)(h:U):Prop:=E c a b h λk o=>d (dj b a.dst k) o
def ji(b:Ctx):List ca->(Fr->U->Prop)->Fr->U->Prop
 |[],a=>a
 |c::d,a=>T b c (ji b d a)
variable{K:Ctx}
theorem ni{b:ca}(c:∀d h,t d h->Z d h)(a:E K b j f t):E K b j f Z:=by
 unfold E at*;cases k:b.guard with
 |none=>rw[k]at a;exact B7 c a
 |some fN=>
  obtain⟨p,r⟩:=fN;rw[k]at a;simp only at a|-;split at a
  .split at a
   .next o=>rw[if_pos o];exact B7 c a
   simp_all
  .exact c _ _ a
  .omega
variable{j8:Fr -> U -> Prop}
def s7{b:ca}{c:Fr->U->Prop}(h:∀j d,j8 j d->c j d)(a:T K b j8 j f):T K b c j f:=ni (λ_ _ a=>h _ _ a) a
def tmpsOf(a:List Operand):ϋ:=a.filterMap λ|.tmp b=>β b|_=>ζ
def cd.operands:cd->List Operand
 |.fg a|.qE _ a|.mV a|.kt a|.mW a|.box _ a|.ll _ a|.qD a|.pq a|.mU _ a|.load _ _ a|.qz a|.ln _ a|.po _ _ _ a|.len a|.qB a|.pn a|.un _ a|.je _ a|.ext a _|.mX a|.mY _ _ a=>[a]
 |.pick d h k=>[d,h,k]
 |.alloc _ _|.ku=>[]
 |.kv _ _ _ a c=>[a,c]
 |.lo _ a c v=>[a,c,v]
 |.bG _ first cap=>first++cap
 |.jf a args=>a::args
 |.store _ a b|.mS _ a b|.qA _ _ a b|.dS _ a b|.pj _ _ _ a b|.ma a b|.bin _ a b|.eqv _ _ a b|.qC _ a b|.app _ _ a b|.me _ _ a b|.mc _ _ a b|.kr _ _ _ a b|.mT _ a b|.mZ _ a b|.nc _ _ _ a b|.nd a b=>[a,b]
 |.mb _ o=>o.map λp=>p.2.2
 |.ko _ xs=>xs
 |.ks _ xs=>xs
 |.pk _ a aT aS|.kp _ _ a aT aS _|.kq _ _ a aT aS=>a::(aT.toList++aS.toList)
 |.mf _ a aT aS r=>a::(aT.toList++(aS.toList++r.toList))
 |.gg _ args=>args
def ca.reads(a:ca):ϋ:=tmpsOf a.op.operands++(match a.guard with|some (b,_)=>[b]|none=>[])
def JY{a:Fr}{b:List Operand}(d:∀c∈tmpsOf b,j c=a c)(h:X∈b):al j X=al a X:=by
 cases X<;>first
  |rfl
  |exact d _ (aaC.2 ⟨_,h,rfl⟩)
def BD{b c:Fr}{k:ύ->Prop}:∀(d:List (Nat×Nat×Operand))(h:ύ),(∀a∈d,al b a.2.2=al c a.2.2)->(kx b h d k↔kx c h d k)
 |[],_,_=>a9F
 |(off,cf,o)::r,h,p=>by
  have x:al b o=al c o:=p _ (a9k);simp only[kx,x];rw[BD r _ (λa y=>p a (a8L _ y))]
theorem pv{c:Fr}{a:Option Operand}(h:∀b∈a.toList,al j b=al c b)(d:Nat):dc j a d=dc c a d:=by
 cases a with
 |none=>rfl
 |some b=>simp only[dc,h b ς]
theorem BE{k:Fr}(z:∀r∈tmpsOf e2.operands,j r=k r)(x:U)(y:R->U->Prop):G K e2 j x y↔G K e2 k x y:=by
 have a:∀d∈e2.operands,al j d=al k d:=λd C=>JY z C;cases e2<;>simp only[cd.operands,a7J,a8J,or_false,forall_eq_or_imp,forall_eq,a7z]at a<;>simp only[G]
 case mb D E=>exact BD E D (λF L=>a _ (a7G.2 ⟨F,L,rfl⟩))
 case ko h P=>rw[a8W a]
 case ks h P=>rw[a8W a]
 case gg S T=>rw[a8W a]
 case jf d T=>rw[a.1,a8W a.2]
 case bG S first W=>grind[List.map_congr_left]
 case pk h d o p=>simp only[a.1,pv (λb c=>a.2 b (.inl c)),pv (λb c=>a.2 b (.inr c))]
 case mf h d o p e=>simp only[rX,a.1,pv (λb c=>a.2 b (.inl c)),pv (λb c=>a.2 b (.inr (.inl c))),pv (λb c=>a.2 b (.inr (.inr c)))]
 case kp h V d o p f=>grind[pv]
 case kq h V d o p=>grind[pv]
 all_goals simp_all
def JZ{a:ca}{h:Fr}(k:∀b∈a.reads,j b=h b)(c:U)(d:R->U->Prop):E K a j c d↔E K a h c d:=by
 have o:=λb p=>k b (a9B _ p);unfold E;cases r:a.guard with
 |none=>exact BE o c d
 |some fN=>
  obtain⟨x,z⟩:=fN;have y:=k x (a9w _ (by simp[r]));simp only[y];split
  .split
   .exact BE o c d
   .rfl
  .rfl
  .rfl
def K0(c:Fr)(a:Nat)(b:R):(dj c (β a) b) a=b:=by simp[dj,lZ]
theorem ub(c:Fr)(a:Option Nat)(d:R)(b:Nat)(h:a≠β b):(dj c a d) b=c b:=by
 cases a with
 |none=>rfl
 |some a=>simp[dj,lZ,Ι (λk=>h (by rw[k]):a≠b)]
theorem qJ(d:Fr)(a b:Option Nat)(h k:R)(o:∀c,a=β c->b≠β c):dj (dj d a h) b k=dj (dj d b k) a h:=by
 cases a with
 |none=>rfl
 |some a=>
  cases b with
  |none=>rfl
  |some b=>have r:a≠b:=λp=>o a rfl (by rw[p]);funext c;simp only[dj,lZ];grind
theorem lv{b:ca}(c:Option Nat)(p:∀a,c=β a->a∉b.reads)(d:Fr)(o:R)(h:U)(k:R->U->Prop):E K b (dj d c o) h k↔E K b d h k:=
 JZ (λa r=>ub d c o a (λx=>p a x r)) h k
theorem U.ef(a:U)(d:e≠i)(b c:bu):(a.set e b).set i c=(a.set i c).set e b:=by grind[U.set]
theorem U.K1(a:U)(c:e≠i)(b:bu):(a.set e b).del i=(a.del i).set e b:=by grind[U.set,U.del]
theorem U.uc(a:U)(b:Nat)(c:bu)(d:a b=ζ):a.join (U.emp.set b c)=a.set b c:=by grind[U.join,U.set,U.emp]
theorem qK(c:U)(b:Nat)(d:bu):c.qt (U.emp.set b d)↔c b=none:=by
 constructor
 .intro a;rcases a b with a|a
  .exact a
  .simp[U.set]at a
 .intro a h;grind[U.set,U.emp]
def s8(b:Nat)(c:bu)(d:R->U->Prop):R->U->Prop:=λh k=>∃a,d h a/\a b=ζ/\k=a.set b c
theorem s9(a:U)(c:bu)(d:a e=ζ)(b:a.read i=β g):(a.set e c).read i=β g:=by
 have h:i≠e:=by rintro rfl;simp[U.read,d]at b
 simpa[U.read,ο _ _ h] using b
theorem BG(a:U)(d:bu)(h:a e=ζ){b:Nat×ύ}(c:bW a i n=β b):bW (a.set e d) i n=β b:=by
 unfold bW at c|-;split
 .exact c
 grind[s9];grind[s9];simp_all
theorem K2(a:U)(c:bu)(h:a e=ζ){d:Nat×ύ}(b:nf a i n=β d):nf (a.set e c) i n=β d:=by
 unfold nf at b|-;split
 .exact b
 .rename_i k;split at b
  .simp_all
  .exact BG a c h b
theorem K3(b:U)(c:bu)(h:b e=ζ)(a:lq i g n b=β f):lq i g n (b.set e c)=β (f.set e c)/\f e=none:=by
 unfold lq at a|-;split at a
 .rename_i k o p r x;split at a
  case h_2=>cases a
  rename_i y d;have z:k≠e:=by rintro rfl;rw[h]at d;cases d
  split at a
  case isFalse=>cases a
  rename_i C;obtain rfl:=Δ a;simp_all [ο,U.ef,Ι]
 simp_all
 .cases a
theorem K4(c:U)(d:bu)(h:c e=ζ){o:R}(a:mg i n b5 c=β (o,f)):mg i n b5 (c.set e d)=β (o,f.set e d)/\f e=none:=by
 unfold mg at a|-;split at a
 case h_2=>cases a
 rename_i E F p;rw[BG c d h p];simp only;split at a
 .rename_i k G r x y;split at a
  case h_2=>cases a
  rename_i z b;have C:k≠e:=by rintro rfl;rw[h]at b;cases b
  split at a
  case isFalse=>cases a
  rename_i D;simp only[a7y,a8x]at a;obtain⟨rfl,rfl⟩:=a;simp_all [ο,U.ef,Ι]
 .rename_i k r x y;split at a
  case h_2=>cases a
  rename_i z b;have C:k≠e:=by rintro rfl;rw[h]at b;cases b
  split at a
  case isFalse=>cases a
  rename_i D;simp only[a7y,a8x]at a;obtain⟨rfl,rfl⟩:=a;simp_all [ο,U.ef,Ι]
 simp_all
 .cases a
theorem K5(a:U)(c:bu)(h:a e=ζ){d:R}(k:lr n b5 a=β d):lr n b5 (a.set e c)=β d:=by
 have p:∀b,ky a b=η->ky (a.set e c) b=true:=λb o=>by
  have r:b≠e:=by rintro rfl;simp[ky,h]at o
  grind[ky,ο]
 unfold lr at k|-;grind
variable{Y:bu}
theorem BH(d:f e=ζ)(a:G K e2 j f t):G K e2 j (f.set e Y) (s8 e Y t):=by
 have y:∀z,t z f->s8 e Y t z (f.set e Y):=λz g=>⟨f,g,d,rfl⟩;have l8:∀(c)(F)(z),(f.set e Y) c=ζ->(f c=ζ->t z (f.set c F))->s8 e Y t z ((f.set e Y).set c F):=λc F z S L=>by
  have b:e≠c:=by rintro rfl;simp[U.set]at S
  rw[ο _ _ (Ι b)]at S;exact⟨_,L S,by rw[ο _ _ b];exact d,U.ef f b Y F⟩
 cases e2<;>simp only[G]at a|-
 case gg l9 Z=>
  have:=hS.frame a ((qK f e Y).2 d);rw[U.uc f e Y d]at this;refine this.mono (λz j9 ⟨r,i,V,l⟩=>⟨r,i,(qK r e Y).1 V,?_⟩) (λ_ _ a=>a);rw[l,U.uc r e Y ((qK r e Y).1 V)]
 case jf k Z=>
  split at a
  case h_2=>omega
  refine⟨a.1,?_⟩;have:=hS.frame a.2 ((qK f e Y).2 d);rw[U.uc f e Y d]at this;refine this.mono (λz j9 ⟨r,i,V,l⟩=>⟨r,i,(qK r e Y).1 V,?_⟩) (λ_ _ a=>a);rw[l,U.uc r e Y ((qK r e Y).1 V)]
 case mX k=>grind
 case mf=>grind
 case mY x m k=>
  split at a
  case h_2=>exact a.elim
  rename_i r n;obtain⟨q,s⟩:=K3 f Y d n;rw[q];exact⟨r,a,s,rfl⟩
 case mZ x k D=>
  split at a
  case h_2=>exact a.elim
  rename_i z r n;obtain⟨q,s⟩:=K4 f Y d n;rw[q];exact⟨r,a,s,rfl⟩
 case nd k D=>
  grind[K5]
 case nc x bytes m k D=>
  grind[s9]
 case ku=>grind
 case pn k=>
  split at a
  case h_2=>omega
  next c C=>
  split at a
  case h_2=>exact a.elim
  next I M p=>
  have b:c≠e:=by rintro rfl;rw[d]at p;cases p
  rw[ο _ _ b,p];exact y _ a
 case kv n0 k0 m k x=>
  split at a
  case h_2=>omega
  next c E C k1=>
  split at a
  case h_2=>exact a.elim
  next I M p=>
  have b:c≠e:=by rintro rfl;rw[d]at p;cases p
  grind[ο,dM]
 case lo k0 k x v=>
  split at a
  case h_2=>omega
  next c E C k1=>
  split at a
  case h_2=>exact a.elim
  next I M p=>
  have b:c≠e:=by rintro rfl;rw[d]at p;cases p
  rw[ο _ _ b,p];exact⟨a.1,a.2.1,_,a.2.2,by rw[ο _ _ (Ι b)];exact d,U.ef f (Ι b) Y _⟩
 case kt k=>grind
 case mV k=>
  split at a
  case h_2=>omega
  obtain⟨k2,S,L⟩:=a;refine⟨k2,λc F k3=>?_,L⟩;have:=S c F k3;have b:c≠e:=by grind
  rw[ο _ _ b];exact this
 case mW k=>
  split at a
  case h_2=>omega
  next c W C=>
  refine⟨a.1,?_⟩;have L:=a.2;split at L
  case h_2=>trivial
  next n1 n2 p=>
  have b:c≠e:=by rintro rfl;rw[d]at p;cases p
  rw[ο _ _ b,p];simp only;split
  .next k4=>rw[if_pos k4]at L;exact⟨_,L,by rw[ο _ _ (Ι b)];exact d,U.ef f (Ι b) Y _⟩
  simp_all
 case mb k5 n3=>exact wE (λE h=>y _ h) _ _ a
 case alloc T k5=>grind
 case box T k=>simp_all
 case ll T k=>simp_all
 case kr x bytes m k D=>grind
 case mc=>grind
 case mU k6 k=>
  grind
 case ks x N=>
  grind
 case me x bytes k D=>
  split at a
  case h_2=>exact a.elim
  rename_i n4 u k7;rw[K2 f Y d k7];simp only;split at a;grind
  .next c P w A C=>
   split at a
   case h_3=>exact a.elim
   all_goals
   rename_i E h;have b:c≠e:=by rintro rfl;rw[d]at h;cases h
   rw[ο _ _ b,h];refine⟨a.1,a.2.1,a.2.2.1,a.2.2.2.1,?_⟩;have o:=a.2.2.2.2;split
   .next B=>rw[if_pos B]at o;exact⟨_,o,by rw[ο _ _ (Ι b)];exact d,U.ef f (Ι b) Y _⟩
   simp_all
  .next c W P w A C=>
   split at a
   case h_2=>exact a.elim
   rename_i E h;have b:c≠e:=by rintro rfl;rw[d]at h;cases h
   rw[ο _ _ b,h];refine⟨a.1,a.2.1,a.2.2.1,a.2.2.2.1,?_⟩;have o:=a.2.2.2.2;split
   .next B=>rw[if_pos B]at o;exact⟨_,o,by rw[ο _ _ (Ι b)];exact d,U.ef f (Ι b) Y _⟩
   simp_all
  .omega
 case mS k6 k D=>
  have O:∀c,lp f c=η->lp (f.set e Y) c=true:=λc a=>by
   have b:c≠e:=by rintro rfl;simp[lp,d]at a
   unfold lp at a|-;rw[ο _ _ b];exact a
  split at a
  .exact y _ a
  .exact y _ a
  .exact y _ a
  .exact⟨⟨O _ a.1.1,O _ a.1.2⟩,y _ a.2⟩
  .exact a.elim
 case kq x P k k8 k9=>
  split at a
  .next c W C=>
   split at a
   .refine⟨a.1,a.2.1,a.2.2.1,?_⟩;have o:=a.2.2.2;split at o
    .next E h=>
     have b:c≠e:=by rintro rfl;rw[d]at h;cases h
     grind[ο]
    .trivial
   .omega
  .omega
 case mT x k D=>
  split at a
  .next c W P w A u l0 C l1=>
   refine⟨a.1,a.2.1,?_⟩;have o:=a.2.2;split at o
   .next E h=>
    have b:c≠e:=by rintro rfl;rw[d]at h;cases h
    rw[ο _ _ b,h];exact⟨o.1,_,o.2,by rw[ο _ _ (Ι b)];exact d,U.ef f (Ι b) Y _⟩
   .trivial
  .next c P w A u l0 C l1=>
   refine⟨a.1,a.2.1,?_⟩;have o:=a.2.2;split at o
   .next E h=>
    have b:c≠e:=by rintro rfl;rw[d]at h;cases h
    rw[ο _ _ b,h];exact⟨o.1,_,o.2,by rw[ο _ _ (Ι b)];exact d,U.ef f (Ι b) Y _⟩
   .trivial
  .omega
 case ko x N=>
  grind
 case load n5 P k=>
  grind[s9]
 case store P k D=>
  split at a
  .next c W C=>
   split at a
   case h_2=>exact a.elim
   next h=>
    have b:c≠e:=by rintro rfl;rw[d]at h;cases h
    rw[ο _ _ b,h];exact⟨a.1,a.2.1,_,a.2.2,by rw[ο _ _ (Ι b)];exact d,U.ef f (Ι b) Y _⟩
  .omega
 case kp x P k k8 k9 n9=>
  split at a
  .next c W C=>
   split at a
   .refine⟨a.1,a.2.1,a.2.2.1,?_⟩;have o:=a.2.2.2;split at o
    .next E h=>
     have b:c≠e:=by rintro rfl;simp[U.read,d]at h
     rw[s9 f Y d h];refine⟨o.1,?_⟩;have Q:=o.2;split
     .next g=>rw[if_pos g]at Q;exact⟨_,Q,by rw[ο _ _ (Ι b)];exact d,U.ef f (Ι b) Y _⟩
     simp_all
    .trivial
   .omega
  .omega
 case app x bytes k D=>
  split at a<;>try exact a.elim
  rename_i N l2 u F _ _;refine⟨a.1,a.2.1,a.2.2.1,a.2.2.2.1,?_⟩;have o:=a.2.2.2.2;cases l2<;>simp only at o|-;grind;grind
  case buf l3 a00 _=>
   have b:l3≠e:=by rintro rfl;rw[d]at o;cases o.1
   refine⟨by rw[ο _ _ b];exact o.1,λX l4 l5=>?_⟩;have H:X≠e:=by rintro rfl;grind[ξ]
   have l6:=l5.imp id (λa=>by rwa[ο _ _ H]at a);refine⟨_,o.2 X l4 l6,by rw[ο _ _ (Ι H),U.eN _ (Ι b)];exact d,?_⟩;rw[U.K1 f (Ι b) Y,U.ef _ (Ι H) Y]
 case pick=>grind
 case dS x k l7=>
  grind
 case ma k l7=>
  grind
 all_goals
  (repeat' split at a)<;>first
   |exact a.elim
   |exact y _ a
   |exact⟨a.1,y _ a.2⟩
   |exact⟨a.1,a.2.1,y _ a.2.2⟩
   |exact⟨a.1,a.2.1,a.2.2.1,y _ a.2.2.2⟩
   |exact⟨a.1,a.2.1,a.2.2.1,a.2.2.2.1,y _ a.2.2.2.2⟩
   |exact⟨a.1,a.2.1,a.2.2.1,a.2.2.2.1,a.2.2.2.2.1,y _ a.2.2.2.2.2⟩
theorem x7{b:ca}(c:f e=ζ)(a:E K b j f t):E K b j (f.set e Y) (s8 e Y t):=by
 have k:∀d,t d f->s8 e Y t d (f.set e Y):=λd o=>⟨f,o,c,rfl⟩;unfold E at*;cases h:b.guard with
 |none=>rw[h]at a;exact BH c a
 |some fN=>
  obtain⟨r,x⟩:=fN;rw[h]at a;simp only at a|-;split at a
  .split at a
   .next p=>rw[if_pos p];exact BH c a
   simp_all
  .exact k _ a
  .omega
def nj:cd->Bool
 |.mY _ _ _|.mZ _ _ _|.nc _ _ _ _ _|.nd _ _|.alloc _ _|.ku|.pn _|.kv _ _ _ _ _|.lo _ _ _ _|.kt _|.mW _|.mV _|.jf _ _|.box _ _|.ll _ _|.load _ _ _|.store _ _ _|.ko _ _|.kp _ _ _ _ _ _|.kq _ _ _ _ _|.app _ _ _ _|.gg _ _|.kr _ _ _ _ _|.mT _ _ _|.mU _ _|.mS _ _ _|.ks _ _|.me _ _ _ _=>ι
 |_=>η
def oa:cd->Bool
 |.load _ _ _|.kq _ _ _ _ _|.mS _ _ _=>η
 |_=>ι
def lx:cd->Bool
 |.alloc _ _|.ku|.kt _|.box _ _|.ll _ _|.ko _ _|.ks _ _|.kr _ _ _ _ _=>η
 |_=>ι
def BI{k:Fr}:∀(o:List (Nat×Nat×Operand))(b:ύ) {r:ύ->Prop},kx k b o r->∃c,∀a:ύ->Prop,kx k b o a↔a c
 |[],b,_,_=>⟨b,λa=>a9F⟩
 |(off,cf,y)::c,b,_,d=>by
  obtain⟨x,p⟩:=BI c _ d.2.2;exact⟨x,λa=>⟨λh=>(p a).1 h.2.2,λh=>⟨d.1,d.2.1,(p a).2 h⟩⟩⟩
def BJ(a:nj e2=η)(b:G K e2 j f t):∃k,∀(c:U)(d:R->U->Prop),G K e2 j c d↔d k c:=by
 cases e2<;>simp only[nj,a8o]at a<;>simp only[G]at b|-
 case pick=>split at b;(exact⟨_,λc d=>a9F⟩);trivial
 case mX=>split at b;(exact⟨_,λc d=>a9F⟩);trivial
 case mf=>split at b;(exact⟨_,λc d=>a9F⟩);trivial
 case mb x y=>
  obtain⟨k,o⟩:=BI _ _ b;exact⟨.agg k,λc d=>o _⟩
 case mc=>split at b;(exact⟨_,λc d=>⟨λa=>a.2,λa=>⟨b.1,a⟩⟩⟩);trivial
 case dS z p r=>
  split at b
  .have h:=b.2;split at h
   .exact⟨_,λc d=>⟨λa=>a.2.2,λa=>⟨b.1,h.1,a⟩⟩⟩
   .trivial
  .exact⟨_,λc d=>⟨λa=>a.2.2.2,λa=>⟨b.1,b.2.1,b.2.2.1,a⟩⟩⟩
  .exact⟨_,λc d=>⟨λa=>a.2.2.2,λa=>⟨b.1,b.2.1,b.2.2.1,a⟩⟩⟩
  .trivial
 case ma p r=>
  split at b
  .have h:=b.2;split at h
   .exact⟨_,λc d=>⟨λa=>a.2,λa=>⟨b.1,a⟩⟩⟩
   .trivial
  .trivial
 all_goals
  (repeat' split at b)<;>first
   |exact b.elim
   |exact⟨_,λc d=>a9F⟩
   |exact⟨_,λc d=>⟨λa=>a.2,λa=>⟨b.1,a⟩⟩⟩
   |exact⟨_,λc d=>⟨λa=>a.2.2,λa=>⟨b.1,b.2.1,a⟩⟩⟩
   |exact⟨_,λc d=>⟨λa=>a.2.2.2,λa=>⟨b.1,b.2.1,b.2.2.1,a⟩⟩⟩
   |exact⟨_,λc d=>⟨λa=>a.2.2.2.2,λa=>⟨b.1,b.2.1,b.2.2.1,b.2.2.2.1,a⟩⟩⟩
   |exact⟨_,λc d=>⟨λa=>a.2.2.2.2.2,λa=>⟨b.1,b.2.1,b.2.2.1,b.2.2.2.1,b.2.2.2.2.1,a⟩⟩⟩
def BK(a:oa e2=η)(b:G K e2 j f t):∃h,∀(c:R->U->Prop),G K e2 j f c↔c h f:=by
 cases e2<;>simp only[oa,a8o]at a<;>simp only[G]at b|-
 case load=>
  split at b
  .split at b
   .exact⟨_,λc=>⟨λa=>a.2,λa=>⟨b.1,a⟩⟩⟩
   .trivial
  .exact⟨_,λc=>⟨λa=>a.2,λa=>⟨b.1,a⟩⟩⟩
  .trivial
 case kq=>
  split at b
  .split at b
   .have d:=b.2.2.2;split at d
    .exact⟨_,λc=>⟨λa=>a.2.2.2.2,λa=>⟨b.1,b.2.1,b.2.2.1,d.1,a⟩⟩⟩
    .trivial
   .trivial
  .trivial
 case mS=>
  (repeat' split at b)<;>first
   |exact b.elim
   |exact⟨_,λc=>a9F⟩
   |exact⟨_,λc=>⟨λa=>a.2,λa=>⟨b.1,a⟩⟩⟩
def BL(a:lx e2=η)(b:G K e2 j U.emp λ_ _=>True):
  (∃y,∀(c:U)(d:R->U->Prop),G K e2 j c d↔d y c)\/∃(z:Nat->R)(C:Nat->bu),∀(c:U)(d:R->U->Prop),G K e2 j c d↔ ∀r,c r=ζ->d (z r) (c.set r (C r)):=by
 cases e2<;>simp only[lx,a8o]at a<;>simp only[G]at b|-
 case alloc T D=>exact .inr ⟨_,_,λc d=>a9F⟩
 case ku=>exact .inr ⟨_,λ_=> _,λc d=>a9F⟩
 case kt x=>split at b;(exact .inr ⟨_,λ_=> _,λc d=>a9F⟩);trivial
 case box T x=>exact .inr ⟨_,λ_=> _,λc d=>⟨λa=>a.2,λa=>⟨b.1,a⟩⟩⟩
 case ll T x=>exact .inr ⟨_,λ_=> _,λc d=>⟨λa=>a.2,λa=>⟨b.1,a⟩⟩⟩
 case kr k bytes E x F=>split at b;(exact .inr ⟨λo=>.aq o _ _ k,λ_=> _,λc d=>⟨λa=>a.2.2.2.2,λa=>⟨b.1,b.2.1,b.2.2.1,b.2.2.2.1,a⟩⟩⟩);trivial
 case ko k h=>
  by_cases p:α h=0
  .simp only[if_pos p]at b|-;exact .inl ⟨_,λc d=>⟨λa=>a.2,λa=>⟨b.1,a⟩⟩⟩
  .simp only[if_neg p]at b|-;exact .inr ⟨λo=>.J (h.map (al j)) (.buf o (α h)),λ_=>.buf k (α h) (α h),λc d=>⟨λa=>a.2,λa=>⟨b.1,a⟩⟩⟩
 case ks k h=>
  by_cases p:α h=0
  .simp only[if_pos p]at b|-;exact .inl ⟨_,λc d=>⟨λa=>a.2,λa=>⟨b.1,a⟩⟩⟩
  .simp only[if_neg p]at b|-;exact .inr ⟨λo=>.aq o (α h) (α h) k,λ_=>.cells (flat (h.map (al j))),λc d=>⟨λa=>a.2,λa=>⟨b.1,a⟩⟩⟩
theorem BM(a:lx e2=η)(b:G K e2 j f t):G K e2 j U.emp λ_ _=>True:=by
 cases e2<;>simp only[lx,a8o]at a<;>simp only[G]at b|-;simp
 case ku=>simp
 case kt c=>grind
 simp_all;simp_all
 case kr=>grind
 simp_all;simp_all
def Def(a:Ctx)(b:ca)(c:Fr):Prop:=E a b c U.emp λ_ _=>True
def x8{b:ca}(k:nj b.op=η)(a:E K b j f t):∃p,∀(c:U)(d:R->U->Prop),E K b j c d↔d p c:=by
 unfold E at*;cases o:b.guard with
 |none=>rw[o]at a;exact BJ k a
 |some fN=>
  obtain⟨r,x⟩:=fN;rw[o]at a;simp only at a|-;split at a
  .split at a
   .next h=>simp only[if_pos h];exact BJ k a
   .next h=>simp only[if_neg h];exact⟨_,λc d=>a9F⟩
  .exact⟨_,λc d=>a9F⟩
  .trivial
theorem ud{b:ca}(h:oa b.op=η)(a:E K b j f t):∃o,∀(c:R->U->Prop),E K b j f c↔c o f:=by
 unfold E at*;cases k:b.guard with
 |none=>rw[k]at a;exact BK h a
 |some fN=>
  obtain⟨p,r⟩:=fN;rw[k]at a;simp only at a|-;split at a
  .split at a
   .next d=>simp only[if_pos d];exact BK h a
   .next d=>simp only[if_neg d];exact⟨_,λc=>a9F⟩
  .exact⟨_,λc=>a9F⟩
  .trivial
theorem K6{b:ca}(c:lx b.op=η)(a:E K b j f t):Def K b j:=by
 unfold Def;unfold E at*;cases d:b.guard with
 |none=>rw[d]at a;exact BM c a
 |some fN=>
  obtain⟨k,o⟩:=fN;rw[d]at a;simp only at a|-;split at a
  .split at a
   .next h=>rw[if_pos h];exact BM c a
   .simp_all
  .trivial
  .trivial
def BN{d:ca}(o:lx d.op=η)(a:Def K d j):
  (∃r,∀(b:U)(c:R->U->Prop),E K d j b c↔c r b)\/∃(x:Nat->R)(y:Nat->bu),∀(b:U)(c:R->U->Prop),E K d j b c↔ ∀h,b h=ζ->c (x h) (b.set h (y h)):=by
 unfold Def at a;unfold E at*;cases p:d.guard with
 |none=>rw[p]at a;exact BL o a
 |some fN=>
  obtain⟨z,C⟩:=fN;rw[p]at a;simp only at a|-;split at a
  .split at a
   .next k=>simp only[if_pos k];exact BL o a
   .next k=>simp only[if_neg k];exact .inl ⟨_,λb c=>a9F⟩
  .exact .inl ⟨_,λb c=>a9F⟩
  .trivial
structure dg where
 i:Nat
 pre:ϋ
 jP:ϋ
section
variable(P:Ctx)(xs:Nat->ca)
def hB(a:Nat)(b:Fr)(c:U):Prop:=
 match(xs a).dst with
 |some d=>E P (xs a) b c λh _=>h=b d
 |none=>True
def can(c:Fr->U->Prop):List dg->Fr->U->Prop
 |[]=>c
 |a::o=>λd p=>(∀b∈a.pre,Def P (xs b) d)/\T P (xs a.i) (λh k=>(∀b∈a.jP,hB P xs b h k)/\can c o h k) d p
def clear(a:Option Nat)(b:ϋ):Bool:=match a with|some c=> !b.contains c|none=>η
def mj(a b:Option Nat):Bool:=match a,b with|some c,β d=>c !=d|_,_=>η
def indep(a b:dg)(d:ϋ):Bool:=
  clear (xs a.i).dst (xs b.i).reads&&clear (xs b.i).dst (xs a.i).reads&&mj (xs a.i).dst (xs b.i).dst&&
  b.jP.all (λc=>c==a.i||d.contains c||(clear (xs a.i).dst (xs c).reads&&mj (xs a.i).dst (xs c).dst))&&
  ((a.pre.isEmpty&&a.jP.isEmpty&&(nj (xs a.i).op||(oa (xs a.i).op&&((nj (xs b.i).op||oa (xs b.i).op||lx (xs b.i).op)||(b.jP.contains a.i&&clear (xs a.i).dst (xs a.i).reads&&(xs a.i).dst.isSome)))))||
   (b.jP.isEmpty&&(nj (xs b.i).op||lx (xs b.i).op)&&a.pre.contains b.i&&a.pre.all (λc=>clear (xs b.i).dst (xs c).reads)&&
     a.jP.all (λc=>clear (xs b.i).dst (xs c).reads&&mj (xs b.i).dst (xs c).dst)))
variable{P xs}
theorem sa{b:Option Nat}{c:ϋ}(d:clear b c=η):∀a,b=β a->a∉c:=by intro a h;subst h;simpa[clear] using d
theorem BO{a b:Option Nat}(d:mj a b=η):∀c,a=β c->b≠β c:=by grind[mj]
theorem BP{a:Option Nat}(h:clear a (xs e).reads=η)(k:mj a (xs e).dst=η)(b:Fr)(d:R)(c:U):hB P xs e (dj b a d) c↔hB P xs e b c:=by
 unfold hB;cases o:(xs e).dst with
 |none=>rfl
 |some p=>grind[lv,sa,ub,BO]
theorem K7(b:f i=ζ)(a:hB P xs e j f):hB P xs e j (f.set i Y):=by
 unfold hB at*;cases c:(xs e).dst with
 |none=>trivial
 |some h=>rw[c]at a;exact ni (λk o ⟨p,d,_,_⟩=>d) (x7 b a)
def Pass(a:Nat->ca)(b:dg):List dg->Prop
 |[]=>True
 |d::c=>indep a d b (c.map (·.i))=η/\Pass a b c
theorem BQ{C:Fr->U->Prop}(h:dg)(e:List dg):∀(p:List dg),Pass xs h p->(p.map (·.i)).Nodup->∀(k:Fr)(o:U),can P xs C (p++h::e) k o->
  T P (xs h.i) (λS d=>(∀a∈h.jP,a∉p.map (·.i)->hB P xs a S d)/\can P xs C (p++e) S d) k o
 |[],_,_,k,o,q=>s7 (λS d D=>⟨λa y _=>D.1 a y,D.2⟩) q.2
 |r::p,hk,n3,k,o,q=>by
  have A:=hk.1;have Z:(p.map (·.i)).Nodup:=by simp_all
  have j9:r.i∉p.map (·.i):=by simp_all
  have ih:=BQ (C:=C) h e p hk.2 Z;obtain⟨k0,B⟩:=q;simp only[indep,Υ]at A;obtain⟨⟨⟨⟨k1,k2⟩,a3⟩,a4⟩,H⟩:=A;have i:=sa k1;have c2:=sa k2;have aE:=BO a3;have n4:∀a∈h.jP,a≠r.i->a∉p.map (·.i)->clear (xs r.i).dst (xs a).reads=η/\mj (xs r.i).dst (xs a).dst=true:=λa y n5 n9=>by
   grind
  have W:T P (xs r.i) (λS d=>(∀a∈r.jP,hB P xs a S d)/\T P (xs h.i) (λI K=>(∀a∈h.jP,a∉p.map (·.i)->hB P xs a I K)/\can P xs C (p++e) I K) S d) k o:=
   s7 (λS d D=>⟨D.1,ih S d D.2⟩) B
  clear B ih;simp only[a8Z,Υ]at H;rcases H with⟨⟨k3,k4⟩,k5⟩|⟨⟨⟨⟨k6,k7⟩,k8⟩,a00⟩,a01⟩
  .
   have k9:=aaP.1 k3;have a02:=aaP.1 k4;have j:∀(x:R)(b:R)(d:U),(∀G,E P (xs r.i) k d G↔G x d)->
     ((∀a∈h.jP,a∉p.map (·.i)->hB P xs a (dj (dj k (xs r.i).dst x) (xs h.i).dst b) d)/\can P xs C (p++e) (dj (dj k (xs r.i).dst x) (xs h.i).dst b) d)->
     (∀a∈h.jP,a∉(r::p).map (·.i)->hB P xs a (dj k (xs h.i).dst b) d)/\can P xs C (r::p++e) (dj k (xs h.i).dst b) d:=λx b d V g=>by
    rw[qJ k _ _ x b aE]at g;refine⟨λa y l0=>?_,?_⟩
    .simp only[a7C,a7J,not_or]at l0;grind[BP]
    .refine⟨by rw[k9];simp,?_⟩;simp_all [T,lv]
   rcases k5 with l1|⟨l2,l3⟩
   .obtain⟨x,V⟩:=x8 l1 W;have s:=(V o _).1 W;have c:=s.2;unfold T at c|-;rw[lv _ i]at c;exact ni (λb d g=>j x b d (λG=>V d G) g) c
   .obtain⟨x,V⟩:=ud l2 W;have s:=(V _).1 W;have c:=s.2;unfold T at c|-;rw[lv _ i]at c;rcases l3 with t|⟨⟨l4,l5⟩,l6⟩
    .rcases t with t|M
     case inr=>
      rcases BN M (K6 M c)with⟨b,z⟩|⟨f,l,z⟩
      .rw[z]at c|-;exact j x b o V c
      .rw[z]at c|-;intro F m;refine j x (f F) _ ?_ (c F m);have l7:E P (xs r.i) k o λu _=>u=x:=(V _).2 rfl;have a03:=ni (λ_ _ ⟨_,D,_,_⟩=>D) (x7 (Y:=l F) m l7);grind[ud]
     have L:∃b,∀G:R->U->Prop,E P (xs h.i) k o G↔G b o:=by
      rcases t with L|L
      .obtain⟨b,z⟩:=x8 L c;exact⟨b,λG=>z o G⟩
      .exact ud L c
     obtain⟨b,z⟩:=L;rw[z]at c|-;exact j x b o V c
    .refine ni (λb d g=>?_) c;have l8:=g.1 r.i (by simpa using l4) j9;obtain⟨a04,N⟩:=a7Y.1 l6;have a05:E P (xs r.i) k d λu _=>u=x:=by have:=l8;rw[qJ k _ _ x b aE]at this;unfold hB at this;rw[N]at this;simp only at this;rw[K0,<-N,lv _ (sa l5),lv _ c2]at this;exact this
     grind[ud]
  .
   have O:=aaP.1 k6;have Q:=k0 h.i (by simpa using k8);have l9:(∃x,∀(o:U)(C:R->U->Prop),E P (xs h.i) k o C↔C x o)\/∃(f:Nat->R)(l:Nat->bu),∀(o:U)(C:R->U->Prop),E P (xs h.i) k o C↔ ∀F,o F=ζ->C (f F) (o.set F (l F)):=by
    rcases k7 with L|L
    .exact .inl (x8 L Q)
    .exact BN L Q
   have X:∀b,∀a∈r.pre,Def P (xs a) (dj k (xs h.i).dst b):=λb a y=>by
    grind[Def,lv,sa,List.all_eq_true]
   have a06:∀a∈r.jP,∀(w)(b)(n),hB P xs a w n->hB P xs a (dj w (xs h.i).dst b) n:=λa y w b n D=>by
    simp_all [Υ,BP]
   unfold T at W;rcases l9 with⟨b,z⟩|⟨f,l,z⟩
   .unfold T;rw[z];refine⟨λa y=>(by rw[O]at y;cases y),X b,?_⟩;unfold T;rw[lv _ c2];refine ni (λv n0 D=>?_) W;have c:=D.2;rw[lv _ i,z,qJ k _ _ v b aE]at c;refine⟨λa y=>?_,c.2⟩;grind[qJ]
   .unfold T;rw[z];intro F m;refine⟨λa y=>(by rw[O]at y;cases y),X (f F),?_⟩;unfold T;rw[lv _ c2];refine ni (λv n n1=>?_) (x7 m W);obtain⟨n0,D,n2,rfl⟩:=n1;have c:=D.2;rw[lv _ i,z]at c;have Y:=c F n2;rw[qJ k _ _ v (f F) aE]at Y;refine⟨λa y=>?_,Y.2⟩;grind[qJ,K7]
def ue(a:Nat->ϋ):Nat->ϋ->Nat->ϋ
 |0,acc,_=>acc
 |d+1,acc,b=>ue a d (acc++[(a b).foldl (λh c=>h|||2^c|||acc.getD c 0) 0]) (b+1)
def dep(a:ϋ)(b c:Nat):Bool:=(a.getD c 0).testBit b
def kz(c:Nat->ca)(d:ϋ)(a:dg):ϋ->List dg->Bool
 |_,[]=>η
 |h,b::k=>(dep d a.i b.i||indep c a b h)&&kz c d a (h++[b.i]) k
def nk(a:Nat->ca)(b:ϋ):List dg->Bool
 |[]=>η
 |d::c=>kz a b d [] c&&nk a b c
def jj(a:Array Oper)(b:Nat):ϋ:=
 match a[b]? with
 |some c=>(c.after.toList.filter λd=>Region.binds .any d).map (·.on)
 |none=>[]
def uf(k:Ctx)(o:Nat->ca)(b:Array Oper)(h:Fr->U->Prop):Nat->Array Bool->Fr->U->Prop
 |0,a,c,d=>Region.ready .any b a=[]/\h c d
 |fuel+1,a,c,d=>(Region.ready .any b a=[]->h c d)/\∀p∈Region.ready .any b a,T k (o p) (uf k o b h fuel (a.setIfInBounds p η)) c d
def BR(b:Array Oper)(c:Array Bool):Prop:=∀a,a<b.size->c.getD a η=η->∀d∈jj b a,c.getD d ι=η
theorem x9{a:Array Oper}:i∈jj a e↔ ∃b,a[e]?=β b/\∃c∈b.after,Region.binds .any c=η/\c.on=i:=by unfold jj;grind
theorem xa{a:Array Oper}{b:Array Bool}:e∈Region.ready .any a b↔b.getD e η=ι/\e<a.size/\∀d∈jj a e,b.getD d ι=true:=by
 rw[mem_ready];constructor
 .rintro⟨c,z,x,h⟩;refine⟨c,(a8D.1 x).1,λd y=>?_⟩;obtain⟨C,D,k,o,p,rfl⟩:=x9.1 y;simp_all
 .rintro⟨c,r,h⟩;exact⟨c,a[e],a9x r,λk o p=>h _ (x9.2 ⟨_,a9x r,k,o,p,rfl⟩)⟩
theorem K8(c:ϋ)(h:ϋ)(d:Nat):∀a,(c.foldl (λa b=>a|||2^b|||h.getD b 0) a).testBit d=η->a.testBit d=η\/∃b∈c,d=b\/(h.getD b 0).testBit d=true:=by
 induction c with
 |nil=>intro a k;exact .inl k
 |cons o c ih=>grind
def Bits(h:Nat->ϋ)(d:ϋ):Prop:=∀a b,dep d b a=η->∃c∈h a,b=c\/(dep d b c=η/\c<a)
theorem BS{h:Nat->ϋ}(F:∀b a,a∈h b->a<b):∀(x:Nat)(c:ϋ)(d:Nat),α c=d->Bits h c->Bits h (ue h x c d)
 |0,c,d,_,y=>y
 |x+1,c,d,z,y=>by
  refine BS F x _ (d+1) (by simp[z]) λb G k=>?_;have C:∀b,b<d->(c++[(h d).foldl (λo a=>o|||2^a|||c.getD a 0) 0]).getD b 0=c.getD b 0:=λb p=>by
   grind
  unfold dep at k|-;rcases aaJ b d with p|p|p
  .rw[C b p]at k;obtain⟨a,D,r⟩:=y b G k;refine⟨a,D,r.imp id λE=>⟨?_,E.2⟩⟩;rw[C a δ];exact E.1
  .subst p;have L:(c++[(h b).foldl (λo a=>o|||2^a|||c.getD a 0) 0]).getD b 0=(h b).foldl (λo a=>o|||2^a|||c.getD a 0) 0:=by rw[<-z];simp
   rw[L]at k;rcases K8 _ _ _ _ k with r|⟨a,D,r⟩
   .simp at r
   grind
  grind
theorem K9{h:Array Oper}{d:Array Bool}{x:ϋ}(y:Bits (jj h) x)(z:BR h d)(L:d.size=h.size):∀(k a b:Nat),b<=k->dep x a b=η->(∀c∈jj h b,d.getD c ι=η)->d.getD a ι=true:=by
 intro k
 induction k with
 |zero=>
  intro a b C r o;obtain⟨c,p,rfl|⟨_,D⟩⟩:=y b a r
  .exact o _ p
  .omega
 |succ k ih=>
  intro a b C r o;obtain⟨c,p,rfl|⟨E,D⟩⟩:=y b a r
  .exact o _ p
  .have F:=o c p;have G:c<d.size:=by grind
   refine ih a c δ E (z c δ ?_);simpa[G] using F
def BT{k:ϋ}{c d:dg}{o:List dg}:∀ {h:List dg}{b:ϋ},kz xs k c b (h++d::o)=η->dep k c.i d.i=η\/indep xs c d (b++h.map (·.i))=η
 |[],b,a=>by
  simp only[a7H,kz,Υ,a8Z]at a;simpa using a.1
 |p::h,b,a=>by
  simp only[a8A,kz,Υ]at a;have:=BT a.2;simpa using this
theorem BU{d:ϋ}{b:dg}{k:List dg}:∀ {a:List dg},nk xs d (a++b::k)=η->(∀h∈a,dep d h.i b.i=ι)->Pass xs b a
 |[],_,_=>trivial
 |h::a,c,o=>by
  simp only[a8A,nk,Υ]at c;refine⟨?_,BU c.2 (λp r=>o p (a8L _ r))⟩;have:=BT c.1;simp_all
theorem Ka{a c:dg}{d h:ϋ}(k:indep xs a c d=η)(o:∀b,b∈d->b∈h\/(clear (xs a.i).dst (xs b).reads=η/\mj (xs a.i).dst (xs b).dst=η)):indep xs a c h=true:=by simp only[indep,Υ]at k|-;grind
theorem BV{o:ϋ}{c:dg}:∀ {d:List dg}{h k:ϋ},kz xs o c h d=η->(∀a,a∈h->a∈k\/(clear (xs c.i).dst (xs a).reads=η/\mj (xs c.i).dst (xs a).dst=η))->kz xs o c k d=η
 |[],_,_,_,_=>rfl
 |p::d,h,k,b,hm=>by
  simp only[kz,Υ,a8Z]at b|-;refine⟨b.1.imp id (λb=>Ka b hm),BV b.2 λa r=>?_⟩;grind
theorem BW{k:ϋ}{b d:dg}{o:List dg}(p:clear (xs b.i).dst (xs d.i).reads=η/\mj (xs b.i).dst (xs d.i).dst=η):∀ {h:List dg}{c:ϋ},kz xs k b c (h++d::o)=η->kz xs k b c (h++o)=η
 |[],c,a=>by
  simp only[a7H,kz,Υ]at a|-;refine BV a.2 λr x=>?_;grind
 |r::h,c,a=>by
  simp only[a8A,kz,Υ]at a|-;exact⟨a.1,BW p a.2⟩
def BX{d:ϋ}{h:dg}{k:List dg}:∀ {b:List dg},nk xs d (b++h::k)=η->Pass xs h b->nk xs d (b++k)=η
 |[],a,_=>by simp only[a7H,nk,Υ]at a|-;exact a.2
 |p::b,a,o=>by
  simp only[a8A,nk,Υ]at a|-;have c:=o.1;simp only[indep,Υ]at c;exact⟨BW ⟨c.1.1.1.1,c.1.1.2⟩ a.1,BX a.2 o.2⟩
theorem Kb{k:Array Oper}{V:ϋ}(q:Bits (jj k) V)(s:∀a c,c∈jj k a->c<a):∀(y:Nat)(b:Array Bool)(d:List dg),b.size=k.size->α d<=y->
  (∀a,a∈d.map (·.i)↔(a<k.size/\b.getD a η=ι))->(d.map (·.i)).Nodup->nk xs V d=η->BR k b->∀z C,can P xs j8 d z C->uf P xs k j8 y b z C:=by
 have t:∀(b:Array Bool)(d:List dg),b.size=k.size->(∀a,a∈d.map (·.i)↔(a<k.size/\b.getD a η=ι))->Region.ready .any k b=[]->d=[]:=λb d D r W=>by
  cases d with
  |nil=>rfl
  |cons h X=>
   exfalso;have u:∀G a,a<=G->a<k.size->b.getD a η=ι->∃c,c∈Region.ready .any k b:=by
    intro G
    induction G with
    |zero=>intro a e o p;refine⟨a,xa.2 ⟨p,o,λc x=>?_⟩⟩;have:=s a c x;omega
    |succ G ih=>
     intro a e o p;by_cases v:∀c∈jj k a,b.getD c ι=η
     .exact⟨a,xa.2 ⟨p,o,v⟩⟩
     grind
   obtain⟨o,p⟩:=(r h.i).1 ς;obtain⟨c,x⟩:=u h.i h.i (a7T _) o p;rw[W]at x;cases x
 intro y
 induction y with
 |zero=>intro b d D g r _ _ _ z C L;have:d=[]:=a7t δ;subst this;refine⟨?_,L⟩;simp_all [Region.ready]
 |succ y ih=>
  intro b d D g r w i j z C L;refine⟨λW=>?_,λa e=>?_⟩
  .have:=t b d D r W;subst this;exact L
  .obtain⟨o,p,l⟩:=xa.1 e;have A:=(r a).2 ⟨p,o⟩;obtain⟨h,B,rfl⟩:=a7G.1 A;obtain⟨E,S,rfl⟩:=a9b B;have H:(E.map (·.i)++h.i::S.map (·.i)).Nodup:=by simpa using w
   have I:(E.map (·.i)).Nodup:=(aaK.1 H).1;have m:=BU i λF f=>by
    cases K:dep V F.i h.i with
    |false=>rfl
    |true=>exfalso;have Y:=K9 q j D h.i F.i h.i (a7T _) K l;grind
   have M:=BQ h S E m I z C L;refine s7 (λN O Q=>?_) M;refine ih (b.setIfInBounds h.i η) (E++S) (by simp[D]) (by simp at g|-;omega) (λc=>?_) ?_ (BX i m) ?_ N O Q.2
   .have Z:h.i∉(E++S).map (·.i):=by grind
    by_cases T:h.i=c;simp_all
    .rw[getD_set_ne η T,<-r c];grind
   grind
   .intro c x n F f;by_cases T:h.i=c
    .subst T;exact getD_set_true (l F f)
    .rw[getD_set_ne η T]at n;exact getD_set_true (j c x n F f)
end
inductive gm where
 |norm
 |exit (id:Nat)
 |ret
inductive eC where
 |skip
 |plain (ops:List ca)
 |draw (ops:List ca) (order:List dg)
 |seq (a b:eC)
 |cond (c:Operand) (a b:eC)
 |block (id:Nat) (a:eC)
 |loop (a:eC)
 |exit (id:Nat)
 |ret
 |refuse
def nth(a:List ca)(b:Nat):ca:=a.getD b {dst:=ζ,op:=.fg (.const (.bool η)),guard:=ζ}
def eW(a:Fr->U->Prop)(b:gm->Fr->U->Prop):gm->Fr->U->Prop
 |.norm=>a
 |c=>b c
def ly(id:Nat)(a:gm->Fr->U->Prop):gm->Fr->U->Prop
 |.exit b=>if b=id then a .norm else a (.exit b)
 |c=>a c
def c3(c:Ctx):eC->(gm->Fr->U->Prop)->Fr->U->Prop
 |.skip,a=>a .norm
 |.plain ops,a=>ji c ops (a .norm)
 |.draw ops order,a=>can c (nth ops) (a .norm) order
 |.seq h k,a=>c3 c h (eW (c3 c k a) a)
 |.cond z h k,a=>λb d=>match al b z with
  |.v (.bool p)=>(p=η->c3 c h a b d)/\(p=ι->c3 c k a b d)
  |_=>False
 |.block id h,a=>c3 c h (ly id a)
 |.loop h,a=>λb d=>∃(o:Fr->U->Prop)(r:Fr->U->Nat),o b d/\∀b d,o b d->c3 c h (eW (λx y=>o x y/\r x y<r b d) a) b d
 |.exit id,a=>a (.exit id)
 |.ret,a=>a .ret
 |.refuse,_=>λ_ _=>False
def xb(a:Array Oper)(b:Oper):Option (Option (Nat×Bool)):=
 match b.guard with
 |none=>β ζ
 |some (c,want)=>match(a[c]?).bind (·.dst)with
  |some d=>β (β (d,want))
  |none=>ζ
def BY(a:Nat):Option Nat->Bool
 |some b=>decide (b<a)
 |none=>η
def xc(a:ϋ):Option Nat->Bool
 |some b=> !a.contains b
 |none=>η
def qL(c:Program)(b:Env)(d:Nat)(h:Array Oper)(a:Oper):Option ca:=
 match x6 c b a,xb h a with
 |some k,β o=>if BY d a.dst=η/\xc b.pins a.dst=η then β {dst:=a.dst,op:=k,guard:=o}else ζ
 |_,_=>ζ
def fD{a b:Type}(c:a->Option b):List a->Option (List b)
 |[]=>β []
 |d::h=>match c d,fD c h with
  |some k,β o=>β (k::o)
  |_,_=>ζ
def xd(b:Nat->ϋ)(c:ϋ)(d:Nat->Bool)(left:ϋ):Option Nat:=left.find? λa=>(b a).all (λh=>c.contains h)&&d a
def BZ(b:Nat->ϋ)(c:Nat->ca):Nat->ϋ->ϋ->ϋ
 |0,_,_=>[]
 |fuel+1,done,left=>
  match(xd b done (λa=>nj (c a).op||oa (c a).op) left).or ((xd b done (λa=> !lx (c a).op) left).or (xd b done (λ_=>η) left))with
  |some a=>a::BZ b c fuel (a::done) (left.filter (·!=a))
  |none=>[]
def C0(a:ca):Bool:=nj a.op||oa a.op
def marks(a:Nat->ca)(d:Nat->Nat->Bool):ϋ->ϋ->List dg
 |_,[]=>[]
 |ahead,b::h=>
  let k:=if C0 (a b)then []else h.filter λc=>(lx (a c).op||nj (a c).op)&& !d b c
  let o:=if C0 (a b)||lx (a b).op then []else ahead.filter λc=>oa (a c).op&& !d c b
  ⟨b,k,o⟩::marks a d (ahead++[b]) h
def C1(a:Array Oper)(b:Nat->ca):List dg:=
 marks b (dep (ue (jj a) a.size [] 0)) [] (BZ (jj a) b a.size [] (ω a.size))
def xe(a:Array Oper)(d:Nat->ca)(b:List dg):Bool:=
 (ω a.size).all (λc=>(jj a c).all (λh=>decide (h<c)))&&decide (α b<=a.size)&&(ω a.size).all (λc=>(b.map (·.i)).contains c)&&b.all (λk=>decide (k.i<a.size))&&
  decide ((b.map (·.i)).Nodup)&&nk d (ue (jj a) a.size [] 0) b
def ug:Code->List Oper
 |.region _ ops _=>ops.toList
 |.seq a b|.cond _ a b=>ug a++ug b
 |.block _ a|.loop a=>ug a
 |_=>[]
def sb(a:ϋ):Operand->Bool
 |.tmp b=>a.contains b
 |_=>ι
def derive(a:ϋ):List Oper->ϋ
 |[]=>a
 |d::h=>match d.op,d.dst with
  |.fieldAddr _ b _,β c|.indexAddr _ b _,β c|.nilCheck b,β c=>derive (if sb a b then c::a else a) h
  |_,_=>derive a h
def Kc(a:ϋ)(b:Oper):Bool:=
 match b.op with
 |.fieldAddr _ _ _|.indexAddr _ _ _|.nilCheck _|.load _ _|.slice _ _ _ _ _=>ι
 |op=>op.operands.toList.any (sb a)
def Kd(a:ϋ)(b:Oper):Bool:=
 match b.op with
 |.slice _ c _ _ _=>sb a c
 |_=>ι
def Ke(a:ϋ)(h:Oper):ϋ:=
 let p (a:ϋ) (b:Operand):ϋ:=match b with|.tmp k=>if a.contains k then a else k::a|_=>a
 let c (b:Operand):ϋ:=match h.dst with
  |some d=>if a.contains d then p a b else if sb a b then(if a.contains d then a else d::a)else a
  |none=>a
 match h.op with
 |.move b|.assign b=>c b
 |.slice _ b _ _ _=>c b
 |.call o=>match o.callee,o.args.toList with
  |.builtin .append,[b,_]=>c b
  |_,_=>a
 |_=>a
def xf(b:List Oper):Nat->ϋ->ϋ
 |0,a=>a
 |d+1,a=>let c:=b.foldl Ke a;if α c=α a then a else xf b d c
def C2(c:Program)(a:List Oper):ϋ:=
 a.filterMap λb=>match b.op,b.dst with
  |.indexAddr d (.tmp h) _,β k=>if !(match c.underlying d with|some (.slice _)=>η|_=>ι)then ζ else let o:=derive [k] a;if a.any (λp=>match p.op with|.store _ r _=>sb o r|_=>ι)then β h else ζ
  |_,_=>ζ
def Kf(b:Program)(c:ϋ)(a:Oper):Bool:=
 match a.op,a.dst with
 |.convert st _ _,β d=>(match b.underlying st with|some .string=>η|_=>ι)&&c.contains d
 |_,_=>ι
def Kg(d:Program)(b:Code):Env:=
 let a:=ug b
 let h:=(a.filterMap λc=>match c.op with|.box _ _=>c.dst|_=>ζ).filter λo=>let k:=derive [o] a;a.any (Kd k)&& !a.any (Kc k)
 {jL:=h,Bu:=derive h a,wr:=a.filterMap λc=>match c.op with|.call b=>(match b.callee,b.args.toList with|.builtin .copy,.tmp p:: _=>β p|_,_=>ζ)|_=>ζ,u7:=xf a 40 (C2 d a),ty:=ι,mi:=a.any (Kf d (xf a 40 (C2 d a)))}
def gZ(b:Program)(a:Env)(c:Nat):Code->Option eC
 |.skip=>β .skip
 |.region _ ops ι=>match fD (qL b a c ops) ops.toList with
  |some xs=>β (.plain xs)
  |none=>if a.Bv=η then β .refuse else ζ
 |.region _ ops η=>match fD (qL b a c ops) ops.toList with
  |some xs=>if xe ops (nth xs) (C1 ops (nth xs))=η then β (.draw xs (C1 ops (nth xs)))else ζ
  |none=>ζ
 |.seq d h=>match gZ b a c d,gZ b a c h with
  |some k,β o=>β (.seq k o)
  |_,_=>ζ
 |.cond p d h=>match gZ b a c d,gZ b a c h with
  |some k,β o=>if aQ p=η then β (.cond p k o)else ζ
  |_,_=>ζ
 |.block id d=>(gZ b a c d).map (.block id)
 |.loop d=>(gZ b a c d).map .loop
 |.exit id=>β (.exit id)
 |.ret=>β .ret
 |.refuse _=>β .refuse
 |_=>ζ
def pw(a:List Deferred×List (Nat×Value))(b:Act):Prop:=b.defers=a.1/\∀c∈a.2,b.tmps.getD c.1 undef=c.2
theorem pw.put{d:List Deferred×List (Nat×Value)}{a:Act}(h:pw d a){b:Option Nat}{v:Value}{k:ϋ}(p:∀c∈d.2,c.1∈k)(r:xc k b=η):pw d (a.put b v):=by
 refine⟨by rw[<-h.1];cases b<;>rfl,λc o=>?_⟩;cases b with
 |none=>exact h.2 c o
 |some b=>
  have x:c.1≠b:=by rintro rfl;grind[xc,Bool.not_eq_true',decide_eq_false_iff_not]
  rw[<-h.2 c o];simp_all [Act.put,Ι]
def hU(c:List Deferred×List (Nat×Value))(d:Nat)(h:bn)(k:U)(o:World)(p:Fr)(r:U)(a:Act)(x:World):Prop:=
 a.tmps.size=d/\pw c a/\∃b,bP b a p/\Step h k o b r x
def post(h:List Deferred×List (Nat×Value))(D:R->U->Prop)(r:Nat)(k:bn)(o:U)(p:World)(x:gm->Fr->U->Prop):Exit->Act->World->Prop
 |.normal,b,d=>∃a c,hU h r k o p a c b d/\x .norm a c
 |.exit id,b,d=>∃a c,hU h r k o p a c b d/\x (.exit id) a c
 |.ret,b,d=>∃a c,hU h r k o p a c b d/\x .ret a c
 |.panic E,b,d=>pw h b/\∃v z y C,E=[{v,recovered:=ι}]/\Step k o p y C d/\aZ y v z/\up D z C/\∃a,bP y b a
 |_,_,_=>False
variable{b4:FuncId}
section
variable{env:Env}{D:List Deferred×List (Nat×Value)}
def size_put(a:Act)(b:Option Nat)(v:Value):(a.put b v).tmps.size=a.tmps.size:=by cases b<;>simp[Act.put]
theorem C3{c o:Type}{p:c->Option o}:∀ {d:List c}{b:List o},fD p d=β b->α d=α b/\∀(r:Nat)(h:c),d[r]?=β h->∃k,b[r]?=β k/\p h=β k
 |[],b,a=>by simp only[fD,a7y]at a;simp_all
 |h::y,b,a=>by
  simp only[fD]at a;split at a
  case h_2=>cases a
  rename_i k z C x;obtain rfl:=Δ a;obtain⟨E,F⟩:=C3 x;grind
theorem Kh{h:Array Oper}{o:Oper}{z:Option (Nat×Bool)}(c:xb h o=β z){a:Act}(E:bP u a j):
  match z with
  |none=>Region.wanted o (yielded h a.tmps)=η
  |some (b,C)=>(∀p,j b=.v (.bool p)->Region.wanted o (yielded h a.tmps)=(p==C))/\(j b=.aJ []->Region.wanted o (yielded h a.tmps)=ι):=by
 unfold xb at c;split at c
 .rename_i x;obtain rfl:=Δ c;simp[Region.wanted,x]
 .rename_i F C x;split at c
  case h_2=>cases c
  rename_i b G;obtain rfl:=Δ c;have d:=E b;refine⟨λp y=>?_,λy=>?_⟩
  .rw[y]at d;have k:=d.dD;have S:a.tmps[b]?=β (.bool p):=by
    rw[a8k]at k;cases r:a.tmps[b]? with
    |none=>rw[r]at k;cases k
    |some L=>rw[r]at k;simpa using k
   grind[yielded,Region.wanted]
  .rw[y]at d;have P:yielded h a.tmps F=none:=by
    unfold yielded;rw[G];simp only[Option.bind_some];cases r:a.tmps[b]? with
    |none=>rfl
    |some L=>rw[a8k,r]at d;simp only[a9l]at d;cases d;rfl
   simp[Region.wanted,x,P]
theorem C4(L:∀A∈D.2,A.1∈env.pins){P:Array Oper}{b:Oper}{S:ca}(p:qL m env e P b=β S){d:Act}(B:hU D e u f l j s d h9)(H:T ⟨m,t⟩ S j8 j s)(x:Exit->Act->World->Prop)(I:∀v k o a h,(∃j,bP o d j)->Step u f l o a h->aZ o v k->up t k a->x (.panic [{v,recovered:=ι}]) d h):
  if Region.wanted b (yielded P d.tmps)then b.wp m d h9 (λy h=>∃c a,hU D e u f l c a y h/\j8 c a) x else∃c a,hU D e u f l c a (d.put b.dst undef) h9/\j8 c a:=by
 obtain⟨V,W,g,r,z⟩:=B;unfold qL at p;split at p
 case h_2=>cases p
 rename_i K j9 M N;split at p
 case isFalse=>cases p
 rename_i i;obtain rfl:=Δ p;have n:∀C,b.dst=β C->C<d.tmps.size:=λC k0=>by grind[BY]
 have k1:=Kh N r;have k2:G ⟨m,t⟩ K j s (λk a=>j8 (dj j b.dst k) a)->b.wp m d h9 (λy h=>∃c a,hU D e u f l c a y h/\j8 c a) x:=λO=>by
  have:=JX M r z.holds O x (λv k o a h q Q X=>I v k o a h ⟨j,r.mono q.le⟩ (z.trans q) Q X);refine Oper.wp_mono (λy h Y=>?_) this;obtain⟨v,o,a,k,rfl,w,Z,F⟩:=Y;exact⟨dj j b.dst k,a,⟨by rw[size_put];exact V,W.put L i.2,o,(r.mono w.le).put b.dst n Z,z.trans w⟩,F⟩
 have k3:j8 (dj j b.dst (.aJ [])) s->∃c a,hU D e u f l c a (d.put b.dst undef) h9/\j8 c a:=λF=>
  ⟨dj j b.dst (.aJ []),s,⟨by rw[size_put];exact V,W.put L i.2,g,r.put b.dst n (aZ.undef g),z⟩,F⟩
 unfold T E at H;grind
theorem C5(F:∀T∈D.2,T.1∈env.pins){G:Array Oper}{o:Exit->Act->World->Prop}{L:Fr->U->Prop}(P:∀b c a d,hU D e u f l b c a d->L b c->o .normal a d)(S:∀a v p k r x,(pw D a/\∃b,bP k a b)->Step u f l k r x->aZ k v p->up t p r->o (.panic [{v,recovered:=ι}]) a x):∀(y:List Oper)(z:List ca),fD (qL m env e G) y=β z->
  ∀(b:Fr)(c:U)(a:Act)(d:World),hU D e u f l b c a d->ji ⟨m,t⟩ z L b c->wpList m G o y a d
 |[],z,h,b,c,a,d,C,E=>by
  simp only[fD,a7y]at h;subst h;exact P b c a d C E
 |n::y,z,h,b,c,a,d,C,E=>by
  simp only[fD]at h;split at h
  case h_2=>cases h
  rename_i q V W g;obtain rfl:=Δ h;have ih:=C5 F P S y V g;have:=C4 F W C E o (λv p k r x i=>S a v p k r x ⟨C.2.1,i⟩);simp only[wpList];split
  .rename_i j;rw[if_pos j]at this;grind[Oper.wp_mono]
  grind
def xg(G:∀w∈D.2,w.1∈env.pins){y:Array Oper}{z:Exit->Act->World->Prop}{j:Fr->U->Prop}(C:∀b d a c,hU D e u f l b d a c->j b d->z .normal a c)(L:∀a v E o h k,(pw D a/\∃b,bP o a b)->Step u f l o h k->aZ o v E->up t E h->z (.panic [{v,recovered:=ι}]) a k){P:List ca}(S:fD (qL m env e y) y.toList=β P):
  ∀(p:Nat)(F:Array Bool)(b:Fr)(d:U)(a:Act)(c:World),hU D e u f l b d a c->uf ⟨m,t⟩ (nth P) y j p F b d->wpAny m .any y z p F a c
 |0,F,b,d,a,c,r,x=>⟨x.1,C b d a c r x.2⟩
 |p+1,F,b,d,a,c,r,x=>by
  refine⟨λA=>C b d a c r (x.1 A),λT n=>?_⟩;have q:=x.2 T n;obtain⟨_,B,s,_⟩:=mem_ready.1 n;obtain⟨H,I,K⟩:=(C3 S).2 T B (by simpa using s);have M:nth P T=H:=by simp[nth,I]
  rw[M]at q;have:=C4 G K r q z (λv E o h k N=>L a v E o h k ⟨r.2.1,N⟩);unfold wpOp;simp only[s];split
  .rename_i V;rw[if_pos V]at this;exact .inl (Oper.wp_mono (λO k ⟨W,h,g,i⟩=>xg G C L S p _ W h O k g i) this)
  .rename_i V;rw[if_neg V]at this;obtain⟨W,h,g,i⟩:=this;exact xg G C L S p _ W h _ c g i
theorem Ki{a:Array Oper}{d:Nat->ca}{h:List dg}(c:xe a d h=η)(p:can K d j8 h j f):uf K d a j8 a.size (Array.replicate a.size ι) j f:=by
 simp only[xe,Υ,a7E,decide_eq_true_eq,a8C]at c;obtain⟨⟨⟨⟨⟨E,F⟩,G⟩,L⟩,x⟩,y⟩:=c;have r:∀b k,k∈jj a b->k<b:=λb k P=>by
  grind[x9,Array.getElem?_eq_some_iff]
 refine Kb (BS r a.size [] 0 rfl (λb z c=>by simp[dep]at c)) r a.size _ h ς δ (λb=>?_) x y (λb o C=>?_) j f p
 .constructor
  .intro o;obtain⟨z,p,rfl⟩:=a7G.1 o;simp_all
  simp_all
 .simp[o]at C
def px(L:m.follows .mixedOrders=η)(G:∀k4∈D.2,k4.1∈env.pins):∀(r:Code)(x:eC),gZ m env e r=β x->∀(p:gm->Fr->U->Prop)(b:Fr)(c:U)(d:Act)(k:World),hU D e u f l b c d k->c3 ⟨m,t⟩ x p b c->r.wp m (post D t e u f l p) d k
 |.skip,x,a,p,b,c,d,k,h,bZ=>by
  simp only[gZ,a7y]at a;subst a;exact wp_skip ⟨b,c,h,bZ⟩
 |.region id ops k5,x,a,p,b,c,d,k,h,bZ=>by
  cases k5 with
  |false=>
   simp only[gZ]at a;split at a
   case h_2=>
    split at a
    .obtain rfl:=Δ a;trivial
    .cases a
   rename_i j9 n;obtain rfl:=Δ a;refine wp_region_list ?_;exact C5 G (λb c d k h y=>⟨b,c,h,y⟩) (λd v q s z E F P w A=>⟨F.1,v,q,s,z,rfl,P,w,A,F.2⟩) ops.toList j9 n b c d k h bZ
  |true=>
   simp only[gZ]at a;split at a
   case h_2=>cases a
   rename_i j9 n;split at a
   case isFalse=>cases a
   rename_i k6;obtain rfl:=Δ a;refine wp_region_any L ?_;obtain⟨k7,k8,k9,l0,k0⟩:=h;exact xg G (λb c d k h y=>⟨b,c,h,y⟩) (λd v q s z E F P w A=>⟨F.1,v,q,s,z,rfl,P,w,A,F.2⟩) n ops.size _ b c d _ ⟨k7,k8,k9,l0,k0.trans (Step.drew k0.holds)⟩ (Ki k6 bZ)
 |.seq c1 c2,x,a,p,b,c,d,k,h,bZ=>by
  simp only[gZ]at a;split at a
  case h_2=>cases a
  rename_i B H F P;obtain rfl:=Δ a;refine wp_seq (wp_mono (px L G c1 B F _ b c d k h bZ) λC S E o=>?_);cases C with
  |normal=>obtain⟨T,z,V,y⟩:=o;exact px L G c2 H P p T z S E V y
  |exit id=>exact o
  |ret=>exact o
  |goto k1=>exact o
  |panic I=>exact o
  |outgrown=>exact o
 |.cond r c1 c2,x,a,p,b,c,d,k,h,bZ=>by
  simp only[gZ]at a;split at a
  case h_2=>cases a
  rename_i B H F P;split at a
  case isFalse=>cases a
  rename_i l1;obtain rfl:=Δ a;simp only[c3]at bZ;split at bZ
  case h_2=>trivial
  rename_i n4 l2;have k2:=(h.2.2.choose_spec.1).al r l1;rw[l2]at k2;refine wp_cond_split k2.dD (λK=>?_) (λK=>?_)
  .exact px L G c1 B F p b c d k h (bZ.1 K)
  .exact px L G c2 H P p b c d k h (bZ.2 K)
 |.block id r,x,a,p,b,c,d,k,h,bZ=>by
  simp only[gZ]at a;obtain⟨M,N,rfl⟩:=a9W.1 a;refine wp_block (wp_mono (px L G r M N _ b c d k h bZ) λC S E o=>?_);cases C with
  |normal=>exact o
  |exit n5=>
   obtain⟨T,z,V,y⟩:=o;simp only[Exit.inBlock];simp only[ly]at y;split
   .rename_i O;rw[if_pos O]at y;exact⟨T,z,V,y⟩
   .rename_i O;rw[if_neg O]at y;exact⟨T,z,V,y⟩
  |ret=>exact o
  |goto k1=>exact o
  |panic I=>exact o
  |outgrown=>exact o
 |.loop r,x,a,p,b,c,d,k,h,bZ=>by
  simp only[gZ]at a;obtain⟨M,N,rfl⟩:=a9W.1 a;obtain⟨l3,k3,Q,l4⟩:=bZ;intro X Y Z;have l5:∀g b c d k,k3 b c=g->l3 b c->hU D e u f l b c d k->
    ∃C S E,post D t e u f l p C S E/\Arrives m (lone (X.at d (.code r::.inLoop r::Y)) Z k) X Y Z C S E:=by
   intro g
   induction g using Nat.strongRecOn with
   |_ g ih=>
    intro b c d k l6 Q h;obtain⟨C,i,j,o,W⟩:=px L G r M N _ b c d k h (l4 b c Q) X (.inLoop r::Y) Z;cases C with
    |normal=>obtain⟨T,z,V,l7,l8⟩:=o;obtain⟨l9,n0,n1,n2,n3⟩:=ih (k3 T z) (l6▸l8) T z i j rfl l7 V;exact⟨l9,n0,n1,n2,.of_steps (Steps.trans W (.one step_inLoop)) n3⟩
    |exit id=>exact⟨.exit id,i,j,o,.pass rfl (λ_ _=>.inl ς) W⟩
    |goto k1=>trivial
    |ret=>exact⟨.ret,i,j,o,.pass rfl (λ_ _=>.inl ς) W⟩
    |panic I=>exact⟨.panic I,i,j,o,.pass rfl (λ_ _=>.inl ς) W⟩
    |outgrown=>trivial
  obtain⟨C,S,E,o,W⟩:=l5 _ b c d k rfl Q h;exact⟨C,S,E,o,.of_steps (.one step_loop) W⟩
 |.exit id,x,a,p,b,c,d,k,h,bZ=>by
  simp only[gZ,a7y]at a;subst a;exact wp_exit ⟨b,c,h,bZ⟩
 |.ret,x,a,p,b,c,d,k,h,bZ=>by
  simp only[gZ,a7y]at a;subst a;exact wp_ret ⟨b,c,h,bZ⟩
 |.refuse n9,x,a,p,b,c,d,k,h,bZ=>by
  simp only[gZ,a7y]at a;subst a;trivial
structure ar where
 ntmps:Nat
 nparams:Nat
 code:eC
 results:List (Nat×Option (Bool×Nat))
def qM(b:Program):ResultVar->Option (Nat×Option (Bool×Nat))
 |.tmp a=>β (a,ζ)
 |.cell d a=>match b.underlying a,jO b a with
  |some c,β e=>if c.isRow=η\/e=1 then β (d,β (c.isRow,e))else ζ
  |_,_=>ζ
def Env.all(a:Env)(c:Nat)(b:Nat):Env:=
 match c with
 |1=> {a with u7:=ω b}
 |2=> {a with ty:=η}
 |5=> {a with Bv:=η}
 |6=> {a with u7:=ω b,wT:=η}
 |_=>a
def dw(a:Program)(c:Nat)(d:FuncId):Option ar:=
 match a.funcs[d]? with
 |some fn=>match fn.body with
  |some b=>match gZ a ((Kg a b).all c fn.ntmps) fn.ntmps b,fD (qM a) fn.results.toList with
   |some h,β rs=>if fn.params.size<=fn.ntmps then β ⟨fn.ntmps,fn.params.size,h,rs⟩else ζ
   |_,_=>ζ
  |none=>ζ
 |none=>ζ
def gn(b:Fr)(c:U):Nat×Option (Bool×Nat)->Option R
 |(a,ζ)=>β (b a)
 |(a,β (agg,e))=>match b a with
  |.ptr d off=>match c.read d with
   |some cs=>if off+e<=α cs then β (aM agg e (cs.drop off))else ζ
   |none=>ζ
  |_=>ζ
def jk(a:Fr)(b:U)(c:List (Nat×Option (Bool×Nat))):Option R:=
 match fD (gn a b) c with
 |some [d]=>β d
 |some h=>β (.aJ h)
 |none=>ζ
def qN(d:ar)(h:R->U->Prop):gm->Fr->U->Prop
 |.exit _,_,_=>False
 |_,k,a=>∃b c,jk k a d.results=β b/\c.sub a/\h b c
def ml(a:ύ):Fr:=λb=>a.getD b (.aJ [])
def sc(b:Array Value):ResultVar->Sem Value
 |.tmp a=>pure (b.getD a undef)
 |.cell c a=>do loadVar a (<-asAddr (b.getD c undef))
theorem Kj{o:Act}{p:ResultVar}{k:Nat×Option (Bool×Nat)}(z:aZ u (o.tmps.getD k.1 undef) (j k.1))(P:Holds u f l)(d:qM m p=β k)(b:gn j f k=β n):
  ∃v,(sc o.tmps p).run m l=.ok v l/\aZ u v n:=by
 cases p with
 |tmp r=>simp only[qM,a7y]at d;subst d;simp only[gn,a7y]at b;subst b;exact⟨_,rfl,z⟩
 |cell C r=>
  simp only[qM]at d;split at d
  case h_2=>cases d
  rename_i x e E S;split at d
  case isFalse=>cases d
  rename_i V;obtain rfl:=Δ d;simp only[gn]at b;split at b
  case h_2=>cases b
  rename_i h a W;split at b
  case h_2=>cases b
  rename_i I g;split at b
  case isFalse=>cases b
  rename_i i;obtain rfl:=Δ b;have F:aZ u (o.tmps.getD C undef) (j C):=z;rw[W]at F;have q:=F.jN;obtain⟨s,c,T,K,t,G⟩:=P.read g;have M:=G.1;cases y:x.isRow with
  |true=>
   have w:l.rangeAt h a ((c.toList.drop a).take e):=by intro N v O;grind[cell_of_row]
   have A:((c.toList.drop a).take e).length=e:=Μ;have L:=run_loadVar_mid l h a r ((c.toList.drop a).take e) x w E y (by rw[A];exact S);refine⟨.agg ((c.toList.drop a).take e).toArray,by simp only[sc,Sem.run_bind,q,asAddr,Sem.run_pure,Result.andThen_ok,L],?_⟩;rw[show((c.toList.drop a).take e).toArray=c.extract a (a+e) by grind];exact aZ.aM G s a e i
  |false=>
   obtain rfl:=ua V y;have B:a<c.size:=δ;have H:l.cell? ⟨h,a,ζ⟩=β (c.getD a undef):=by rw[cell_of_row l h a c T _ t];simp[B]
   have L:=wH l r x ⟨h,a,ζ⟩ _ E y H;grind[undef,sc,Sem.run_bind,asAddr,Sem.run_pure,Result.andThen_ok,aZ.wG]
theorem C6{p:bn}{E:Fr}{F:U}{G:Act}{r:World}(L:Holds p F r):∀(k:List ResultVar)(c:List (Nat×Option (Bool×Nat)))(d:ύ),(∀o∈c,aZ p (G.tmps.getD o.1 undef) (E o.1))->fD (qM m) k=β c->fD (gn E F) c=β d->
  ∃h:List Value,(k.mapM (sc G.tmps)).run m r=.ok h r/\α h=α d/\∀(x:Nat)(y:Value)(z:R),h[x]?=β y->d[x]?=β z->aZ p y z
 |[],c,d,C,a,b=>by
  simp only[fD,a7y]at a;subst a;simp only[fD,a7y]at b;simp_all
 |j::k,c,d,C,a,b=>by
  simp only[fD]at a;split at a
  case h_2=>cases a
  rename_i o P S T;obtain rfl:=Δ a;simp only[fD]at b;split at b
  case h_2=>cases b
  rename_i l V W e;obtain rfl:=Δ b;obtain⟨v,n,q⟩:=Kj (C o ς) L S W;obtain⟨h,s,f,t⟩:=C6 L k P V (λg i=>C g (by simp[i])) T e;refine⟨v::h,?_,by simp[f],λx y z u w=>?_⟩;simp_all;grind
theorem Kk{k:Act}{c:Func}{o:List (Nat×Option (Bool×Nat))}(L:∀F∈o,aZ u (k.tmps.getD F.1 undef) (j F.1))(P:Holds u f l)(S:fD (qM m) c.results.toList=β o)(p:jk j f o=β n):
  ∃v,(results c k.tmps).run m l=.ok v l/\aZ u v n:=by
 unfold jk at p;have G:∀d,fD (gn j f) o=β d->∃a:Array Value,(results c k.tmps).run m l=.ok (if T:a.size=1 then a[0]else .tuple a) l/\α a.toList=α d/\∀(x)(y)(z),a.toList[x]?=β y->d[x]?=β z->aZ u y z:=λd r=>by
  obtain⟨a,b,C,h⟩:=C6 P c.results.toList o d L S r;refine⟨a.toArray,?_,by trivial,λx y z e V=>h x y z (by trivial) V⟩;have W:results c k.tmps=(do let a <-c.results.mapM (sc k.tmps);pure (if T:a.size=1 then a[0]else .tuple a)):=rfl;rw[W,Sem.run_bind,Array.mapM_eq_mapM_toList,Sem.run_map];rw[b];rfl
 split at p
 .rename_i g r;obtain rfl:=Δ p;obtain⟨a,b,C,h⟩:=G _ r;have E:a.size=1:=by trivial
  rw[dif_pos E]at b;refine⟨_,b,h 0 _ _ ?_ rfl⟩;simp
 .rename_i d i r;obtain rfl:=Δ p;obtain⟨a,b,C,h⟩:=G _ r;have E:a.size≠1:=by grind[List.length_eq_one_iff]
  rw[dif_neg E]at b;exact⟨_,b,.aJ _ _ (bx.dZ.2 ⟨C,h⟩).1 (bx.dZ.2 ⟨C,h⟩).2⟩
 .cases p
theorem Kl(A:m.follows .mixedOrders=η){C:ar}(b:dw m e b4=β C)(B:α g<=C.ntmps)(q:c3 ⟨m,Z⟩ C.code (qN C t) (ml g) f):hS m b4 g f t (up Z):=by
 intro h r o s H;unfold dw at b;split at b
 case h_2=>cases b
 rename_i p I;split at b
 case h_2=>cases b
 rename_i K M;split at b
 case h_2=>cases b
 rename_i N O Q X;split at b
 case isFalse=>cases b
 rename_i k4;obtain rfl:=Δ b;simp only at B q;refine calls_of_wp I M ?_;have u:=s.1;have Y:hU ([],[]) p.ntmps o f r (ml g) f {tmps:=h++Array.replicate (p.ntmps - h.size) undef,defers:=[]} r:=by
  refine⟨Μ,⟨rfl,λS T=>by simp at T⟩,o,λc=>?_,.refl H⟩;by_cases E:c<α g
  .have V:ml g c=g[c]:=by simp[ml,E]
   rw[V];have:=s.2 c g[c] (Ρ E);have W:(h++Array.replicate (p.ntmps - h.size) undef).getD c undef=h.getD c undef:=by simp[abe,u,E]
   rw[W];exact this
  .have V:ml g c=.aJ []:=by simp[ml,E]
   rw[V];have W:(h++Array.replicate (p.ntmps - h.size) undef).getD c undef=undef:=by simp only[a8k,abe,u];grind
   rw[W];exact aZ.undef o
 refine wp_mono (px A (λS T=>by simp at T) K N Q _ _ _ _ _ Y q) λj9 i x F=>?_;have w:(∃G y,hU ([],[]) p.ntmps o f r G y i x/\∃a L,jk G y O=β a/\L.sub y/\t a L)->
   i.defers=[]/\∃v,(results p i.tmps).run m x=.ok v x/\((∃z a d k,Ending.returned v=.returned z/\Step o f r d k x/\aZ d z a/\t a k)\/(∃z a d k,Ending.returned v=.panicked [{v:=z,recovered:=ι}]/\Step o f r d k x/\aZ d z a/\up Z a k)):=by
  rintro⟨G,y,⟨_,j,d,k0,P⟩,a,L,k1,k2,l⟩;obtain⟨v,k3,n⟩:=Kk (λS _=>k0 S.1) P.holds X k1;exact⟨j.1,v,k3,.inl ⟨v,a,d,L,rfl,P.drop k2,n,l⟩⟩
 cases j9 with
 |normal=>exact w F
 |ret=>exact w F
 |exit id=>obtain⟨G,y,_,k5⟩:=F;trivial
 |goto k6=>trivial
 |panic k7=>obtain⟨j,v,a,d,k,rfl,P,n,l,_⟩:=F;exact⟨j.1,.inr ⟨v,a,d,k,rfl,P,n,l⟩⟩
 |outgrown=>trivial
def Km(b:m.follows .mixedOrders=η){a:ar}(c:dw m e b4=β a)(d:α g<=a.ntmps)(h:c3 (Ctx.of m) a.code (qN a t) (ml g) f):AC m b4 g f t:=
 (Kl b c d h).Ir
end
abbrev aH(a:Nat):Operand:=.tmp a
abbrev mm(a:Int):Operand:=.const (.int .i64 a)
abbrev qO:Operand:=.const (.bool ι)
abbrev Kn:Operand:=.const (.slice ζ 0 0)
abbrev bH(a:Nat)(b:cd):ca:=⟨β a,b,ζ⟩
abbrev on(a:cd):ca:=⟨ζ,a,ζ⟩
abbrev fh(a:Nat)(b:Bool)(c:Nat)(d:cd):ca:=⟨β c,d,β (a,b)⟩
abbrev aA(a b:Nat):ca:=⟨β a,.fg (.tmp b),ζ⟩
abbrev cE(a:Nat)(b:BinOp)(c d:Nat):ca:=⟨β a,.bin b (.tmp c) (.tmp d),ζ⟩
abbrev fE(a:Nat)(b:BinOp)(c:Nat)(d:Int):ca:=⟨β a,.bin b (.tmp c) (.const (.int .i64 d)),ζ⟩
abbrev py(a b:Nat):ca:=⟨β a,.len (.tmp b),ζ⟩
abbrev bk(a:Nat):dg:=⟨a,[],[]⟩
end Go.bD
