import Derived.Test.YtcfpcblgmmeioaaGreatMA
import Derived.Lib.Overlaps
import Derived.Laws.Externs
import Derived.KernelRfl
import Derived.Test.YtcfpcblgmmeioaaGreatProg
set_option linter.all false
open Option renaming some->β,none->ε
open Go.Proofs.Tryz renaming prog->γ
open List renaming replicate->ζ,range->ψ,getElem?_eq_some_iff->Ε,take_of_length_le->Θ,length->α
open Bool renaming true->η,false->ι
open Go.bt.U renaming aj->ν,al->ξ
namespace Go.bt
open Go
variable{q b7:R}{s Z:R -> U -> Prop}{j7:Array Value}{j:Fr}{f u e1:U}{g A c0:Χ}{e i v M b9 h9:Nat}{t:bb}{m:Program}{e3:Value}{l h7:World}
section
variable{o:Oper}{a:Act}
def Hh(x:TypeId)(b:Operand)(y:o.op=.call {callee:=.builtin .cap,args:=#[b],argTypes:=#[x]})(F:TypeId)(z:m.underlying x=β (.slice F))(L:aJ b=η)(P:bE t a j)(C:Holds t f l)(h:G ⟨m,s⟩ (.mg b) j f Z):bL m s o a l t f Z:=by
 have c:=P.ah b L;simp only[G]at h;generalize D:a.eval b=W at c;split at h
 case h_2=>trivial
 rename_i e d;unfold qS at d;split at d
 .rename_i S T k E p;rw[p]at c;obtain rfl:=Δ d;cases c with
  |aq S T k E hk V=>exact .same C (by simp[execOp,y,resolve,invoke,builtin,D,Builtin.cap_,run_underlying z,goInt]) (.v _ rfl) h
 .rename_i p;rw[p]at c;obtain rfl:=Δ d;cases c with
  |cX g k dh bS r=>simp only[Own.lh]at r;subst r;have:=bS rfl;subst this;exact .same C (by simp[execOp,y,resolve,invoke,builtin,D,Builtin.cap_,run_underlying z,goInt]) (.v _ rfl) h
  |J i off len k E n xs dh hk hlen V q u hH v r=>trivial
 .cases d
theorem Hi(z p:Nat)(x r d:Option Operand)(h b c:Int)(C:(x=ε/\h=0)\/∃k,valOf a x=β (.int k h))(D:(r=ε/\b=z)\/∃k,valOf a r=β (.int k b))(L:(d=ε/\c=p)\/∃k,valOf a d=β (.int k c))
  (P:d=ε\/r.isSome=η) (S:0<=h) (T:h<=b) (j:b<=c) (l:c<=p) (E:World):(Instr.sliceBounds η z p (valOf a x) (valOf a r) (valOf a d)).run m E=.ok (h.toNat,b.toNat,c.toNat) E:=by
 have n:(b.toNat)=b:=a4s δ;have q:(c.toNat)=c:=a4s δ;have V:0<=b:=δ;have s:0<=c:=δ;have W:b<=(p):=δ;have y:valOf a ε=none:=rfl;rcases L with⟨rfl,rfl⟩|⟨t,hm⟩
 .rcases C with⟨rfl,rfl⟩|⟨e,F⟩<;>rcases D with⟨rfl,rfl⟩|⟨f,G⟩
  .rfl
  .simp only[Instr.sliceBounds,y,G];simp[run_sliceBound,W,V]
  .simp only[Instr.sliceBounds,y,F];simp[run_sliceBound,S,T]
  simp_all [Instr.sliceBounds,run_sliceBound]
 .have g:d≠none:=by rintro rfl;rw[y]at hm;cases hm
  have i:=P.resolve_left g;rcases D with⟨rfl,rfl⟩|⟨f,G⟩
  .simp at i
  rcases C with⟨rfl,rfl⟩|⟨e,F⟩;simp_all [Instr.sliceBounds,run_sliceBound];simp_all [Instr.sliceBounds,run_sliceBound]
def Hj(k5:TypeId)(V:Operand)(z D E:Option Operand)(k7:o.op=.slice k5 V z D E)(k8:E=ε\/D.isSome=η)(Y:TypeId)(k9:m.underlying k5=β (.slice Y))(W:Nat)(H:(m.info? Y).map (·.size)=β W)(l0:aJ V=η)(I:z.all aJ=η)(K:D.all aJ=η)(M:E.all aJ=η)
  (p:bE t a j) (N:Holds t f l) (e:G ⟨m,s⟩ (.lq W V z D E) j f Z):bL m s o a l t f Z:=by
 have r:=p.ah V l0;have O:∀(g)(len k:Nat)(c h d:Int),((z=ε/\c=0)\/∃n,valOf a z=β (.int n c))->((D=ε/\h=len)\/∃n,valOf a D=β (.int n h))->((E=ε/\d=k)\/∃n,valOf a E=β (.int n d))->0<=c->c<=h->h<=d->d<=k->
   a.eval V=.slice g len k->(execOp a.eval o).run m l=.ok (.value (sliced g c.toNat h.toNat d.toNat W)) l:=by
  intro g len k c h d q F L u v w x i;have k6:=Hi (m:=m) len k z D E c h d q F L k8 u v w x l;simp only[valOf]at k6;cases k0:m.info? Y with
  |none=>simp[k0]at H
  |some ii=>
   have l1:ii.size=W:=by simpa[k0] using H
   simp[execOp,k7,i,Instr.sliceAt,Instr.slice,run_underlying k9,k6,sizeOf,typeInfo,k0,l1,sliced]
 simp only[G]at e;generalize i:a.eval V=l9 at r;split at e
 case h_2=>trivial
 rename_i C b;unfold qT at b;split at b
 .rename_i A len k Q P;rw[P]at r;split at b
  case h_2=>cases b
  rename_i c h d y S hm;split at b
  case isFalse=>cases b
  rename_i x;obtain⟨rfl,u,v,w,k2⟩:=x;obtain rfl:=Δ b;have q:=fF p I y;have F:=fF p K S;have L:=fF p M hm;cases r with
  |aq A l2 k Q X k3=>
   have C:=O _ len k c h d (by trivial) F L u v w k2 i;refine .same N C ?_ e;cases z with
   |none=>
    simp only[dg,a3c]at y;subst y;simp only[a4G,a3R,if_false];have:sliced (β ⟨A,0,ε⟩) ((0:Nat):Int).toNat h.toNat d.toNat Q=.slice (β ⟨A,0,ε⟩) h.toNat d.toNat:=by unfold sliced;simp[Addr.add]
    rw[this];exact .aq _ _ _ _ X δ
   |some z=>
    simp only[a5e,if_true];by_cases B:c<d
    .rw[if_pos B];unfold sliced;rw[if_neg δ,a3P,gM,a3t];exact .bB _ _ _ _ _ X δ
    .rw[if_neg B];unfold sliced;have:h.toNat - c.toNat=0:=δ;rw[this];exact .cX _ _ _ (λl3=>by omega) (show d.toNat - c.toNat=0 by omega)
 .rename_i A k4 len k Q P;rw[P]at r;split at b
  case h_2=>cases b
  rename_i c h d y S hm;split at b
  case isFalse=>cases b
  rename_i x;obtain⟨rfl,u,v,w,k2⟩:=x;obtain rfl:=Δ b;have q:=fF p I y;have F:=fF p K S;have L:=fF p M hm;cases r with
  |bB A k4 l2 k Q X k3=>
   have C:=O _ len k c h d (by trivial) F L u v w k2 i;refine .same N C ?_ e;by_cases B:c<d
   .rw[if_pos B];unfold sliced;rw[if_neg δ,a3P,gM];exact .bB _ _ _ _ _ X δ
   .rw[if_neg B];unfold sliced;have:h.toNat - c.toNat=0:=δ;rw[this];exact .cX _ _ _ (λl3=>by omega) (show d.toNat - c.toNat=0 by omega)
 .rename_i P;rw[P]at r;split at b
  case h_2=>cases b
  rename_i c h d y S hm;split at b
  case isFalse=>cases b
  rename_i x;obtain⟨rfl,rfl,rfl⟩:=x;obtain rfl:=Δ b;have q:=fF p I y;have F:=fF p K S;have L:=fF p M hm;cases r with
  |cX g k dh bS T=>simp only[Own.lh]at T;subst T;have:=bS rfl;subst this;have C:=O ε 0 0 0 0 0 (by trivial) (by trivial) (by trivial) δ δ δ δ i;exact .same N C (.cX _ _ .nil (λ_=>rfl) rfl) e
  |J l4 k4 len k W l5 xs dh H hlen k3 l6 l7 hH l8 T=>trivial
 .rename_i P;rw[P]at r;split at b
  case h_2=>cases b
  rename_i c h d y S hm;split at b
  case isFalse=>cases b
  rename_i x;obtain⟨rfl,rfl,rfl⟩:=x;obtain rfl:=Δ b;have q:=fF p I y;have F:=fF p K S;have L:=fF p M hm;cases r with
  |cX g k dh bS T=>simp only[Own.lh]at T;subst T;have C:=O g 0 0 0 0 0 (by trivial) (by trivial) (by trivial) δ δ δ δ i;refine .same N C ?_ e;unfold sliced;exact .cX _ _ .zero (λ_=>rfl) rfl
  |J l4 k4 len k W l5 xs dh H hlen k3 l6 l7 hH l8 T=>trivial
 .cases b
theorem vj(h:j7.size=e)(E:∀b∈j7.toList,b.oneCell'=η)(z:0<e)(c:Nat):bn t (Builtin.zeroCells j7 c) (ζ c (j7.toList.map cv)).flatten/\(∀p∈(ζ c (j7.toList.map cv)).flatten,p.one=η):=by
 have r:(j7.toList.map cv).length=e:=by simp[h]
 refine⟨bn.dG.2 ⟨by simp[size_zeroCells],λx b F d C=>?_⟩,λp k=>?_⟩
 .have y:x<c*e:=by grind[Ε,kv]
  rw[vf _ _ _ (by rw[r];exact y),r,a3u]at C;rw[a4v]at d;have G:x%e<j7.size:=by rw[h];exact a4O _ z
  simp only[Builtin.zeroCells,h]at d;rw[Array.getElem?_map]at d;simp only[a7a,y,if_true,a3P,a3c]at d;grind[Array.getElem?_eq_getElem,Option.some.injEq,aQ.cv]
 .obtain⟨L,D,k⟩:=a6t.1 k;obtain rfl:=(List.mem_replicate.1 D).2;obtain⟨b,_,rfl⟩:=a3m.1 k;exact ng b
theorem Hk(P:TypeId)(h:Operand)(C:o.op=.call {callee:=.builtin .clear,args:=#[h],argTypes:=#[P]})(S:TypeId)(D:m.underlying P=β (.slice S))(p:TypeInfo)(w:m.info? S=β p)(c:Value)(A:p.zero=β c)(V:c.cells.size=p.size)(W:∀h∈c.cells.toList,h.oneCell'=η)(e:0<p.size)
  (B:aJ h=η) (H:bE t a j) (g:Holds t f l) (z:G ⟨m,s⟩ (.mh p.size (c.cells.toList.map cv) h) j f Z):bL m s o a l t f Z:=by
 have r:=H.ah h B;simp only[G]at z;generalize E:a.eval h=k6 at r;split at z
 case h_2=>trivial
 rename_i k7 d;unfold kt at d;split at d
 .rename_i x k b F I L;rw[L]at r;split at d
  case h_2=>cases d
  rename_i k8 K;split at d
  case isFalse=>cases d
  rename_i M;obtain⟨rfl,N⟩:=M;obtain rfl:=Δ d;obtain⟨i,n⟩:=vj (t:=t) V W e b;have q:(ζ b (c.cells.toList.map cv)).flatten.length=b*p.size:=by rw[kv];simp[V]
  obtain⟨y,T,u,k9,O⟩:=Step.store g K k _ _ i n (by rw[q];exact N);refine .value (v:=.tuple #[]) ?_ O (.undef _) z;have v:=run_storeCells_at m x k T (Builtin.zeroCells c.cells b).toList 0 y l u (by have:=i.1;simp only[a6h];omega) (zo W b);simp only[a4K]at v;have Q:(storeCells ⟨x,k,ε⟩ (Builtin.zeroCells c.cells b).toList).run m l=.ok () (l.setRow x (cS y k (Builtin.zeroCells c.cells b).toList)):=by rw[v];rfl
  cases r with
  |bB x k b F I l0 X=>
   cases b with
   |zero=>
    have Y:(Builtin.zeroCells c.cells 0).toList=[]:=a2Y (by simp[size_zeroCells]);have k0:cS y k []=y:=by simp[cS]
    rw[Y,k0];have k2:=setRow_self l x y T (0,0) u;simp[execOp,C,resolve,invoke,builtin,E,Builtin.clear_,run_underlying D,k2]
   |succ b=>simp[execOp,C,resolve,invoke,builtin,E,Builtin.clear_,run_underlying D,zeroValue,w,A,typeInfo,Q]
 .rename_i l1 L;rw[L]at r;obtain rfl:=Δ d;have k3:(execOp a.eval o).run m l=.ok (.value (.tuple #[])) l:=by
   cases r with
   |cX k4 F dh bS k5=>cases k4<;>simp[execOp,C,resolve,invoke,builtin,E,Builtin.clear_,run_underlying D]
   |J l2 k len F l3 l4 xs dh e q X l5 n hH l6 k5=>simp_all [execOp,resolve,invoke,builtin,Builtin.clear_,run_underlying]
  exact .same g k3 (.undef _) z
 .cases d
theorem Hl(G:aQ t e3 q)(K:Holds t f l)(c:c8 f e q=β (i,g))(y:Program)(b:Nat)(x:b<=i):
  ∃z:List Value,(Builtin.firstCells e b e3).run y l=.ok z.toArray l/\bn t z.toArray (g.take (b*e))/\(g.take (b*e)).length=b*e:=by
 have L:∀(P)(S)(T),aQ t P S->c8 f e S=β (b,T)->T=g.take (b*e)->(Builtin.firstCells e b P).run y l=(Builtin.firstCells e b e3).run y l->
   ∃z:List Value,(Builtin.firstCells e b e3).run y l=.ok z.toArray l/\bn t z.toArray (g.take (b*e))/\(g.take (b*e)).length=b*e:=by
  intro P S T M V u N;obtain⟨O,v,Q,k6,_⟩:=ve M K V y;refine⟨O,by rw[<-N];exact v.cells,?_,by rw[<-u,<-Q];exact v.size⟩;rw[<-u];refine bn.dG.2 ⟨by trivial,λC k7 W k8 k9=>?_⟩;grind
 have l0:=c;unfold c8 at c;split at c
 .rename_i p w;split at c
  case isFalse=>cases c
  rename_i l1;simp only[a3c,a4h]at c;obtain⟨rfl,rfl⟩:=c;have l2:∀D∈p,α D.cells=e:=by simp_all
  cases G with
  |cX X d w bS Y=>simp only[a3a,Nat.le_zero]at x;subst x;exact⟨[],by cases X<;>simp[Builtin.firstCells,loadCells,loadCellsFrom],⟨ρ,λC W c=>by simp at c⟩,ρ⟩
  |J A r len d j Z p w hk hlen B H l3 hH l4 Y=>
   subst hlen;have k0:∀D∈p.take b,α D.cells=j:=λD k2=>H D (a3j k2);have k3:=((fw b H).2).symm;by_cases I:p=[]
   .subst I;simp only[a3a,Nat.le_zero]at x;subst x;exact⟨[],by simp[Builtin.firstCells,loadCells,loadCellsFrom],⟨ρ,λC W c=>by simp at c⟩,ρ⟩
   obtain rfl:j=e:=by
    match p,I with
    |l5::l6,_=>simp_all
   refine L (.slice (β ⟨A,r,ε⟩) b d) (.J (p.take b) .any) (flat (p.take b)) (.J A r b d j Z (p.take b) .any hk Κ δ k0 (λl7 F=>?_) (λC k4=>hH C (a4c k4 (a3g _ x))) (λC W l8=>?_) trivial) ?_ k3 rfl;grind;grind
   .unfold c8;simp_all
 .rename_i k E d h;split at c
  case h_2=>cases c
  rename_i m n;split at c
  case isFalse=>cases c
  rename_i F;simp only[a3c,a4h]at c;obtain⟨rfl,rfl⟩:=c;obtain⟨rfl,k5⟩:=F;have V:b*h<=E*h:=a3g _ x;cases G with
  |aq k E d h s B=>refine L (.slice (β ⟨k,0,ε⟩) b d) (.aq k b d h) (m.take (b*h)) (.aq k b d h s δ) ?_ (by grind) rfl;simp only[c8,n];grind
 .rename_i k r E d h;split at c
  case h_2=>cases c
  rename_i m n;split at c
  case isFalse=>cases c
  rename_i F;simp only[a3c,a4h]at c;obtain⟨rfl,rfl⟩:=c;obtain⟨rfl,k5⟩:=F;have V:b*h<=E*h:=a3g _ x;cases G with
  |bB k r E d h s B=>refine L (.slice (β ⟨k,r,ε⟩) b d) (.bB k r b d h) ((m.drop r).take (b*h)) (.bB k r b d h s δ) ?_ (by grind) rfl;simp only[c8,n];grind
 .cases c
theorem Hm(M k5:TypeId)(D E:Operand)(i:o.op=.call {callee:=.builtin .copy,args:=#[D,E],argTypes:=#[M,k5]})(n:TypeId)(q:m.underlying M=β (.slice n))(d:Nat)(k6:(m.info? n).map (·.size)=β d)
  (k7:aJ D=η) (k8:aJ E=η) (N:bE t a j) (V:Holds t f l) (u:G ⟨m,s⟩ (.mi d D E) j f Z):bL m s o a l t f Z:=by
 have y:=N.ah D k7;have O:=N.ah E k8;simp only[G]at u;generalize W:a.eval D=k9 at y;split at u
 case h_2=>trivial
 rename_i n1 n2 c;unfold lr at c;split at c
 case h_2=>cases c
 rename_i p z Q;obtain⟨n3,e,n4,n5,l0⟩:=ve O V Q m;have n9:=e.size;have a00:α z=p*d:=δ;have X:∀b,∃r:Array Value,(Builtin.firstCells d (min p b) (a.eval E)).run m l=.ok r l/\bn t r (z.take (b*d))/\(z.take (b*d)).length=min p b*d:=by intro b;obtain⟨r,a01,a02,a03⟩:=Hl O V Q m (min p b) δ;grind[min,Nat.mul_le_mul_right,Nat.min_eq_left,Θ,Nat.min_eq_right]
 have l1:∃v,m.info? n=β v/\v.size=d:=by simp_all
 obtain⟨v,w,A⟩:=l1;have a04:∀(h k b x)(C),k9=.slice (β ⟨h,k,ε⟩) b x->f h=β (.cells C)->k+b*d<=α C->
   Z (.v (.int .i64 (min p b:Nat))) (f.set h (.cells (putAt C k (z.take (b*d)))))->bL m s o a l t f Z:=by
  intro h k b x C l2 B Y l3;obtain⟨r,F,L,g⟩:=X b;have H:∀I∈z.take (b*d),I.one=true:=λI P=>l0 I (a3j P);have a05:min p b*d<=b*d:=a3g _ δ;obtain⟨k0,T,l4,a06,l5⟩:=Step.store V B k (z.take (b*d)) r L H δ;refine .value ?_ l5 (.v _ rfl) l3;have k2:=run_storeCells_at m h k T r.toList 0 k0 l l4 (by have:=L.1;simp;omega) (L.nd H);simp only[a4K]at k2;have l6:(storeCells ⟨h,k,ε⟩ r.toList).run m l=.ok () (l.setRow h (cS k0 k r.toList)):=by rw[k2];rfl
  have k3:Nat.min p b=min p b:=rfl;rw[l2]at W;simp[execOp,i,resolve,invoke,builtin,W,Builtin.copy_,run_underlying q,e.len,sizeOf,typeInfo,w,A,F,l6,goInt]
 split at c
 .rename_i h k b x K S;rw[S]at y;split at c
  case h_2=>cases c
  rename_i C B;split at c
  case isFalse=>cases c
  rename_i P;obtain⟨rfl,Y⟩:=P;simp only[a3c,a4h]at c;obtain⟨rfl,rfl⟩:=c;cases y with
  |bB h k b x K l7 k4=>grind
 .rename_i h b x K S;rw[S]at y;split at c
  case h_2=>cases c
  rename_i C B;split at c
  case isFalse=>cases c
  rename_i P;obtain⟨rfl,Y⟩:=P;simp only[a3c,a4h]at c;obtain⟨rfl,rfl⟩:=c;cases y with
  |aq h b x K l7 k4=>simp_all
 .rename_i a07 S;rw[S]at y;simp only[a3c,a4h]at c;obtain⟨rfl,rfl⟩:=c;have c:(execOp a.eval o).run m l=.ok (.value (.int .i64 0)) l:=by
   obtain⟨r,F,L,g⟩:=X 0;have k3:Nat.min p 0=0:=Nat.min_zero p;rw[Nat.min_zero]at F;have l8:=a6e (by have:=L.1;simp at this;simpa using this);subst l8;cases y with
   |cX l9 x dh bS n0=>cases l9<;>simp[execOp,i,resolve,invoke,builtin,W,Builtin.copy_,run_underlying q,e.len,sizeOf,typeInfo,w,A,k3,F,goInt,storeCells]
   |J a08 k len x d a09 xs dh k6 g k4 a10 H hH a11 n0=>simp at g;subst g;simp[execOp,i,resolve,invoke,builtin,W,Builtin.copy_,run_underlying q,e.len,sizeOf,typeInfo,w,A,F,goInt,storeCells]
  exact .same V c (.v _ rfl) u
 .cases c
theorem Hn(y:FuncId)(h:Func)(k p:Operand)(M:Array TypeId)(N:o.op=.call {callee:=.value (.func y),args:=#[k,p],argTypes:=M})(O:m.funcs[y]?=β h) (Q:(h.name== "runtime.NumGoroutine")=ι) (X:h.body.isNone=η) (Y:Extern.findNext h=ε)
  (c:TypeId) (C:Array TypeId) (k0:Extern.find h=β (Extern.SlicesOverlaps.overlaps #[c,c] C)) (r:TypeId) (k2:m.underlying c=β (.slice r)) (D:Nat) (k3:(m.info? r).map (·.size)=β D)
  (k4:aJ k=η) (k5:aJ p=η) (w:bE t a j) (A:Holds t f l) (E:G ⟨m,s⟩ (.ml k p) j f Z):bL m s o a l t f Z:=by
 have B:=w.ah k k4;have H:=w.ah p k5;simp only[G]at E;generalize k6:a.eval k=a02 at B;generalize k7:a.eval p=a03 at H;split at E
 case h_2=>trivial
 rename_i a04 d;unfold ku at d;split at d
 case h_2=>cases d
 rename_i F L k8 k9;split at d
 case isFalse=>cases d
 rename_i l0;obtain⟨l1,l2,l3⟩:=l0;obtain rfl:=Δ d;have I:∀(P:R)(S:Value)(b:Nat),cG P=β b->aQ t S P->∃l4 l5 l6,S=.slice (β ⟨b,l4,ε⟩) l5 l6:=by
  intro P S b x V;cases V<;>simp only[cG,a3c,reduceCtorEq]at x
  .subst x;simp
  .subst x;simp
 have K:∀b,jI f b=η->∃z T,l.heap[b]?=β (.cells z T (0,0))/\z.size≠0:=by
  intro b W;unfold jI at W;split at W
  .rename_i a05 a06 l7;obtain⟨_,z,T,x,V,_⟩:=A.cM b _ l7;exact⟨z,T,x,by rw[V.1];simp⟩
  .cases W
 obtain⟨e,g,i,rfl⟩:=I _ _ _ k8 B;obtain⟨n,q,c2,rfl⟩:=I _ _ _ k9 H;obtain⟨l8,l9,u,a07⟩:=K _ l2;obtain⟨n0,n1,n2,n3⟩:=K _ l3;have n4:∀l,(Go.sizeOf r).run m l=.ok D l:=by
  intro l;cases n5:m.info? r with
  |none=>simp[n5]at k3
  |some ii=>simp_all [sizeOf,typeInfo]
 have n9:=Lib.run_overlaps_apart l c (C.getD 0 0) r k2 D n4 ⟨F,e,ε⟩ ⟨L,n,ε⟩ g i q c2 l1 l9 n1 l8.size n0.size (by simp[World.shape?,u]) (by simp[World.shape?,n2]) n3 (by simp[World.frozen?,u]) (by simp[World.frozen?,u]);have a00:(Extern.SlicesOverlaps.overlaps #[c,c] C #[.slice (β ⟨F,e,ε⟩) g i,.slice (β ⟨L,n,ε⟩) q c2]).run m l=.ok (.bool ι) l:=n9;have v:=run_callFunc_extern O Q X Y k0 #[.slice (β ⟨F,e,ε⟩) g i,.slice (β ⟨L,n,ε⟩) q c2] l;rw[a00]at v;simp only[Result.andThen_ok]at v;refine .same A ?_ (.v _ rfl) E;have a01:a.eval (.func y)=.func (.func y) #[] #[]:=rfl;simp[execOp,N,resolve,a01,Deferred.ofValue,invoke,k6,k7,v]
def zu(h:World)(x y E p:TypeId)(d:TypeInfo)(r:Value)(F:IntKind)(G:m.underlying x=β (.slice p))(L:m.underlying y=β (.int F))
  (P:m.info? p=β d) (S:d.zero=β r) (z:Option Addr) (c k:Nat) (C:List Value) (u:0<d.size)
  (T:(Builtin.firstCells d.size c (.slice z c k)).run m h.drew=.ok C.toArray h.drew)
  (b:Nat) (v:0<b) (V:k<c+b) (w:((c+b:Nat):Int)<=9223372036854775807) (W:(c+b)*d.bytes<=140737488355328):
  (Builtin.append_ #[x,y] E #[.slice z c k,.int .i64 b]).run m h=
   .ok (.slice (β ⟨h.heap.size,0,ε⟩) (c+b) (grownCap h (c+b) k p))
    (h.drew.alloc (.cells (C.toArray++Builtin.zeroCells r.cells b++Builtin.zeroCells r.cells (grownCap h (c+b) k p -(c+b))) p)):=by
 have e:¬(c+b<=k):=δ;have f:¬(9223372036854775807<((c)+(b:Int))):=δ;have g:¬(281474976710656<Builtin.nextslicecap (c+b) k*d.bytes):=by have:=growslice_fits V W;omega
 have i:IntKind.i64.wrap (b)=b:=by rw[IntKind.wrap_i64];omega
 have j:¬((b:Int)<0):=δ;have A:b*d.bytes<=(c+b)*d.bytes:=a3g _ δ;have l:¬(281474976710656<(b)*(d.bytes:Int)):=by rw[<-Int.natCast_mul];omega
 have D:b≠0:=δ;have n:¬(b*d.size=0):=Nat.mul_ne_zero D δ;have q:=λs=>run_underlying L s;have t:¬(d.size=0):=δ;simp[Builtin.append_,run_underlying G,q,sizeOf,typeInfo,zeroValue,P,S,asInt,asIntOf,i,j,e,n,D,t,f,g,l,Question.forced,T,newRow,grownCap]
theorem Ho(r x:Operand)(z C:TypeId)(u:IntKind)(k3:m.underlying C=β (.int u))(k4:o.op=.call {callee:=.builtin .append,args:=#[r,x],argTypes:=#[z,C]})(k:TypeId)(k5:m.underlying z=β (.slice k))(d:TypeInfo)(k6:m.info? k=β d)(p:Value)(k7:d.zero=β p)
  (w:p.cells.size=d.size) (k8:∀r∈p.cells.toList,r.oneCell'=η) (y:0<d.size) (l6:aJ r=η) (l7:aJ x=η) (k9:bE t a j) (P:Holds t f l) (S:G ⟨m,s⟩ (.mj d.size d.bytes (p.cells.toList.map cv) r x) j f Z):bL m s o a l t f Z:=by
 have D:=k9.ah r l6;have V:=k9.ah x l7;simp only[G]at S;generalize l0:a.eval r=l8 at D;generalize l1:a.eval x=a04 at V;have newRow:∀(A:List Value)(b c h)(e),bn t A.toArray e->(∀W∈e,W.one=η)->b+c<=h->
   ∃E:Χ,α E=(h -(b+c))*d.size/\Step t f l t (f.set l.heap.size (.cells (e++(ζ c (p.cells.toList.map cv)).flatten++E))) (l.drew.alloc (.cells (A.toArray++Builtin.zeroCells p.cells c++Builtin.zeroCells p.cells (h -(b+c))) k)):=by
  intro A b c h e B H I;obtain⟨l9,a05⟩:=vj w k8 y c;obtain⟨n0,a06⟩:=vj w k8 y (h -(b+c));refine⟨(ζ (h -(b+c)) (p.cells.toList.map cv)).flatten,by rw[kv];simp[w],?_⟩;refine(Step.drew P).trans (Step.new P.drew _ k _ (λW g=>?_) (bn.append (bn.append B l9) n0));grind
 split at S
 .rename_i i b h a07 c K M;rw[K]at D;rw[M]at V;obtain rfl:=V.dq;split at S
  case h_2=>trivial
  rename_i N n1;obtain⟨rfl,n2,l2,n3,O,n4,Q⟩:=S;obtain⟨H,X,T,a08,a09,l3⟩:=P.read n1;have a10:=l3.1;have Y:=a4s l2;cases D with
  |aq i b h n5 a11 I=>
   have a13:b*d.size<=α N:=by rw[n2];exact a3g _ I
   have n9:(X.toList.take (b*d.size)).length=b*d.size:=Κ;have a00:(Builtin.firstCells d.size b (.slice (β ⟨i,0,ε⟩) b h)).run m l.drew=.ok (X.toList.take (b*d.size)).toArray l.drew:=by
    refine run_firstCells_some l.drew d.size b ⟨i,0,ε⟩ b h _ n9 (λl4 v D=>?_);have a14:l4<b*d.size:=by grind
    rw[gM,a3t];show l.cell? _= _;grind[cell_of_row,List.getElem?_take_of_lt]
   have F:=zu l z C o.type k d p u k5 k3 k6 k7 (β ⟨i,0,ε⟩) b h _ y a00 c.toNat δ n3 δ O;rw[Y]at F;have L:=grownCap_ge l (b+c.toNat) h k;have k0:=grownCap_le_maxLen l (b+c.toNat) h k (by unfold maxLen;omega);have B:bn t (X.toList.take (b*d.size)).toArray (N.take (b*d.size)):=by rw[bn.dG]at l3|-;grind
   obtain⟨E,n,q⟩:=newRow _ b c.toNat (grownCap l (b+c.toNat) h k) (N.take (b*d.size)) B (λW g=>H W (a3j g)) L;exact .value (ie r x z C k4 (by rw[l0,l1];exact F)) q (.aq _ _ _ _ y L) (Q _ _ E P.dQ L k0 n)
 .rename_i a01 l5 c K M;rw[K]at D;rw[M]at V;obtain rfl:=V.dq;obtain⟨rfl,rfl,l2,O,n4,Q⟩:=S;have Y:((c.toNat))=c:=a4s δ;have a02:l8=.slice ε 0 0:=by
   cases D with
   |cX a15 h l5 bS k2=>simp only[Own.lh]at k2;subst k2;rw[bS rfl]
   |J a16 off len h n5 a18 a01 l5 y hlen I a19 H hH a27 k2=>trivial
  subst a02;have F:=zu l z C o.type k d p u k5 k3 k6 k7 ε 0 0 [] y a7v c.toNat δ δ δ (by simpa using O);rw[Y]at F;simp only[a3t]at F;have L:=grownCap_ge l c.toNat 0 k;have k0:=grownCap_le_maxLen l c.toNat 0 k (by unfold maxLen;omega);obtain⟨E,n,q⟩:=newRow [] 0 c.toNat (grownCap l c.toNat 0 k) [] ⟨rfl,λl4 a29 a03=>by simp at a03⟩ (λW g=>by simp at g) δ;simp only[a3t,a3l]at q n;exact .value (ie r x z C k4 (by rw[l0,l1];exact F)) q (.aq _ _ _ _ y L) (Q _ _ E P.dQ L k0 n)
 .trivial
end
def iR(a:Program)(b:TypeId):Option Nat:=(a.info? b).map (·.size)
def placeOf(a:Program)(h:TypeId)(b:Nat):Option (Nat×Nat):=
 match a.underlying h with
 |some (.struct k)=>(k.toList.mapM (λc=>(a.info? c.type).map λo=>(c.offset,o.size))).bind λp=>p[b]?
 |some (.array _ r)=>(a.info? r).map λd=>(b*d.size,d.size)
 |_=>ε
def vk(a:Program)(c:TypeId):Bool:=
 match a.underlying c with
 |some (.struct d)=>(d.toList.mapM (λb=>(a.info? b.type).map λh=>(b.offset,h.size))).isSome
 |some (.array _ k)=>(a.info? k).isSome
 |_=>ι
def qX(b:Program)(c:TypeId):Option (Array Value):=
 match b.info? c with
 |some d=>match d.zero with
  |some a=>if a.cells.toList.all (·.oneCell')then β a.cells else ε
  |none=>ε
 |none=>ε
def zv(b:Program)(c:TypeId)(a:Nat×Operand):Option (Nat×Nat×Operand):=
 match placeOf b c a.1 with
 |some (off,cn)=>if 0<cn/\aJ a.2=η then β (off,cn,a.2)else ε
 |none=>ε
def qY(a:Program)(b:TypeId):List (Nat×Operand)->Option (List (Nat×Nat×Operand))
 |[]=>β []
 |c::d=>match zv a b c,qY a b d with
  |some h,β k=>β (h::k)
  |_,_=>ε
def qZ:Nat->List (Nat×Operand)->Option (List Operand)
 |_,[]=>β []
 |a,(c,b)::d=>if a=c/\aJ b=η then(qZ (a+1) d).map (b:: ·)else ε
def zw(a:Program)(b:TypeId)(c:Operand):Option c4:=
 match a.underlying b,iR a b with
 |some d,β h=>if aJ c=η/\(d.isRow=η\/h=1)then β (.load d.isRow h c)else ε
 |_,_=>ε
structure Env where
 iN:Υ
 zx:Υ
 wr:Υ
 sI:Υ
 ty:Bool
 lv:Bool
 pins:Υ:=[]
 zy:Bool:=ι
 vl:Bool:=ι
def Env.Hp(a:Env):Operand->Bool
 |.tmp b=>a.zx.contains b
 |_=>ι
def Env.fG(a:Env):Option Nat->Bool
 |some b=> !a.wr.contains b
 |none=>η
def Env.mut(a:Env):Option Nat->Bool
 |some b=>a.sI.contains b
 |none=>ι
def Env.box(a:Env):Option Nat->Bool
 |some b=>a.iN.contains b
 |none=>ι
def vm(h:Program)(o:Env)(r:Option Nat)(x:TypeId)(a:Operand)(c d y:Option Operand):Option c4:=
 if aJ a=η/\c.all aJ=η/\d.all aJ=η then
  match h.underlying x,y with
  |some (.slice k),ε=>match iR h k with
   |some b=>β (.oq b a c d)
   |none=>ε
  |some (.array p k),ε=>match iR h k with
   |some b=>if 0<b then β (if o.Hp a=η then .jw b p a c d else .kr b p a c d (o.fG r))else ε
   |none=>ε
  |_,_=>ε
 else ε
def Hq:Operand->Bool
 |.const (.pointer ε)=>η
 |_=>ι
def sJ(a:Program)(c:Bool)(h:TypeId)(d b:Operand):Option c4:=
 match a.underlying h with
 |some .bool=>ε
 |some (.slice _)=>match b with
  |.const (.slice ε 0 0)=>β (.mc c d)
  |_=>ε
 |some (.pointer k)=>match a.info? k with
  |some o=>if o.size≠0 then β (if Hq b=η then .pD c d b else .ln c d b)else ε
  |none=>ε
 |some (.int _)=>β (.bin (if c then .neq else .eql) d b)
 |some .string=>β (.bin (if c then .neq else .eql) d b)
 |some p=>match flatK a 20 h with
  |some bw=>if a.cellsOf h=α bw/\(a.info? h).isSome=η/\p.isRow=η/\a.eqGuardType a.depth h=ι then β (.eqv c (mn bw) d b)else ε
  |none=>ε
 |none=>ε
def vn(d:Program)(x:Env)(y:Option Nat)(k:Call):Option c4:=
 match k.callee,k.args.toList,k.argTypes.toList with
 |.value (.func p),args,_=>if fa d p=η/\args.all aJ=η then β (.fv p args)else ε
 |.builtin .len,[a],[h]=>match d.underlying h with
  |some (.slice _)=>if aJ a=η then β (.len a)else ε
  |some .string=>if aJ a=η then β (.pC a)else ε
  |some (.map _ _)=>if aJ a=η then β (.nj a)else ε
  |_=>ε
 |.builtin .append,[a,b],[h,z]=>match d.underlying h with
  |some (.slice o)=>match d.info? o with
   |some c=>match c.zero with
    |some r=>if h=z/\r.cells.size=c.size/\0<c.size/\aJ a=η/\aJ b=η then(if x.mut y=η then(if r.cells.toList.all (·.oneCell')=η then β (.lp c.size c.bytes a b)else ε)else β (.app c.size c.bytes a b))else ε
    |none=>ε
   |none=>ε
  |_=>ε
 |.builtin .max,[a,b],_=>if aJ a=η/\aJ b=η then β (.lo η .i64 a b)else ε
 |.builtin .min,[a,b],_=>if aJ a=η/\aJ b=η then β (.lo ι .i64 a b)else ε
 |.builtin .copy,[a,b],[h,_]=>match d.underlying h with
  |some (.slice o)=>match iR d o with
   |some C=>if aJ a=η/\aJ b=η then β (.mb C a b)else ε
   |none=>ε
  |_=>ε
 |_,_,_=>ε
def vo(b:Program)(z:Env)(x:Oper):Option c4:=
 match x.op with
 |.move a|.assign a=>if aJ a=η then β (.eA a)else ε
 |.pick C a k=>if aJ C=η/\aJ a=η/\aJ k=η then β (.pick C a k)else ε
 |.alloc T=>match qX b T with
  |some o=>β (.alloc T (o.toList.map cv))
  |none=>ε
 |.box T a=>if aJ a=η then β (if z.box x.dst=η then .kp T a else .box T a)else ε
 |.load d a=>zw b d a
 |.store d a k=>match iR b d with
  |some p=>if 0<p/\aJ a=η/\aJ k=η then β (.store p a k)else ε
  |none=>ε
 |.nilCheck a=>if aJ a=η then β (.pA a)else ε
 |.fieldAddr d a c=>match b.underlying d with
  |some (.struct D)=>match D[c]? with
   |some fd=>match iR b fd.type with
    |some p=>if p≠0/\aJ a=η then β (.kq fd.offset a)else ε
    |none=>ε
   |none=>ε
  |_=>ε
 |.indexAddr d a c=>if aJ a=η/\aJ c=η then
   match b.underlying d with
   |some (.array len h)=>match iR b h with
    |some r=>β (.pB r len a c)
    |none=>ε
   |some (.slice h)=>match iR b h with
    |some r=>β (.dB r a c)
    |none=>ε
   |_=>ε
  else ε
 |.field d a c=>match b.underlying d with
  |some (.struct D)=>match D[c]? with
   |some fd=>match b.underlying fd.type,iR b fd.type with
    |some y,β p=>if aJ a=η/\(y.isRow=η\/p=1)then β (.ot y.isRow fd.offset p a)else ε
    |_,_=>ε
   |none=>ε
  |_=>ε
 |.index d a c=>if aJ a=η/\aJ c=η then
   match b.underlying d with
   |some (.array len h)=>match b.underlying h,iR b h with
    |some y,β r=>if y.isRow=η\/r=1 then β (.oo y.isRow r len a c)else ε
    |_,_=>ε
   |some .string=>β (.lk a c)
   |_=>ε
  else ε
 |.build d parts=>match qX b d,qY b d parts.toList with
  |some o,β res=>if vk b d=η then β (.ll (o.toList.map cv) res)else ε
  |_,_=>ε
 |.buildSlice d p parts=>match b.underlying d,qZ 0 parts.toList with
  |some (.slice h),β xs=>match b.info? h with
   |some c=>match c.zero with
    |some o=>if o.cells.size=c.size/\o.cells.toList.all (·.oneCell')=η/\0<c.size/\p*c.size<=2^24/\α xs=p then β (if z.mut x.dst=η then .jy c.size xs else .jv c.size xs)else ε
    |none=>ε
   |none=>ε
  |_,_=>ε
 |.slice d a aT aS E=>vm b z x.dst d a aT aS E
 |.binOp op d a k _=>if aJ a=η/\aJ k=η then
   match op with
   |.eql=>sJ b ι d a k
   |.neq=>sJ b η d a k
   |op=>β (.bin op a k)
  else ε
 |.unOp op _ a=>if aJ a=η then β (.un op a)else ε
 |.convert st F a=>match b.underlying st,b.underlying F with
  |some (.int _),β (.int r)=>if aJ a=η then β (.ib r a)else ε
  |some (.slice h),β .string=>match b.underlying h with
   |some (.int .u8)=>if aJ a=η then β (.pE a)else ε
   |_=>ε
  |some .string,β (.slice h)=>match b.underlying h with
   |some (.int .u8)=>if aJ a=η then β (.ou a)else ε
   |_=>ε
  |_,_=>ε
 |.makeSlice d a k=>match b.underlying d with
  |some (.slice h)=>match b.info? h with
   |some c=>match c.zero with
    |some o=>if o.cells.size=c.size/\o.cells.toList.all (·.oneCell')=η/\0<c.size/\aJ a=η/\aJ k=η then β (.jx c.size c.bytes (o.cells.toList.map cv) a k)else ε
    |none=>ε
   |none=>ε
  |_=>ε
 |.extract a c=>if aJ a=η then β (.ext a c)else ε
 |.call C=>vn b z x.dst C
 |_=>ε
variable{e2:c4}{I:Bool}{Y e5:Operand}{b0:Type}{b2:TypeId}
section
variable{o:Oper}{a:Act}
def sK{b:TypeDesc}(c:b.isRow=η\/e=1):b.isRow=ι->e=1:=λd=>c.resolve_left (by simp[d])
theorem vp(c:qX m b2=β j7):∃b v,m.info? b2=β b/\b.zero=β v/\v.cells=j7/\∀d∈j7.toList,d.oneCell'=true:=by unfold qX at c;grind
theorem Hr(c:qX m b2=β j7)(d:vk m b2=η)(b:List (Nat×Value)):m.built b2 b=Instr.fill (placeOf m b2) j7 b:=by obtain⟨h,v,k,p,rfl,_⟩:=vp c;unfold vk at d;unfold Program.built placeOf;grind[Option.isSome_iff_exists]
theorem zz{x:TypeId}:∀ {r:List (Nat×Operand)}{res:List (Nat×Nat×Operand)},qY m x r=β res->α r=α res/\
  ∀(d:Nat)(h:Nat×Operand)(b:Nat×Nat×Operand),r[d]?=β h->res[d]?=β b->placeOf m x h.1=β (b.1,b.2.1)/\h.2=b.2.2/\aJ h.2=η/\0<b.2.1
 |[],res,c=>by
  simp only[qY,a3c]at c;simp_all
 |h::r,res,c=>by
  simp only[qY]at c;split at c
  case h_2=>cases c
  rename_i b D y z;obtain rfl:=Δ c;obtain⟨C,E⟩:=zz z;refine⟨by simp[C],λd F G k p=>?_⟩
  match d,k,p with
  |0,k,p=>simp only[a5s,a3c]at k p;subst k;subst p;unfold zv at y;grind
  |d+1,k,p=>grind
theorem zA:∀ {d:Nat}{h:List (Nat×Operand)}{c:List Operand},qZ d h=β c->h=(c.zipIdx d).map (λk=>(k.2,k.1))/\∀p∈c,aJ p=η
 |d,[],c,b=>by
  simp only[qZ,a3c]at b;simp_all
 |d,(x,p)::y,c,b=>by
  simp only[qZ]at b;split at b
  case isFalse=>cases b
  rename_i z;obtain⟨C,r,rfl⟩:=a5v.1 b;obtain⟨D,E⟩:=zA r;simp_all
def pI{b:Array b0}{c:b0}(d:b.toList=[c]):b=#[c]:=a6u.1 d
def ig{b:Array b0}{c d:b0}(h:b.toList=[c,d]):b=#[c,d]:=a6u.1 h
theorem Hs{P:Env}{S:Option Nat}{d h E:Option Operand}(z:o.op=.slice b2 Y d h E)(b:vm m P S b2 Y d h E=β e2)(C:bE t a j)(D:Holds t f l)(k:G ⟨m,s⟩ e2 j f Z):bL m s o a l t f Z:=by
 unfold vm at b;split at b
 case isFalse=>cases b
 rename_i c;split at b
 .rename_i p r;split at b
  case h_2=>cases b
  rename_i x y;obtain rfl:=Δ b;exact GK b2 Y d h z p r x y c.1 c.2.1 c.2.2 C D k
 .rename_i F p r;split at b
  case h_2=>cases b
  rename_i x y;split at b
  case isFalse=>cases b
  rename_i L;obtain rfl:=Δ b;split at k
  .exact GR b2 Y d h z F p r x y L c.1 c.2.1 c.2.2 C D k
  .exact zj b2 Y d h z F p r x y L _ c.1 c.2.1 c.2.2 C D k
 .cases b
theorem zB{c:TypeId}(d:o.op=.binOp (if I then .neq else .eql) b2 Y e5 c)(h:aJ Y=η)(y:aJ e5=η)(b:sJ m I b2 Y e5=β e2)(k:bE t a j)(p:Holds t f l)(r:G ⟨m,s⟩ e2 j f Z):bL m s o a l t f Z:=by
 unfold sJ at b;split at b
 .cases b
 .rename_i z x;split at b
  .obtain rfl:=Δ b;exact GW I b2 Y c d z x h k p r
  .cases b
 .rename_i z x;split at b
  .rename_i D E;split at b
   .rename_i C;split at b
    .obtain rfl:=Δ b;exact GI I b2 Y e5 c d z x D E C h y k p r
    .obtain rfl:=Δ b;exact H2 I b2 Y e5 c d z x D E C h y k p r
   .cases b
  .cases b
 .obtain rfl:=Δ b;exact vb _ b2 Y e5 c d h y k p r
 .obtain rfl:=Δ b;exact vb _ b2 Y e5 c d h y k p r
 .rename_i F _ _ _ _ _ x;split at b
  case h_2=>cases b
  rename_i L P;split at b
  case isFalse=>cases b
  rename_i C;obtain rfl:=Δ b;grind[GH]
 .cases b
theorem Ht{V:Env}{W:Option Nat}{P:Call}(C:o.op=.call P)(b:vn m V W P=β e2)(D:bE t a j)(E:Holds t f l)(F:G ⟨m,s⟩ e2 j f Z):bL m s o a l t f Z:=by
 obtain⟨H,I,K⟩:=P;unfold vn at b;split at b
 .rename_i M c;simp only at c;subst c;split at b
  case isFalse=>cases b
  rename_i d;obtain rfl:=Δ b;obtain⟨y,S⟩:=d;unfold fa at y;split at y
  case h_2=>cases y
  rename_i N O;simp only[Ξ,bne_iff_ne,ne_eq]at y;grind[GJ,List.all_eq_true]
 .rename_i p r c h x;simp only at c h x;subst c;obtain rfl:=pI h;obtain rfl:=pI x;split at b
  .rename_i z k;split at b
   case isFalse=>cases b
   rename_i d;obtain rfl:=Δ b;exact GA r p C z k d D E F
  .rename_i k;split at b
   case isFalse=>cases b
   rename_i d;obtain rfl:=Δ b;exact GB r p C k d D E F
  .rename_i e g k;split at b
   case isFalse=>cases b
   rename_i d;obtain rfl:=Δ b;exact He r p C e g k d D E F
  .cases b
 .rename_i p L r T c h x;simp only at c h x;subst c;obtain rfl:=ig h;obtain rfl:=ig x;split at b
  case h_2=>cases b
  rename_i z k;split at b
  case h_2=>cases b
  rename_i i n;split at b
  case h_2=>cases b
  rename_i q u;split at b
  case isFalse=>cases b
  rename_i d;obtain⟨rfl,y,S,v,w⟩:=d;split at b
  .split at b
   case isFalse=>cases b
   rename_i Q;obtain rfl:=Δ b;exact zp p L r r _ k (.inl ⟨z,rfl⟩) C z k i n q u y (by grind) S v w D E F
  .obtain rfl:=Δ b;grind[GO]
 .rename_i p L c h;simp only at c h;subst c;obtain rfl:=ig h;split at b
  case isFalse=>cases b
  rename_i d;obtain rfl:=Δ b;grind[zq]
 .rename_i p L c h;simp only at c h;subst c;obtain rfl:=ig h;split at b
  case isFalse=>cases b
  rename_i d;obtain rfl:=Δ b;grind[zq]
 .rename_i p L r T c h x;simp only at c h x;subst c;obtain rfl:=ig h;obtain rfl:=ig x;split at b
  case h_2=>cases b
  rename_i z k;split at b
  case h_2=>cases b
  rename_i A B;split at b
  case isFalse=>cases b
  rename_i d;obtain rfl:=Δ b;exact GV r T p L C z k A B d.1 d.2 D E F
 .cases b
theorem Hu{O:Env}(b:vo m O o=β e2)(x:bE t a j)(p:Holds t f l)(r:G ⟨m,s⟩ e2 j f Z):bL m s o a l t f Z:=by
 unfold vo at b;split at b
 case h_1 d c=>split at b;(rename_i y;obtain rfl:=Δ b;exact ze d (.inl c) y x p r);(cases b)
 case h_2 d c=>split at b;(rename_i y;obtain rfl:=Δ b;exact ze d (.inr c) y x p r);(cases b)
 case h_3 Q d V c=>split at b;(rename_i y;obtain rfl:=Δ b;grind[Gr]);(cases b)
 case h_4 T c=>
  split at b
  .rename_i n S;obtain rfl:=Δ b;obtain⟨z,v,i,K,rfl,q⟩:=vp S;exact Gp T c z i v K q p r
  .cases b
 case h_5 T d c=>
  split at b
  .rename_i y;obtain rfl:=Δ b;grind[GQ,Gq]
  .cases b
 case h_6 k d c=>
  unfold zw at b;split at b
  .rename_i W F C L;split at b
   .rename_i h;obtain rfl:=Δ b;exact Gl k d c W C F L (sK h.2) h.1 x p r
   .cases b
  .cases b
 case h_7 k d V c=>
  split at b
  .rename_i F L;split at b
   .rename_i h;obtain rfl:=Δ b;exact Gn k d V c F L h.1 h.2.1 h.2.2 x p r
   .cases b
  .cases b
 case h_8 d c=>split at b;(rename_i y;obtain rfl:=Δ b;exact Gs d c y x p r);(cases b)
 case h_9 k d z c=>
  split at b
  .rename_i u C;split at b
   .rename_i w A;split at b
    .rename_i F L;split at b
     .rename_i h;obtain rfl:=Δ b;exact Gt k d z c u C w A F L h.1 h.2 x p r
     .cases b
    .cases b
   .cases b
  .cases b
 case h_10 k d z c=>
  split at b
  case isFalse=>cases b
  rename_i h;split at b
  .rename_i len D C;split at b
   .rename_i P e;obtain rfl:=Δ b;exact Gu k d z c len D C P e h.1 h.2 x p r
   .cases b
  .rename_i D C;split at b
   .rename_i P e;obtain rfl:=Δ b;exact Gv k d z c D C P e h.1 h.2 x p r
   .cases b
  .cases b
 case h_11 k d z c=>
  split at b
  .rename_i u C;split at b
   .rename_i w A;split at b
    .rename_i W F E L;split at b
     .rename_i h;obtain rfl:=Δ b;exact Gw k d z c u C w A W E F L (sK h.2) h.1 x p r
     .cases b
    .cases b
   .cases b
  .cases b
 case h_12 k d z c=>
  split at b
  case isFalse=>cases b
  rename_i h;split at b
  .rename_i len D C;split at b
   .rename_i W P E e;split at b
    .rename_i X;obtain rfl:=Δ b;exact Gx k d z c len D C W E P e (sK X) h.1 h.2 x p r
    .cases b
   .cases b
  .rename_i C;obtain rfl:=Δ b;exact Gy k d z c C h.1 h.2 x p r
  .cases b
 case h_13 k M c=>
  split at b
  .rename_i n res S Y;split at b
   .rename_i k0;obtain rfl:=Δ b;obtain⟨z,v,i,K,rfl,q⟩:=vp S;obtain⟨k2,k3⟩:=zz Y;exact GM k M c (placeOf m k) _ res (Hr S k0) q k2 k3 x p r
   .cases b
  .cases b
 case h_14 k F M c=>
  split at b
  .rename_i D k7 C k4;split at b
   .rename_i z i;split at b
    .rename_i n S;split at b
     .rename_i h;obtain rfl:=Δ b;obtain⟨k8,k9⟩:=zA k4;grind[GN,List.all_eq_true,zn]
     .cases b
    .cases b
   .cases b
  .cases b
 grind[Hs]
 case h_16 N k d V k5 c=>
  split at b
  case isFalse=>cases b
  rename_i h;split at b;grind[zB];grind[zB]
  .obtain rfl:=Δ b;exact vb _ k d V k5 c h.1 h.2 x p r
 case h_17 N k d c=>split at b;(rename_i y;obtain rfl:=Δ b;exact GF N k d c y x p r);(cases b)
 case h_18 B H d c=>
  split at b
  .rename_i k6 P g E;split at b
   .rename_i y;obtain rfl:=Δ b;exact GG B H d c P k6 g E y x p r
   .cases b
  .rename_i D g E;split at b
   .rename_i I;split at b
    .rename_i y;obtain rfl:=Δ b;exact GS B H d c D g I E y x p r
    .cases b
   .cases b
  .rename_i D g E;split at b
   .rename_i I;split at b
    .rename_i y;obtain rfl:=Δ b;exact GX B H d c D g E I y x p r
    .cases b
   .cases b
  .cases b
 case h_19 k d V c=>
  split at b
  case h_2=>cases b
  rename_i D C;split at b
  case h_2=>cases b
  rename_i z i;split at b
  case h_2=>cases b
  rename_i n S;split at b
  case isFalse=>cases b
  rename_i h;obtain rfl:=Δ b;grind[GU,List.all_eq_true]
 case h_20 d z c=>split at b;(rename_i y;obtain rfl:=Δ b;exact Gz d z c y x p r);(cases b)
 case h_21 Q c=>exact Ht c b x p r
 .cases b
end
def zC(a:Program)(b:TypeId):Bool:=
 match a.underlying b with
 |some (.slice _)=>η
 |some .string=>η
 |_=>ι
def vq(b:Program)(p:Env)(r:Option Nat)(c d:Operand)(h k:TypeId):Option c4:=
 match b.underlying h with
 |some (.slice x)=>match b.info? x with
  |some a=>match a.zero with
   |some o=>if zC b k=η/\o.cells.size=a.size/\o.cells.toList.all (·.oneCell')=η/\0<a.size/\aJ c=η/\aJ d=η then
     (if h≠k/\p.mut r=η then β (.lp a.size a.bytes c d)else ε)else ε
   |none=>ε
  |none=>ε
 |_=>ε
def vr(b:Program)(c:Env)(d:Option Nat)(a:Call):Option c4:=
 match a.callee,a.args.toList,a.argTypes.toList with
 |.value (.tmp h),args,_=>if args.all aJ=η then β (.ic (.tmp h) args)else ε
 |.builtin .append,[k,o],[p,r]=>vq b c d k o p r
 |_,_,_=>ε
def zD:TypeDesc->Bool
 |.interface _=>η
 |_=>ι
def Hv{a:TypeDesc}(c:zD a=ι):∀b,a≠.interface b:=λb hm=>by subst hm;cases c
def r0(a:Program)(b:TypeId)(c:List bZ):Bool:=
 decide (a.cellsOf b=α c)&&(a.info? b).isSome&&(match a.underlying b with|some (.array _ _)|some (.struct _)=>η|_=>ι)
theorem zE{a:List bZ}(c:flatK m 20 b2=β a)(b:r0 m b2 a=η):mo m b2 (mn a):=by simp only[r0,Ξ,decide_eq_true_eq]at b;obtain⟨⟨d,h⟩,k⟩:=b;refine⟨⟨20,δ,by rw[sH];exact c⟩,by rw[sH];exact d,h,?_⟩;grind
def vs(a:Program)(k:Op):Option c4:=
 match k with
 |.makeMap _ ε=>β .jE
 |.lookup mt b c ok=>match a.underlying mt with
  |some (.map d o)=>match flatK a 20 d,a.info? o with
   |some bw,β p=>match p.zero with
    |some h=>if r0 a d bw=η/\qO h=η/\aJ b=η/\aJ c=η then β (.jG ok (mn bw) (ofConst h) b c)else ε
    |none=>ε
   |_,_=>ε
  |_=>ε
 |.mapUpdate mt b c v|.insert mt b c v=>match a.underlying mt with
  |some (.map d _)=>match flatK a 20 d with
   |some bw=>if r0 a d bw=η/\aJ b=η/\aJ c=η/\aJ v=η then β (.ks (mn bw) b c v)else ε
   |none=>ε
  |_=>ε
 |_=>ε
def vt(c:Program)(h:Env)(d:Oper):Option c4:=
 match d.op with
 |.makeFunc (.func k) first cap=>if first.toList.all aJ=η/\cap.toList.all aJ=η then β (.bA k first.toList cap.toList)else ε
 |.makeInterface b a=>match c.underlying b with
  |some o=>if zD o=ι/\aJ a=η then β (.pF b a)else ε
  |none=>ε
 |.panic a=>if aJ a=η then β (.me a)else ε
 |.range b a=>match c.underlying b with
  |some .string=>if aJ a=η then β (.jz a)else ε
  |_=>ε
 |.next a η=>if aJ a=η then β (.mf a)else ε
 |.call p=>vr c h d.dst p
 |_=>ε
def zF(a:Program)(c:FuncId):Bool:=
  match a.funcs[c]? with
  |some fn=>fn.origin== "slices.overlaps" &&fn.body.isNone&& !(fn.name== "runtime.NumGoroutine")&&(Extern.allNextRows.lookup fn.name).isNone&&(Extern.allGenericRows.lookup fn.name).isNone&&(Extern.allTypedRows.lookup fn.name).isNone&&(Extern.allRows.lookup fn.name).isNone&&
    (match fn.params.toList with
     |[b,d]=>b==d&&(match a.underlying b with|some (.slice h)=>(a.info? h).isSome|_=>ι)
     |_=>ι)
  |none=>ι
def vu(c:Program)(r:Env)(p:Call):Option c4:=
 match p.callee,p.args.toList,p.argTypes.toList with
 |.builtin .cap,[a],[h]=>match c.underlying h with
  |some (.slice _)=>if aJ a=η then β (.mg a)else ε
  |_=>ε
 |.builtin .clear,[a],[h]=>match c.underlying h with
  |some (.slice o)=>match c.info? o with
   |some b=>match b.zero with
    |some k=>if k.cells.size=b.size/\k.cells.toList.all (·.oneCell')=η/\0<b.size/\aJ a=η then β (.mh b.size (k.cells.toList.map cv) a)else ε
    |none=>ε
   |none=>ε
  |_=>ε
 |.builtin .copy,[a,d],[h,_]=>if r.vl=η then(match c.underlying h with
  |some (.slice o)=>match iR c o with
   |some x=>if aJ a=η/\aJ d=η then β (.mi x a d)else ε
   |none=>ε
  |_=>ε)else ε
 |.builtin .append,[a,d],[h,y]=>match c.underlying y with
  |some (.int _)=>match c.underlying h with
   |some (.slice o)=>match c.info? o with
    |some b=>match b.zero with
     |some k=>if k.cells.size=b.size/\k.cells.toList.all (·.oneCell')=η/\0<b.size/\aJ a=η/\aJ d=η then β (.mj b.size b.bytes (k.cells.toList.map cv) a d)else ε
     |none=>ε
    |none=>ε
   |_=>ε
  |_=>ε
 |.value (.func z),[a,d],_=>if zF c z=η/\aJ a=η/\aJ d=η then β (.ml a d)else ε
 |_,_,_=>ε
def vv(a:Program)(c:Env)(h:Oper):Option c4:=
 match h.op with
 |.slice k d aT aS b=>if c.vl=η then(match a.underlying k with
  |some (.slice o)=>match iR a o with
   |some p=>if aJ d=η/\aT.all aJ=η/\aS.all aJ=η/\b.all aJ=η/\(b=ε\/aS.isSome=η)then β (.lq p d aT aS b)else ε
   |none=>ε
  |_=>ε)else ε
 |.call r=>vu a c r
 |_=>ε
def vw(b:Program)(d:Env)(c:Oper):Option c4:=
 match vv b d c with
 |some a=>β a
 |none=>match vs b c.op with
 |some a=>β a
 |none=>match vt b d c with
 |some a=>β a
 |none=>vo b d c
def Hw:Extern.allNextRows.lookup "slices.overlaps" =none:=by rfl
def Hx:Extern.allGenericRows.lookup "slices.overlaps" =none:=by rfl
def Hy:Extern.allTypedRows.lookup "slices.overlaps" =β Extern.SlicesOverlaps.overlaps:=by rfl
section
variable{o:Oper}{a:Act}
theorem Hz{h:Env}{k:Option Nat}{d:TypeId}(y:o.op=.call {callee:=.builtin .append,args:=#[Y,e5],argTypes:=#[d,b2]})(b:vq m h k Y e5 d b2=β e2)(z:bE t a j)(C:Holds t f l)(D:G ⟨m,s⟩ e2 j f Z):bL m s o a l t f Z:=by
 unfold vq at b;split at b
 case h_2=>cases b
 rename_i E F;split at b
 case h_2=>cases b
 rename_i L P;split at b
 case h_2=>cases b
 rename_i S T;split at b
 case isFalse=>cases b
 rename_i p;obtain⟨r,V,W,e,g,i⟩:=p;obtain⟨c,n,q⟩:∃c,m.underlying b2=β c/\((∃x,c=.slice x)\/c=.string):=by unfold zC at r;grind
 split at b
 case isFalse=>cases b
 obtain rfl:=Δ b;grind[zp,List.all_eq_true]
theorem HA{z:Env}{C:Option Nat}{d:Call}(h:o.op=.call d)(b:vr m z C d=β e2)(k:bE t a j)(p:Holds t f l)(r:G ⟨m,s⟩ e2 j f Z):bL m s o a l t f Z:=by
 obtain⟨L,D,E⟩:=d;unfold vr at b;split at b
 .rename_i F c;simp only at c;subst c;split at b
  case isFalse=>cases b
  rename_i P;obtain rfl:=Δ b;exact GZ (.tmp F) D E h rfl (by grind) k p r
 .rename_i S T V W c x y;simp only at c x y;subst c;obtain rfl:=ig x;obtain rfl:=ig y;exact Hz h b k p r
 .cases b
theorem HB{z:Env}(b:vt m z o=β e2)(k:bE t a j)(p:Holds t f l)(r:G ⟨m,s⟩ e2 j f Z):bL m s o a l t f Z:=by
 unfold vt at b;split at b
 .rename_i D first E c
  split at b
  case isFalse=>cases b
  rename_i d;obtain rfl:=Δ b;grind[GY,List.all_eq_true]
 .rename_i x h c;split at b
  case h_2=>cases b
  rename_i C y;split at b
  case isFalse=>cases b
  rename_i d;obtain rfl:=Δ b;exact H0 x h c C y (Hv d.1) d.2 k p r
 .rename_i h c;split at b
  case isFalse=>cases b
  rename_i d;obtain rfl:=Δ b;exact H3 h c d k p r
 .rename_i x h c;split at b
  case h_2=>cases b
  rename_i y;split at b
  case isFalse=>cases b
  rename_i d;obtain rfl:=Δ b;exact H4 x h c y d k p r
 .rename_i h c;split at b
  case isFalse=>cases b
  rename_i d;obtain rfl:=Δ b;exact H5 h c d k p r
 .rename_i F c;exact HA c b k p r
 .cases b
theorem HC(b:vs m o.op=β e2)(C:bE t a j)(r:Holds t f l)(x:G ⟨m,s⟩ e2 j f Z):bL m s o a l t f Z:=by
 have lj:∀mt d h v,(o.op=.mapUpdate mt d h v\/o.op=.insert mt d h v)->(match m.underlying mt with
  |some (.map k _)=>match flatK m 20 k with
   |some p=>if r0 m k p=η/\aJ d=η/\aJ h=η/\aJ v=η then β (.ks (mn p) d h v)else ε
   |none=>ε
  |_=>ε)=β e2->bL m s o a l t f Z:=by
  intro mt d h v E b;split at b
  case h_2=>cases b
  rename_i k y hm;split at b
  case h_2=>cases b
  rename_i p z;split at b
  case isFalse=>cases b
  rename_i c;obtain rfl:=Δ b;exact Hg mt k y d h v E hm (zE z c.1) c.2.1 c.2.2.1 c.2.2.2 C r x
 generalize D:o.op=S at b;unfold vs at b;split at b
 .obtain rfl:=Δ b;exact Hd _ D r x
 .split at b
  case h_2=>cases b
  rename_i k y hm;split at b
  case h_2=>cases b
  rename_i p T z F;split at b
  case h_2=>cases b
  rename_i L P;split at b
  case isFalse=>cases b
  rename_i c;obtain rfl:=Δ b;exact Hf _ k y _ _ _ D hm (zE z c.1) F P (aQ.ofConst t L c.2.1) c.2.2.1 c.2.2.2 C r x
 .simp_all
 .simp_all
 .cases b
theorem HD{g:Env}{F:Call}(L:o.op=.call F)(b:vu m g F=β e2)(P:bE t a j)(S:Holds t f l)(T:G ⟨m,s⟩ e2 j f Z):bL m s o a l t f Z:=by
 obtain⟨k7,k8,i⟩:=F;unfold vu at b;split at b
 .rename_i r k c d h;simp only at c d h;subst c;obtain rfl:=pI d;obtain rfl:=pI h;split at b
  case h_2=>cases b
  rename_i x y;split at b
  case isFalse=>cases b
  rename_i p;obtain rfl:=Δ b;exact Hh k r L x y p P S T
 .rename_i r k c d h;simp only at c d h;subst c;obtain rfl:=pI d;obtain rfl:=pI h;split at b
  case h_2=>cases b
  rename_i x y;split at b
  case h_2=>cases b
  rename_i n q;split at b
  case h_2=>cases b
  rename_i u v;split at b
  case isFalse=>cases b
  rename_i p;obtain rfl:=Δ b;grind[Hk,List.all_eq_true]
 .rename_i r C k W c d h;simp only at c d h;subst c;obtain rfl:=ig d;obtain rfl:=ig h;split at b
  case isFalse=>cases b
  split at b
  case h_2=>cases b
  rename_i x y;split at b
  case h_2=>cases b
  rename_i w A;split at b
  case isFalse=>cases b
  rename_i p;obtain rfl:=Δ b;exact Hm k W r C L x y w A p.1 p.2 P S T
 .rename_i r C k k9 c d h;simp only at c d h;subst c;obtain rfl:=ig d;obtain rfl:=ig h;split at b
  case h_2=>cases b
  rename_i l0 l1;split at b
  case h_2=>cases b
  rename_i x y;split at b
  case h_2=>cases b
  rename_i n q;split at b
  case h_2=>cases b
  rename_i u v;split at b
  case isFalse=>cases b
  rename_i p;obtain rfl:=Δ b;grind[Ho,List.all_eq_true]
 .rename_i B r C c d;simp only at c d;subst c;obtain rfl:=ig d;split at b
  case isFalse=>cases b
  rename_i p;obtain rfl:=Δ b;obtain⟨z,H,I⟩:=p;unfold zF at z;split at z
  case h_2=>cases z
  rename_i D K;simp only[Ξ,beq_iff_eq,Option.isNone_iff_eq_none,a4p]at z;obtain⟨⟨⟨⟨⟨⟨⟨e,M⟩,N⟩,O⟩,Q⟩,X⟩,Y⟩,E⟩:=z;split at E
  case h_2=>cases E
  rename_i k W k0;simp only[Ξ,beq_iff_eq]at E;obtain⟨rfl,V⟩:=E;split at V
  case h_2=>cases V
  rename_i x y;obtain⟨k2,k3⟩:=a3C.1 V;have k4:=ig k0;have k5:Extern.findNext D=none:=by simp[Extern.findNext,e,O,Hw]
  have k6:Extern.find D=β (Extern.SlicesOverlaps.overlaps #[k,k] D.resultTypes):=by simp[Extern.find,e,Q,X,Y,Hx,Hy,k4]
  exact Hn B D r C i L K N (by rw[M];rfl) k5 k _ k6 x y k2.size (by rw[k3];rfl) H I P S T
 .cases b
def HE{r:Env}(b:vv m r o=β e2)(h:bE t a j)(k:Holds t f l)(p:G ⟨m,s⟩ e2 j f Z):bL m s o a l t f Z:=by
 unfold vv at b;split at b
 .rename_i x y z C D d;split at b
  case isFalse=>cases b
  split at b
  case h_2=>cases b
  rename_i E F;split at b
  case h_2=>cases b
  rename_i L P;split at b
  case isFalse=>cases b
  rename_i c;obtain rfl:=Δ b;exact Hj x y z C D d c.2.2.2.2 E F L P c.1 c.2.1 c.2.2.1 c.2.2.2.1 h k p
 .rename_i S d;exact HD d b h k p
 .cases b
def HF{r:Env}(b:vw m r o=β e2)(d:bE t a j)(h:Holds t f l)(k:G ⟨m,s⟩ e2 j f Z):bL m s o a l t f Z:=by
 unfold vw at b;split at b
 .rename_i p c;obtain rfl:=Δ b;exact HE c d h k
 split at b
 .rename_i p c;obtain rfl:=Δ b;exact HC c d h k
 .split at b
  .rename_i p c;obtain rfl:=Δ b;exact HB c d h k
  .exact Hu b d h k
end
structure bW where
 dst:Option Nat
 op:c4
 guard:Option (Nat×Bool)
def E(h:Ctx)(c:bW)(d:Fr)(a:U)(b:R->U->Prop):Prop:=
 match c.guard with
 |none=>G h c.op d a b
 |some (k,want)=>match d k with
  |.v (.bool o)=>if o=want then G h c.op d a b else b (.aF []) a
  |.aF []=>b (.aF []) a
  |_=>False
def T(c:Ctx)(a:bW)(d:Fr->U->Prop)(b:Fr)(h:U):Prop:=E c a b h λk o=>d (cY b a.dst k) o
def ij(b:Ctx):List bW->(Fr->U->Prop)->Fr->U->Prop
 |[],a=>a
 |c::d,a=>T b c (ij b d a)
variable{K:Ctx}
theorem mq{b:bW}(c:∀d h,s d h->Z d h)(a:E K b j f s):E K b j f Z:=by
 unfold E at*;cases k:b.guard with
 |none=>rw[k]at a;exact zb c a
 |some iS=>
  obtain⟨p,r⟩:=iS;rw[k]at a;simp only at a|-;split at a
  .split at a
   .next o=>rw[if_pos o];exact zb c a
   simp_all
  .exact c _ _ a
  .omega
variable{j5:Fr -> U -> Prop}
def r1{b:bW}{c:Fr->U->Prop}(h:∀j d,j5 j d->c j d)(a:T K b j5 j f):T K b c j f:=mq (λ_ _ a=>h _ _ a) a
def tmpsOf(a:List Operand):Υ:=a.filterMap λ|.tmp b=>β b|_=>ε
def c4.operands:c4->List Operand
 |.eA a|.pF _ a|.me a|.jz a|.mf a|.box _ a|.kp _ a|.pE a|.ou a|.mc _ a|.load _ _ a|.pA a|.kq _ a|.ot _ _ _ a|.len a|.pC a|.nj a|.un _ a|.ib _ a|.ext a _|.mg a|.mh _ _ a=>[a]
 |.pick d h k=>[d,h,k]
 |.alloc _ _|.jE=>[]
 |.jG _ _ _ a c=>[a,c]
 |.ks _ a c v=>[a,c,v]
 |.bA _ first cap=>first++cap
 |.ic a args=>a::args
 |.store _ a b|.ln _ a b|.pB _ _ a b|.dB _ a b|.oo _ _ _ a b|.lk a b|.bin _ a b|.eqv _ _ a b|.pD _ a b|.app _ _ a b|.lp _ _ a b|.lo _ _ a b|.jx _ _ _ a b|.mb _ a b|.mi _ a b|.mj _ _ _ a b|.ml a b=>[a,b]
 |.ll _ o=>o.map λp=>p.2.2
 |.jv _ xs=>xs
 |.jy _ xs=>xs
 |.oq _ a aT aS|.kr _ _ a aT aS _|.jw _ _ a aT aS=>a::(aT.toList++aS.toList)
 |.lq _ a aT aS r=>a::(aT.toList++(aS.toList++r.toList))
 |.fv _ args=>args
def bW.reads(a:bW):Υ:=tmpsOf a.op.operands++(match a.guard with|some (b,_)=>[b]|none=>[])
def HG{a:Fr}{b:List Operand}(d:∀c∈tmpsOf b,j c=a c)(h:Y∈b):ah j Y=ah a Y:=by
 cases Y<;>first
  |rfl
  |exact d _ (a6m.2 ⟨_,h,rfl⟩)
def zG{b c:Fr}{k:Χ->Prop}:∀(d:List (Nat×Nat×Operand))(h:Χ),(∀a∈d,ah b a.2.2=ah c a.2.2)->(jH b h d k↔jH c h d k)
 |[],_,_=>a5a
 |(off,cn,o)::r,h,p=>by
  have x:ah b o=ah c o:=p _ (a4H);simp only[jH,x];rw[zG r _ (λa y=>p a (a4y _ y))]
theorem oy{c:Fr}{a:Option Operand}(h:∀b∈a.toList,ah j b=ah c b)(d:Nat):dg j a d=dg c a d:=by
 cases a with
 |none=>rfl
 |some b=>simp only[dg,h b ρ]
theorem zH{k:Fr}(z:∀r∈tmpsOf e2.operands,j r=k r)(x:U)(y:R->U->Prop):G K e2 j x y↔G K e2 k x y:=by
 have a:∀d∈e2.operands,ah j d=ah k d:=λd C=>HG z C;cases e2<;>simp only[c4.operands,a3n,a4r,or_false,forall_eq_or_imp,forall_eq,a3f]at a<;>simp only[G]
 case ll D E=>exact zG E D (λF L=>a _ (a3m.2 ⟨F,L,rfl⟩))
 case jv h P=>rw[a4t a]
 case jy h P=>rw[a4t a]
 case fv S T=>rw[a4t a]
 case ic d T=>rw[a.1,a4t a.2]
 case bA S first W=>grind[List.map_congr_left]
 case oq h d o p=>simp only[a.1,oy (λb c=>a.2 b (.inl c)),oy (λb c=>a.2 b (.inr c))]
 case lq h d o p e=>simp only[qT,a.1,oy (λb c=>a.2 b (.inl c)),oy (λb c=>a.2 b (.inr (.inl c))),oy (λb c=>a.2 b (.inr (.inr c)))]
 case kr h V d o p f=>grind[oy]
 case jw h V d o p=>grind[oy]
 all_goals simp_all
def HH{a:bW}{h:Fr}(k:∀b∈a.reads,j b=h b)(c:U)(d:R->U->Prop):E K a j c d↔E K a h c d:=by
 have o:=λb p=>k b (a4W _ p);unfold E;cases r:a.guard with
 |none=>exact zH o c d
 |some iS=>
  obtain⟨x,z⟩:=iS;have y:=k x (a4R _ (by simp[r]));simp only[y];split
  .split
   .exact zH o c d
   .rfl
  .rfl
  .rfl
def HI(c:Fr)(a:Nat)(b:R):(cY c (β a) b) a=b:=by simp[cY,lj]
theorem sL(c:Fr)(a:Option Nat)(d:R)(b:Nat)(h:a≠β b):(cY c a d) b=c b:=by
 cases a with
 |none=>rfl
 |some a=>simp[cY,lj,Ζ (λk=>h (by rw[k]):a≠b)]
theorem pJ(d:Fr)(a b:Option Nat)(h k:R)(o:∀c,a=β c->b≠β c):cY (cY d a h) b k=cY (cY d b k) a h:=by
 cases a with
 |none=>rfl
 |some a=>
  cases b with
  |none=>rfl
  |some b=>have r:a≠b:=λp=>o a rfl (by rw[p]);funext c;simp only[cY,lj];grind
theorem kx{b:bW}(c:Option Nat)(p:∀a,c=β a->a∉b.reads)(d:Fr)(o:R)(h:U)(k:R->U->Prop):E K b (cY d c o) h k↔E K b d h k:=
 HH (λa r=>sL d c o a (λx=>p a x r)) h k
theorem U.dU(a:U)(d:e≠i)(b c:bl):(a.set e b).set i c=(a.set i c).set e b:=by grind[U.set]
theorem U.HJ(a:U)(c:e≠i)(b:bl):(a.set e b).del i=(a.del i).set e b:=by grind[U.set,U.del]
theorem U.sM(a:U)(b:Nat)(c:bl)(d:a b=ε):a.join (U.emp.set b c)=a.set b c:=by grind[U.join,U.set,U.emp]
theorem pK(c:U)(b:Nat)(d:bl):c.pt (U.emp.set b d)↔c b=none:=by
 constructor
 .intro a;rcases a b with a|a
  .exact a
  .simp[U.set]at a
 .intro a h;grind[U.set,U.emp]
def r2(b:Nat)(c:bl)(d:R->U->Prop):R->U->Prop:=λh k=>∃a,d h a/\a b=ε/\k=a.set b c
theorem r3(a:U)(c:bl)(d:a e=ε)(b:a.read i=β g):(a.set e c).read i=β g:=by
 have h:i≠e:=by rintro rfl;simp[U.read,d]at b
 simpa[U.read,ξ _ _ h] using b
theorem zI(a:U)(d:bl)(h:a e=ε){b:Nat×Χ}(c:c8 a i q=β b):c8 (a.set e d) i q=β b:=by
 unfold c8 at c|-;split
 .exact c
 grind[r3];grind[r3];simp_all
theorem HK(a:U)(c:bl)(h:a e=ε){d:Nat×Χ}(b:mm a i q=β d):mm (a.set e c) i q=β d:=by
 unfold mm at b|-;split
 .exact b
 .rename_i k;split at b
  .simp_all
  .exact zI a c h b
theorem HL(b:U)(c:bl)(h:b e=ε)(a:kt i g q b=β f):kt i g q (b.set e c)=β (f.set e c)/\f e=none:=by
 unfold kt at a|-;split at a
 .rename_i k o p r x;split at a
  case h_2=>cases a
  rename_i y d;have z:k≠e:=by rintro rfl;rw[h]at d;cases d
  split at a
  case isFalse=>cases a
  rename_i C;obtain rfl:=Δ a;simp_all [ξ,U.dU,Ζ]
 simp_all
 .cases a
theorem HM(c:U)(d:bl)(h:c e=ε){o:R}(a:lr i q b7 c=β (o,f)):lr i q b7 (c.set e d)=β (o,f.set e d)/\f e=none:=by
 unfold lr at a|-;split at a
 case h_2=>cases a
 rename_i E F p;rw[zI c d h p];simp only;split at a
 .rename_i k G r x y;split at a
  case h_2=>cases a
  rename_i z b;have C:k≠e:=by rintro rfl;rw[h]at b;cases b
  split at a
  case isFalse=>cases a
  rename_i D;simp only[a3c,a4h]at a;obtain⟨rfl,rfl⟩:=a;simp_all [ξ,U.dU,Ζ]
 .rename_i k r x y;split at a
  case h_2=>cases a
  rename_i z b;have C:k≠e:=by rintro rfl;rw[h]at b;cases b
  split at a
  case isFalse=>cases a
  rename_i D;simp only[a3c,a4h]at a;obtain⟨rfl,rfl⟩:=a;simp_all [ξ,U.dU,Ζ]
 simp_all
 .cases a
theorem HN(a:U)(c:bl)(h:a e=ε){d:R}(k:ku q b7 a=β d):ku q b7 (a.set e c)=β d:=by
 have p:∀b,jI a b=η->jI (a.set e c) b=true:=λb o=>by
  have r:b≠e:=by rintro rfl;simp[jI,h]at o
  grind[jI,ξ]
 unfold ku at k|-;grind
variable{X j6:bl}
theorem zJ(d:f e=ε)(a:G K e2 j f s):G K e2 j (f.set e X) (r2 e X s):=by
 have y:∀z,s z f->r2 e X s z (f.set e X):=λz g=>⟨f,g,d,rfl⟩;have n0:∀(c)(F)(z),(f.set e X) c=ε->(f c=ε->s z (f.set c F))->r2 e X s z ((f.set e X).set c F):=λc F z S L=>by
  have b:e≠c:=by rintro rfl;simp[U.set]at S
  rw[ξ _ _ (Ζ b)]at S;exact⟨_,L S,by rw[ξ _ _ b];exact d,U.dU f b X F⟩
 cases e2<;>simp only[G]at a|-
 case fv n1 Z=>
  have:=hb.frame a ((pK f e X).2 d);rw[U.sM f e X d]at this;refine this.mono (λz k0 ⟨r,i,V,l⟩=>⟨r,i,(pK r e X).1 V,?_⟩) (λ_ _ a=>a);rw[l,U.sM r e X ((pK r e X).1 V)]
 case ic k Z=>
  split at a
  case h_2=>omega
  refine⟨a.1,?_⟩;have:=hb.frame a.2 ((pK f e X).2 d);rw[U.sM f e X d]at this;refine this.mono (λz k0 ⟨r,i,V,l⟩=>⟨r,i,(pK r e X).1 V,?_⟩) (λ_ _ a=>a);rw[l,U.sM r e X ((pK r e X).1 V)]
 case mg k=>grind
 case lq=>grind
 case mh x m k=>
  split at a
  case h_2=>exact a.elim
  rename_i r n;obtain⟨q,t⟩:=HL f X d n;rw[q];exact⟨r,a,t,rfl⟩
 case mi x k D=>
  split at a
  case h_2=>exact a.elim
  rename_i z r n;obtain⟨q,t⟩:=HM f X d n;rw[q];exact⟨r,a,t,rfl⟩
 case ml k D=>
  grind[HN]
 case mj x bytes m k D=>
  grind[r3]
 case jE=>grind
 case nj k=>
  split at a
  case h_2=>omega
  next c C=>
  split at a
  case h_2=>exact a.elim
  next I M p=>
  have b:c≠e:=by rintro rfl;rw[d]at p;cases p
  rw[ξ _ _ b,p];exact y _ a
 case jG n2 k2 m k x=>
  split at a
  case h_2=>omega
  next c E C k3=>
  split at a
  case h_2=>exact a.elim
  next I M p=>
  have b:c≠e:=by rintro rfl;rw[d]at p;cases p
  grind[ξ,dw]
 case ks k2 k x v=>
  split at a
  case h_2=>omega
  next c E C k3=>
  split at a
  case h_2=>exact a.elim
  next I M p=>
  have b:c≠e:=by rintro rfl;rw[d]at p;cases p
  rw[ξ _ _ b,p];exact⟨a.1,a.2.1,_,a.2.2,by rw[ξ _ _ (Ζ b)];exact d,U.dU f (Ζ b) X _⟩
 case jz k=>grind
 case me k=>
  split at a
  case h_2=>omega
  obtain⟨k4,S,L⟩:=a;refine⟨k4,λc F k5=>?_,L⟩;have:=S c F k5;have b:c≠e:=by grind
  rw[ξ _ _ b];exact this
 case mf k=>
  split at a
  case h_2=>omega
  next c W C=>
  refine⟨a.1,?_⟩;have L:=a.2;split at L
  case h_2=>trivial
  next n3 n4 p=>
  have b:c≠e:=by rintro rfl;rw[d]at p;cases p
  rw[ξ _ _ b,p];simp only;split
  .next k6=>rw[if_pos k6]at L;exact⟨_,L,by rw[ξ _ _ (Ζ b)];exact d,U.dU f (Ζ b) X _⟩
  simp_all
 case ll k7 n5=>exact uY (λE h=>y _ h) _ _ a
 case alloc T k7=>grind
 case box T k=>simp_all
 case kp T k=>simp_all
 case jx x bytes m k D=>grind
 case lo=>grind
 case mc k8 k=>
  grind
 case jy x N=>
  grind
 case lp x bytes k D=>
  split at a
  case h_2=>exact a.elim
  rename_i n9 u k9;rw[HK f X d k9];simp only;split at a;grind
  .next c P w A C=>
   split at a
   case h_3=>exact a.elim
   all_goals
   rename_i E h;have b:c≠e:=by rintro rfl;rw[d]at h;cases h
   rw[ξ _ _ b,h];refine⟨a.1,a.2.1,a.2.2.1,a.2.2.2.1,?_⟩;have o:=a.2.2.2.2;split
   .next B=>rw[if_pos B]at o;exact⟨_,o,by rw[ξ _ _ (Ζ b)];exact d,U.dU f (Ζ b) X _⟩
   simp_all
  .next c W P w A C=>
   split at a
   case h_2=>exact a.elim
   rename_i E h;have b:c≠e:=by rintro rfl;rw[d]at h;cases h
   rw[ξ _ _ b,h];refine⟨a.1,a.2.1,a.2.2.1,a.2.2.2.1,?_⟩;have o:=a.2.2.2.2;split
   .next B=>rw[if_pos B]at o;exact⟨_,o,by rw[ξ _ _ (Ζ b)];exact d,U.dU f (Ζ b) X _⟩
   simp_all
  .omega
 case ln k8 k D=>
  have O:∀c,hD f c=η->hD (f.set e X) c=true:=λc a=>by
   have b:c≠e:=by rintro rfl;simp[hD,d]at a
   unfold hD at a|-;rw[ξ _ _ b];exact a
  split at a
  .exact y _ a
  .exact y _ a
  .exact y _ a
  .exact⟨⟨O _ a.1.1,O _ a.1.2⟩,y _ a.2⟩
  .exact a.elim
 case jw x P k l0 l1=>
  split at a
  .next c W C=>
   split at a
   .refine⟨a.1,a.2.1,a.2.2.1,?_⟩;have o:=a.2.2.2;split at o
    .next E h=>
     have b:c≠e:=by rintro rfl;rw[d]at h;cases h
     grind[ξ]
    .trivial
   .omega
  .omega
 case mb x k D=>
  split at a
  .next c W P w A u l2 C l3=>
   refine⟨a.1,a.2.1,?_⟩;have o:=a.2.2;split at o
   .next E h=>
    have b:c≠e:=by rintro rfl;rw[d]at h;cases h
    rw[ξ _ _ b,h];exact⟨o.1,_,o.2,by rw[ξ _ _ (Ζ b)];exact d,U.dU f (Ζ b) X _⟩
   .trivial
  .next c P w A u l2 C l3=>
   refine⟨a.1,a.2.1,?_⟩;have o:=a.2.2;split at o
   .next E h=>
    have b:c≠e:=by rintro rfl;rw[d]at h;cases h
    rw[ξ _ _ b,h];exact⟨o.1,_,o.2,by rw[ξ _ _ (Ζ b)];exact d,U.dU f (Ζ b) X _⟩
   .trivial
  .omega
 case jv x N=>
  grind
 case load a00 P k=>
  grind[r3]
 case store P k D=>
  split at a
  .next c W C=>
   split at a
   case h_2=>exact a.elim
   next h=>
    have b:c≠e:=by rintro rfl;rw[d]at h;cases h
    rw[ξ _ _ b,h];exact⟨a.1,a.2.1,_,a.2.2,by rw[ξ _ _ (Ζ b)];exact d,U.dU f (Ζ b) X _⟩
  .omega
 case kr x P k l0 l1 a01=>
  split at a
  .next c W C=>
   split at a
   .refine⟨a.1,a.2.1,a.2.2.1,?_⟩;have o:=a.2.2.2;split at o
    .next E h=>
     have b:c≠e:=by rintro rfl;simp[U.read,d]at h
     rw[r3 f X d h];refine⟨o.1,?_⟩;have Q:=o.2;split
     .next g=>rw[if_pos g]at Q;exact⟨_,Q,by rw[ξ _ _ (Ζ b)];exact d,U.dU f (Ζ b) X _⟩
     simp_all
    .trivial
   .omega
  .omega
 case app x bytes k D=>
  split at a<;>try exact a.elim
  rename_i N l4 u F _ _;refine⟨a.1,a.2.1,a.2.2.1,a.2.2.2.1,?_⟩;have o:=a.2.2.2.2;cases l4<;>simp only at o|-;grind;grind
  case buf l5 a02 _=>
   have b:l5≠e:=by rintro rfl;rw[d]at o;cases o.1
   refine⟨by rw[ξ _ _ b];exact o.1,λY l6 l7=>?_⟩;have H:Y≠e:=by rintro rfl;grind[ν]
   have l8:=l7.imp id (λa=>by rwa[ξ _ _ H]at a);refine⟨_,o.2 Y l6 l8,by rw[ξ _ _ (Ζ H),U.eg _ (Ζ b)];exact d,?_⟩;rw[U.HJ f (Ζ b) X,U.dU _ (Ζ H) X]
 case pick=>grind
 case dB x k l9=>
  grind
 case lk k l9=>
  grind
 all_goals
  (repeat' split at a)<;>first
   |exact a.elim
   |exact y _ a
   |exact⟨a.1,y _ a.2⟩
   |exact⟨a.1,a.2.1,y _ a.2.2⟩
   |exact⟨a.1,a.2.1,a.2.2.1,y _ a.2.2.2⟩
   |exact⟨a.1,a.2.1,a.2.2.1,a.2.2.2.1,y _ a.2.2.2.2⟩
   |exact⟨a.1,a.2.1,a.2.2.1,a.2.2.2.1,a.2.2.2.2.1,y _ a.2.2.2.2.2⟩
theorem vx{b:bW}(c:f e=ε)(a:E K b j f s):E K b j (f.set e X) (r2 e X s):=by
 have k:∀d,s d f->r2 e X s d (f.set e X):=λd o=>⟨f,o,c,rfl⟩;unfold E at*;cases h:b.guard with
 |none=>rw[h]at a;exact zJ c a
 |some iS=>
  obtain⟨r,x⟩:=iS;rw[h]at a;simp only at a|-;split at a
  .split at a
   .next p=>rw[if_pos p];exact zJ c a
   simp_all
  .exact k _ a
  .omega
def mr:c4->Bool
 |.mh _ _ _|.mi _ _ _|.mj _ _ _ _ _|.ml _ _|.alloc _ _|.jE|.nj _|.jG _ _ _ _ _|.ks _ _ _ _|.jz _|.mf _|.me _|.ic _ _|.box _ _|.kp _ _|.load _ _ _|.store _ _ _|.jv _ _|.kr _ _ _ _ _ _|.jw _ _ _ _ _|.app _ _ _ _|.fv _ _|.jx _ _ _ _ _|.mb _ _ _|.mc _ _|.ln _ _ _|.jy _ _|.lp _ _ _ _=>ι
 |_=>η
def nn:c4->Bool
 |.load _ _ _|.jw _ _ _ _ _|.ln _ _ _=>η
 |_=>ι
def ky:c4->Bool
 |.alloc _ _|.jE|.jz _|.box _ _|.kp _ _|.jv _ _|.jy _ _|.jx _ _ _ _ _=>η
 |_=>ι
def zK{k:Fr}:∀(o:List (Nat×Nat×Operand))(b:Χ) {r:Χ->Prop},jH k b o r->∃c,∀a:Χ->Prop,jH k b o a↔a c
 |[],b,_,_=>⟨b,λa=>a5a⟩
 |(off,cn,y)::c,b,_,d=>by
  obtain⟨x,p⟩:=zK c _ d.2.2;exact⟨x,λa=>⟨λh=>(p a).1 h.2.2,λh=>⟨d.1,d.2.1,(p a).2 h⟩⟩⟩
def zL(a:mr e2=η)(b:G K e2 j f s):∃k,∀(c:U)(d:R->U->Prop),G K e2 j c d↔d k c:=by
 cases e2<;>simp only[mr,a3R]at a<;>simp only[G]at b|-
 case pick=>split at b;(exact⟨_,λc d=>a5a⟩);trivial
 case mg=>split at b;(exact⟨_,λc d=>a5a⟩);trivial
 case lq=>split at b;(exact⟨_,λc d=>a5a⟩);trivial
 case ll x y=>
  obtain⟨k,o⟩:=zK _ _ b;exact⟨.agg k,λc d=>o _⟩
 case lo=>split at b;(exact⟨_,λc d=>⟨λa=>a.2,λa=>⟨b.1,a⟩⟩⟩);trivial
 case dB z p r=>
  split at b
  .have h:=b.2;split at h
   .exact⟨_,λc d=>⟨λa=>a.2.2,λa=>⟨b.1,h.1,a⟩⟩⟩
   .trivial
  .exact⟨_,λc d=>⟨λa=>a.2.2.2,λa=>⟨b.1,b.2.1,b.2.2.1,a⟩⟩⟩
  .exact⟨_,λc d=>⟨λa=>a.2.2.2,λa=>⟨b.1,b.2.1,b.2.2.1,a⟩⟩⟩
  .trivial
 case lk p r=>
  split at b
  .have h:=b.2;split at h
   .exact⟨_,λc d=>⟨λa=>a.2,λa=>⟨b.1,a⟩⟩⟩
   .trivial
  .trivial
 all_goals
  (repeat' split at b)<;>first
   |exact b.elim
   |exact⟨_,λc d=>a5a⟩
   |exact⟨_,λc d=>⟨λa=>a.2,λa=>⟨b.1,a⟩⟩⟩
   |exact⟨_,λc d=>⟨λa=>a.2.2,λa=>⟨b.1,b.2.1,a⟩⟩⟩
   |exact⟨_,λc d=>⟨λa=>a.2.2.2,λa=>⟨b.1,b.2.1,b.2.2.1,a⟩⟩⟩
   |exact⟨_,λc d=>⟨λa=>a.2.2.2.2,λa=>⟨b.1,b.2.1,b.2.2.1,b.2.2.2.1,a⟩⟩⟩
   |exact⟨_,λc d=>⟨λa=>a.2.2.2.2.2,λa=>⟨b.1,b.2.1,b.2.2.1,b.2.2.2.1,b.2.2.2.2.1,a⟩⟩⟩
def zM(a:nn e2=η)(b:G K e2 j f s):∃h,∀(c:R->U->Prop),G K e2 j f c↔c h f:=by
 cases e2<;>simp only[nn,a3R]at a<;>simp only[G]at b|-
 case load=>
  split at b
  .split at b
   .exact⟨_,λc=>⟨λa=>a.2,λa=>⟨b.1,a⟩⟩⟩
   .trivial
  .exact⟨_,λc=>⟨λa=>a.2,λa=>⟨b.1,a⟩⟩⟩
  .trivial
 case jw=>
  split at b
  .split at b
   .have d:=b.2.2.2;split at d
    .exact⟨_,λc=>⟨λa=>a.2.2.2.2,λa=>⟨b.1,b.2.1,b.2.2.1,d.1,a⟩⟩⟩
    .trivial
   .trivial
  .trivial
 case ln=>
  (repeat' split at b)<;>first
   |exact b.elim
   |exact⟨_,λc=>a5a⟩
   |exact⟨_,λc=>⟨λa=>a.2,λa=>⟨b.1,a⟩⟩⟩
def zN(a:ky e2=η)(b:G K e2 j U.emp λ_ _=>True):
  (∃y,∀(c:U)(d:R->U->Prop),G K e2 j c d↔d y c)\/∃(z:Nat->R)(C:Nat->bl),∀(c:U)(d:R->U->Prop),G K e2 j c d↔ ∀r,c r=ε->d (z r) (c.set r (C r)):=by
 cases e2<;>simp only[ky,a3R]at a<;>simp only[G]at b|-
 case alloc T D=>exact .inr ⟨_,_,λc d=>a5a⟩
 case jE=>exact .inr ⟨_,λ_=> _,λc d=>a5a⟩
 case jz x=>split at b;(exact .inr ⟨_,λ_=> _,λc d=>a5a⟩);trivial
 case box T x=>exact .inr ⟨_,λ_=> _,λc d=>⟨λa=>a.2,λa=>⟨b.1,a⟩⟩⟩
 case kp T x=>exact .inr ⟨_,λ_=> _,λc d=>⟨λa=>a.2,λa=>⟨b.1,a⟩⟩⟩
 case jx k bytes E x F=>split at b;(exact .inr ⟨λo=>.aq o _ _ k,λ_=> _,λc d=>⟨λa=>a.2.2.2.2,λa=>⟨b.1,b.2.1,b.2.2.1,b.2.2.2.1,a⟩⟩⟩);trivial
 case jv k h=>
  by_cases p:α h=0
  .simp only[if_pos p]at b|-;exact .inl ⟨_,λc d=>⟨λa=>a.2,λa=>⟨b.1,a⟩⟩⟩
  .simp only[if_neg p]at b|-;exact .inr ⟨λo=>.J (h.map (ah j)) (.buf o (α h)),λ_=>.buf k (α h) (α h),λc d=>⟨λa=>a.2,λa=>⟨b.1,a⟩⟩⟩
 case jy k h=>
  by_cases p:α h=0
  .simp only[if_pos p]at b|-;exact .inl ⟨_,λc d=>⟨λa=>a.2,λa=>⟨b.1,a⟩⟩⟩
  .simp only[if_neg p]at b|-;exact .inr ⟨λo=>.aq o (α h) (α h) k,λ_=>.cells (flat (h.map (ah j))),λc d=>⟨λa=>a.2,λa=>⟨b.1,a⟩⟩⟩
theorem zO(a:ky e2=η)(b:G K e2 j f s):G K e2 j U.emp λ_ _=>True:=by
 cases e2<;>simp only[ky,a3R]at a<;>simp only[G]at b|-;simp
 case jE=>simp
 case jz c=>grind
 simp_all;simp_all
 case jx=>grind
 simp_all;simp_all
def Def(a:Ctx)(b:bW)(c:Fr):Prop:=E a b c U.emp λ_ _=>True
def vy{b:bW}(k:mr b.op=η)(a:E K b j f s):∃p,∀(c:U)(d:R->U->Prop),E K b j c d↔d p c:=by
 unfold E at*;cases o:b.guard with
 |none=>rw[o]at a;exact zL k a
 |some iS=>
  obtain⟨r,x⟩:=iS;rw[o]at a;simp only at a|-;split at a
  .split at a
   .next h=>simp only[if_pos h];exact zL k a
   .next h=>simp only[if_neg h];exact⟨_,λc d=>a5a⟩
  .exact⟨_,λc d=>a5a⟩
  .trivial
theorem sN{b:bW}(h:nn b.op=η)(a:E K b j f s):∃o,∀(c:R->U->Prop),E K b j f c↔c o f:=by
 unfold E at*;cases k:b.guard with
 |none=>rw[k]at a;exact zM h a
 |some iS=>
  obtain⟨p,r⟩:=iS;rw[k]at a;simp only at a|-;split at a
  .split at a
   .next d=>simp only[if_pos d];exact zM h a
   .next d=>simp only[if_neg d];exact⟨_,λc=>a5a⟩
  .exact⟨_,λc=>a5a⟩
  .trivial
theorem HO{b:bW}(c:ky b.op=η)(a:E K b j f s):Def K b j:=by
 unfold Def;unfold E at*;cases d:b.guard with
 |none=>rw[d]at a;exact zO c a
 |some iS=>
  obtain⟨k,o⟩:=iS;rw[d]at a;simp only at a|-;split at a
  .split at a
   .next h=>rw[if_pos h];exact zO c a
   .simp_all
  .trivial
  .trivial
def zP{d:bW}(o:ky d.op=η)(a:Def K d j):
  (∃r,∀(b:U)(c:R->U->Prop),E K d j b c↔c r b)\/∃(x:Nat->R)(y:Nat->bl),∀(b:U)(c:R->U->Prop),E K d j b c↔ ∀h,b h=ε->c (x h) (b.set h (y h)):=by
 unfold Def at a;unfold E at*;cases p:d.guard with
 |none=>rw[p]at a;exact zN o a
 |some iS=>
  obtain⟨z,C⟩:=iS;rw[p]at a;simp only at a|-;split at a
  .split at a
   .next k=>simp only[if_pos k];exact zN o a
   .next k=>simp only[if_neg k];exact .inl ⟨_,λb c=>a5a⟩
  .exact .inl ⟨_,λb c=>a5a⟩
  .trivial
structure cU where
 i:Nat
 pre:Υ
 iT:Υ
variable{j8:Υ}
section
variable(P:Ctx)(xs:Nat->bW)
def gO(a:Nat)(b:Fr)(c:U):Prop:=
 match(xs a).dst with
 |some d=>E P (xs a) b c λh _=>h=b d
 |none=>True
def can(c:Fr->U->Prop):List cU->Fr->U->Prop
 |[]=>c
 |a::o=>λd p=>(∀b∈a.pre,Def P (xs b) d)/\T P (xs a.i) (λh k=>(∀b∈a.iT,gO P xs b h k)/\can c o h k) d p
def clear(a:Option Nat)(b:Υ):Bool:=match a with|some c=> !b.contains c|none=>η
def lx(a b:Option Nat):Bool:=match a,b with|some c,β d=>c !=d|_,_=>η
def indep(a b:cU)(d:Υ):Bool:=
  clear (xs a.i).dst (xs b.i).reads&&clear (xs b.i).dst (xs a.i).reads&&lx (xs a.i).dst (xs b.i).dst&&
  b.iT.all (λc=>c==a.i||d.contains c||(clear (xs a.i).dst (xs c).reads&&lx (xs a.i).dst (xs c).dst))&&
  ((a.pre.isEmpty&&a.iT.isEmpty&&(mr (xs a.i).op||(nn (xs a.i).op&&((mr (xs b.i).op||nn (xs b.i).op||ky (xs b.i).op)||(b.iT.contains a.i&&clear (xs a.i).dst (xs a.i).reads&&(xs a.i).dst.isSome)))))||
   (b.iT.isEmpty&&(mr (xs b.i).op||ky (xs b.i).op)&&a.pre.contains b.i&&a.pre.all (λc=>clear (xs b.i).dst (xs c).reads)&&
     a.iT.all (λc=>clear (xs b.i).dst (xs c).reads&&lx (xs b.i).dst (xs c).dst)))
variable{P xs}
theorem r4{b:Option Nat}(c:clear b j8=η):∀a,b=β a->a∉j8:=by intro a d;subst d;simpa[clear] using c
theorem zQ{a b:Option Nat}(d:lx a b=η):∀c,a=β c->b≠β c:=by grind[lx]
theorem zR{a:Option Nat}(h:clear a (xs e).reads=η)(k:lx a (xs e).dst=η)(b:Fr)(d:R)(c:U):gO P xs e (cY b a d) c↔gO P xs e b c:=by
 unfold gO;cases o:(xs e).dst with
 |none=>rfl
 |some p=>grind[kx,r4,sL,zQ]
theorem HP(b:f i=ε)(a:gO P xs e j f):gO P xs e j (f.set i X):=by
 unfold gO at*;cases c:(xs e).dst with
 |none=>trivial
 |some h=>rw[c]at a;exact mq (λk o ⟨p,d,_,_⟩=>d) (vx b a)
def Pass(a:Nat->bW)(b:cU):List cU->Prop
 |[]=>True
 |d::c=>indep a d b (c.map (·.i))=η/\Pass a b c
theorem zS{C:Fr->U->Prop}(h:cU)(e:List cU):∀(p:List cU),Pass xs h p->(p.map (·.i)).Nodup->∀(k:Fr)(o:U),can P xs C (p++h::e) k o->
  T P (xs h.i) (λS d=>(∀a∈h.iT,a∉p.map (·.i)->gO P xs a S d)/\can P xs C (p++e) S d) k o
 |[],_,_,k,o,q=>r1 (λS d D=>⟨λa y _=>D.1 a y,D.2⟩) q.2
 |r::p,hk,n5,k,o,q=>by
  have A:=hk.1;have Z:(p.map (·.i)).Nodup:=by simp_all
  have k0:r.i∉p.map (·.i):=by simp_all
  have ih:=zS (C:=C) h e p hk.2 Z;obtain⟨k2,B⟩:=q;simp only[indep,Ξ]at A;obtain⟨⟨⟨⟨k3,k4⟩,a3⟩,a4⟩,H⟩:=A;have i:=r4 k3;have c2:=r4 k4;have aE:=zQ a3;have n9:∀a∈h.iT,a≠r.i->a∉p.map (·.i)->clear (xs r.i).dst (xs a).reads=η/\lx (xs r.i).dst (xs a).dst=true:=λa y a00 a01=>by
   grind
  have W:T P (xs r.i) (λS d=>(∀a∈r.iT,gO P xs a S d)/\T P (xs h.i) (λI K=>(∀a∈h.iT,a∉p.map (·.i)->gO P xs a I K)/\can P xs C (p++e) I K) S d) k o:=
   r1 (λS d D=>⟨D.1,ih S d D.2⟩) B
  clear B ih;simp only[a4x,Ξ]at H;rcases H with⟨⟨k5,k6⟩,k7⟩|⟨⟨⟨⟨k8,k9⟩,l0⟩,a02⟩,a03⟩
  .
   have l1:=a6v.1 k5;have a04:=a6v.1 k6;have j:∀(x:R)(b:R)(d:U),(∀G,E P (xs r.i) k d G↔G x d)->
     ((∀a∈h.iT,a∉p.map (·.i)->gO P xs a (cY (cY k (xs r.i).dst x) (xs h.i).dst b) d)/\can P xs C (p++e) (cY (cY k (xs r.i).dst x) (xs h.i).dst b) d)->
     (∀a∈h.iT,a∉(r::p).map (·.i)->gO P xs a (cY k (xs h.i).dst b) d)/\can P xs C (r::p++e) (cY k (xs h.i).dst b) d:=λx b d V g=>by
    rw[pJ k _ _ x b aE]at g;refine⟨λa y l2=>?_,?_⟩
    .simp only[a3q,a3n,not_or]at l2;grind[zR]
    .refine⟨by rw[l1];simp,?_⟩;simp_all [T,kx]
   rcases k7 with l3|⟨l4,l5⟩
   .obtain⟨x,V⟩:=vy l3 W;have s:=(V o _).1 W;have c:=s.2;unfold T at c|-;rw[kx _ i]at c;exact mq (λb d g=>j x b d (λG=>V d G) g) c
   .obtain⟨x,V⟩:=sN l4 W;have s:=(V _).1 W;have c:=s.2;unfold T at c|-;rw[kx _ i]at c;rcases l5 with t|⟨⟨l6,l7⟩,l8⟩
    .rcases t with t|M
     case inr=>
      rcases zP M (HO M c)with⟨b,z⟩|⟨f,l,z⟩
      .rw[z]at c|-;exact j x b o V c
      .rw[z]at c|-;intro F m;refine j x (f F) _ ?_ (c F m);have l9:E P (xs r.i) k o λu _=>u=x:=(V _).2 rfl;have a05:=mq (λ_ _ ⟨_,D,_,_⟩=>D) (vx (X:=l F) m l9);grind[sN]
     have L:∃b,∀G:R->U->Prop,E P (xs h.i) k o G↔G b o:=by
      rcases t with L|L
      .obtain⟨b,z⟩:=vy L c;exact⟨b,λG=>z o G⟩
      .exact sN L c
     obtain⟨b,z⟩:=L;rw[z]at c|-;exact j x b o V c
    .refine mq (λb d g=>?_) c;have n0:=g.1 r.i (by simpa using l6) k0;obtain⟨a06,N⟩:=a3C.1 l8;have a07:E P (xs r.i) k d λu _=>u=x:=by have:=n0;rw[pJ k _ _ x b aE]at this;unfold gO at this;rw[N]at this;simp only at this;rw[HI,<-N,kx _ (r4 l7),kx _ c2]at this;exact this
     grind[sN]
  .
   have O:=a6v.1 k8;have Q:=k2 h.i (by simpa using l0);have n1:(∃x,∀(o:U)(C:R->U->Prop),E P (xs h.i) k o C↔C x o)\/∃(f:Nat->R)(l:Nat->bl),∀(o:U)(C:R->U->Prop),E P (xs h.i) k o C↔ ∀F,o F=ε->C (f F) (o.set F (l F)):=by
    rcases k9 with L|L
    .exact .inl (vy L Q)
    .exact zP L Q
   have X:∀b,∀a∈r.pre,Def P (xs a) (cY k (xs h.i).dst b):=λb a y=>by
    grind[Def,kx,r4,List.all_eq_true]
   have a08:∀a∈r.iT,∀(w)(b)(n),gO P xs a w n->gO P xs a (cY w (xs h.i).dst b) n:=λa y w b n D=>by
    simp_all [Ξ,zR]
   unfold T at W;rcases n1 with⟨b,z⟩|⟨f,l,z⟩
   .unfold T;rw[z];refine⟨λa y=>(by rw[O]at y;cases y),X b,?_⟩;unfold T;rw[kx _ c2];refine mq (λv n2 D=>?_) W;have c:=D.2;rw[kx _ i,z,pJ k _ _ v b aE]at c;refine⟨λa y=>?_,c.2⟩;grind[pJ]
   .unfold T;rw[z];intro F m;refine⟨λa y=>(by rw[O]at y;cases y),X (f F),?_⟩;unfold T;rw[kx _ c2];refine mq (λv n n3=>?_) (vx m W);obtain⟨n2,D,n4,rfl⟩:=n3;have c:=D.2;rw[kx _ i,z]at c;have Y:=c F n4;rw[pJ k _ _ v (f F) aE]at Y;refine⟨λa y=>?_,Y.2⟩;grind[pJ,HP]
def sO(a:Nat->Υ):Nat->Υ->Nat->Υ
 |0,acc,_=>acc
 |d+1,acc,b=>sO a d (acc++[(a b).foldl (λh c=>h|||2^c|||acc.getD c 0) 0]) (b+1)
def dep(a:Υ)(b c:Nat):Bool:=(a.getD c 0).testBit b
def jJ(c:Nat->bW)(d:Υ)(a:cU):Υ->List cU->Bool
 |_,[]=>η
 |h,b::k=>(dep d a.i b.i||indep c a b h)&&jJ c d a (h++[b.i]) k
def mu(a:Nat->bW)(b:Υ):List cU->Bool
 |[]=>η
 |d::c=>jJ a b d [] c&&mu a b c
def ik(a:Array Oper)(b:Nat):Υ:=
 match a[b]? with
 |some c=>(c.after.toList.filter λd=>Region.binds .any d).map (·.on)
 |none=>[]
def sP(k:Ctx)(o:Nat->bW)(b:Array Oper)(h:Fr->U->Prop):Nat->Array Bool->Fr->U->Prop
 |0,a,c,d=>Region.ready .any b a=[]/\h c d
 |fuel+1,a,c,d=>(Region.ready .any b a=[]->h c d)/\∀p∈Region.ready .any b a,T k (o p) (sP k o b h fuel (a.setIfInBounds p η)) c d
def zT(b:Array Oper)(c:Array Bool):Prop:=∀a,a<b.size->c.getD a η=η->∀d∈ik b a,c.getD d ι=η
theorem vz{a:Array Oper}:i∈ik a e↔ ∃b,a[e]?=β b/\∃c∈b.after,Region.binds .any c=η/\c.on=i:=by unfold ik;grind
theorem vA{a:Array Oper}{b:Array Bool}:e∈Region.ready .any a b↔b.getD e η=ι/\e<a.size/\∀d∈ik a e,b.getD d ι=true:=by
 rw[mem_ready];constructor
 .rintro⟨c,z,x,h⟩;refine⟨c,(a4d.1 x).1,λd y=>?_⟩;obtain⟨C,D,k,o,p,rfl⟩:=vz.1 y;simp_all
 .rintro⟨c,r,h⟩;exact⟨c,a[e],a4S r,λk o p=>h _ (vz.2 ⟨_,a4S r,k,o,p,rfl⟩)⟩
theorem HQ(c:Υ)(h:Υ)(d:Nat):∀a,(c.foldl (λa b=>a|||2^b|||h.getD b 0) a).testBit d=η->a.testBit d=η\/∃b∈c,d=b\/(h.getD b 0).testBit d=true:=by
 induction c with
 |nil=>intro a k;exact .inl k
 |cons o c ih=>grind
def Bits(h:Nat->Υ)(d:Υ):Prop:=∀a b,dep d b a=η->∃c∈h a,b=c\/(dep d b c=η/\c<a)
theorem zU{h:Nat->Υ}(F:∀b a,a∈h b->a<b):∀(x:Nat)(c:Υ)(d:Nat),α c=d->Bits h c->Bits h (sO h x c d)
 |0,c,d,_,y=>y
 |x+1,c,d,z,y=>by
  refine zU F x _ (d+1) (by simp[z]) λb G k=>?_;have C:∀b,b<d->(c++[(h d).foldl (λo a=>o|||2^a|||c.getD a 0) 0]).getD b 0=c.getD b 0:=λb p=>by
   grind
  unfold dep at k|-;rcases a6q b d with p|p|p
  .rw[C b p]at k;obtain⟨a,D,r⟩:=y b G k;refine⟨a,D,r.imp id λE=>⟨?_,E.2⟩⟩;rw[C a δ];exact E.1
  .subst p;have L:(c++[(h b).foldl (λo a=>o|||2^a|||c.getD a 0) 0]).getD b 0=(h b).foldl (λo a=>o|||2^a|||c.getD a 0) 0:=by rw[<-z];simp
   rw[L]at k;rcases HQ _ _ _ _ k with r|⟨a,D,r⟩
   .simp at r
   grind
  grind
theorem HR{h:Array Oper}{d:Array Bool}(x:Bits (ik h) j8)(y:zT h d)(G:d.size=h.size):∀(k a b:Nat),b<=k->dep j8 a b=η->(∀c∈ik h b,d.getD c ι=η)->d.getD a ι=true:=by
 intro k
 induction k with
 |zero=>
  intro a b z r o;obtain⟨c,p,rfl|⟨_,C⟩⟩:=x b a r
  .exact o _ p
  .omega
 |succ k ih=>
  intro a b z r o;obtain⟨c,p,rfl|⟨D,C⟩⟩:=x b a r
  .exact o _ p
  .have E:=o c p;have F:c<d.size:=by grind
   refine ih a c δ D (y c δ ?_);simpa[F] using E
def zV{k:Υ}{c d:cU}{o:List cU}:∀ {h:List cU}{b:Υ},jJ xs k c b (h++d::o)=η->dep k c.i d.i=η\/indep xs c d (b++h.map (·.i))=η
 |[],b,a=>by
  simp only[a3l,jJ,Ξ,a4x]at a;simpa using a.1
 |p::h,b,a=>by
  simp only[a4l,jJ,Ξ]at a;have:=zV a.2;simpa using this
theorem zW{d:Υ}{b:cU}{k:List cU}:∀ {a:List cU},mu xs d (a++b::k)=η->(∀h∈a,dep d h.i b.i=ι)->Pass xs b a
 |[],_,_=>trivial
 |h::a,c,o=>by
  simp only[a4l,mu,Ξ]at c;refine⟨?_,zW c.2 (λp r=>o p (a4y _ r))⟩;have:=zV c.1;simp_all
theorem HS{a c:cU}{d:Υ}(h:indep xs a c j8=η)(k:∀b,b∈j8->b∈d\/(clear (xs a.i).dst (xs b).reads=η/\lx (xs a.i).dst (xs b).dst=η)):indep xs a c d=true:=by simp only[indep,Ξ]at h|-;grind
theorem zX{o:Υ}{c:cU}:∀ {d:List cU}{h k:Υ},jJ xs o c h d=η->(∀a,a∈h->a∈k\/(clear (xs c.i).dst (xs a).reads=η/\lx (xs c.i).dst (xs a).dst=η))->jJ xs o c k d=η
 |[],_,_,_,_=>rfl
 |p::d,h,k,b,hm=>by
  simp only[jJ,Ξ,a4x]at b|-;refine⟨b.1.imp id (λb=>HS b hm),zX b.2 λa r=>?_⟩;grind
theorem zY{k:Υ}{b d:cU}{o:List cU}(p:clear (xs b.i).dst (xs d.i).reads=η/\lx (xs b.i).dst (xs d.i).dst=η):∀ {h:List cU}{c:Υ},jJ xs k b c (h++d::o)=η->jJ xs k b c (h++o)=η
 |[],c,a=>by
  simp only[a3l,jJ,Ξ]at a|-;refine zX a.2 λr x=>?_;grind
 |r::h,c,a=>by
  simp only[a4l,jJ,Ξ]at a|-;exact⟨a.1,zY p a.2⟩
def zZ{d:Υ}{h:cU}{k:List cU}:∀ {b:List cU},mu xs d (b++h::k)=η->Pass xs h b->mu xs d (b++k)=η
 |[],a,_=>by simp only[a3l,mu,Ξ]at a|-;exact a.2
 |p::b,a,o=>by
  simp only[a4l,mu,Ξ]at a|-;have c:=o.1;simp only[indep,Ξ]at c;exact⟨zY ⟨c.1.1.1.1,c.1.1.2⟩ a.1,zZ a.2 o.2⟩
theorem HT{k:Array Oper}(n:Bits (ik k) j8)(q:∀a c,c∈ik k a->c<a):∀(y:Nat)(b:Array Bool)(d:List cU),b.size=k.size->α d<=y->
  (∀a,a∈d.map (·.i)↔(a<k.size/\b.getD a η=ι))->(d.map (·.i)).Nodup->mu xs j8 d=η->zT k b->∀z C,can P xs j5 d z C->sP P xs k j5 y b z C:=by
 have s:∀(b:Array Bool)(d:List cU),b.size=k.size->(∀a,a∈d.map (·.i)↔(a<k.size/\b.getD a η=ι))->Region.ready .any k b=[]->d=[]:=λb d D r V=>by
  cases d with
  |nil=>rfl
  |cons h Q=>
   exfalso;have t:∀G a,a<=G->a<k.size->b.getD a η=ι->∃c,c∈Region.ready .any k b:=by
    intro G
    induction G with
    |zero=>intro a W o p;refine⟨a,vA.2 ⟨p,o,λc x=>?_⟩⟩;have:=q a c x;omega
    |succ G ih=>
     intro a W o p;by_cases u:∀c∈ik k a,b.getD c ι=η
     .exact⟨a,vA.2 ⟨p,o,u⟩⟩
     grind
   obtain⟨o,p⟩:=(r h.i).1 ρ;obtain⟨c,x⟩:=t h.i h.i (a3w _) o p;rw[V]at x;cases x
 intro y
 induction y with
 |zero=>intro b d D f r _ _ _ z C L;have:d=[]:=a2Y δ;subst this;refine⟨?_,L⟩;simp_all [Region.ready]
 |succ y ih=>
  intro b d D f r v g i z C L;refine⟨λV=>?_,λa W=>?_⟩
  .have:=s b d D r V;subst this;exact L
  .obtain⟨o,p,j⟩:=vA.1 W;have w:=(r a).2 ⟨p,o⟩;obtain⟨h,A,rfl⟩:=a3m.1 w;obtain⟨E,S,rfl⟩:=a5f A;have B:(E.map (·.i)++h.i::S.map (·.i)).Nodup:=by simpa using v
   have H:(E.map (·.i)).Nodup:=(List.nodup_append.1 B).1;have l:=zW g λF e=>by
    cases I:dep j8 F.i h.i with
    |false=>rfl
    |true=>exfalso;have X:=HR n i D h.i F.i h.i (a3w _) I j;grind
   have K:=zS h S E l H z C L;refine r1 (λM N O=>?_) K;refine ih (b.setIfInBounds h.i η) (E++S) (by simp[D]) (by simp at f|-;omega) (λc=>?_) ?_ (zZ g l) ?_ M N O.2
   .have Y:h.i∉(E++S).map (·.i):=by grind
    by_cases T:h.i=c;simp_all
    .rw[getD_set_ne η T,<-r c];grind
   grind
   .intro c x m F e;by_cases T:h.i=c
    .subst T;exact getD_set_true (j F e)
    .rw[getD_set_ne η T]at m;exact getD_set_true (i c x m F e)
end
inductive fH where
 |norm
 |exit (id:Nat)
 |ret
inductive dM where
 |skip
 |plain (ops:List bW)
 |draw (ops:List bW) (order:List cU)
 |seq (a b:dM)
 |cond (c:Operand) (a b:dM)
 |block (id:Nat) (a:dM)
 |loop (a:dM)
 |exit (id:Nat)
 |ret
 |refuse
def nth(a:List bW)(b:Nat):bW:=a.getD b {dst:=ε,op:=.eA (.const (.bool η)),guard:=ε}
def eo(a:Fr->U->Prop)(b:fH->Fr->U->Prop):fH->Fr->U->Prop
 |.norm=>a
 |c=>b c
def kz(id:Nat)(a:fH->Fr->U->Prop):fH->Fr->U->Prop
 |.exit b=>if b=id then a .norm else a (.exit b)
 |c=>a c
def bP(c:Ctx):dM->(fH->Fr->U->Prop)->Fr->U->Prop
 |.skip,a=>a .norm
 |.plain ops,a=>ij c ops (a .norm)
 |.draw ops order,a=>can c (nth ops) (a .norm) order
 |.seq h k,a=>bP c h (eo (bP c k a) a)
 |.cond z h k,a=>λb d=>match ah b z with
  |.v (.bool p)=>(p=η->bP c h a b d)/\(p=ι->bP c k a b d)
  |_=>False
 |.block id h,a=>bP c h (kz id a)
 |.loop h,a=>λb d=>∃(o:Fr->U->Prop)(r:Fr->U->Nat),o b d/\∀b d,o b d->bP c h (eo (λx y=>o x y/\r x y<r b d) a) b d
 |.exit id,a=>a (.exit id)
 |.ret,a=>a .ret
 |.refuse,_=>λ_ _=>False
def vB(a:Array Oper)(b:Oper):Option (Option (Nat×Bool)):=
 match b.guard with
 |none=>β ε
 |some (c,want)=>match(a[c]?).bind (·.dst)with
  |some d=>β (β (d,want))
  |none=>ε
def A0(a:Nat):Option Nat->Bool
 |some b=>decide (b<a)
 |none=>η
def vC(a:Υ):Option Nat->Bool
 |some b=> !a.contains b
 |none=>η
def pL(c:Program)(b:Env)(d:Nat)(h:Array Oper)(a:Oper):Option bW:=
 match vw c b a,vB h a with
 |some k,β o=>if A0 d a.dst=η/\vC b.pins a.dst=η then β {dst:=a.dst,op:=k,guard:=o}else ε
 |_,_=>ε
def eR{a b:Type}(c:a->Option b):List a->Option (List b)
 |[]=>β []
 |d::h=>match c d,eR c h with
  |some k,β o=>β (k::o)
  |_,_=>ε
def vD(b:Nat->Υ)(c:Υ)(d:Nat->Bool)(left:Υ):Option Nat:=left.find? λa=>(b a).all (λh=>c.contains h)&&d a
def A1(b:Nat->Υ)(c:Nat->bW):Nat->Υ->Υ->Υ
 |0,_,_=>[]
 |fuel+1,done,left=>
  match(vD b done (λa=>mr (c a).op||nn (c a).op) left).or ((vD b done (λa=> !ky (c a).op) left).or (vD b done (λ_=>η) left))with
  |some a=>a::A1 b c fuel (a::done) (left.filter (·!=a))
  |none=>[]
def A2(a:bW):Bool:=mr a.op||nn a.op
def marks(a:Nat->bW)(d:Nat->Nat->Bool):Υ->Υ->List cU
 |_,[]=>[]
 |ahead,b::h=>
  let k:=if A2 (a b)then []else h.filter λc=>(ky (a c).op||mr (a c).op)&& !d b c
  let o:=if A2 (a b)||ky (a b).op then []else ahead.filter λc=>nn (a c).op&& !d c b
  ⟨b,k,o⟩::marks a d (ahead++[b]) h
def A3(a:Array Oper)(b:Nat->bW):List cU:=
 marks b (dep (sO (ik a) a.size [] 0)) [] (A1 (ik a) b a.size [] (ψ a.size))
def vE(a:Array Oper)(d:Nat->bW)(b:List cU):Bool:=
 (ψ a.size).all (λc=>(ik a c).all (λh=>decide (h<c)))&&decide (α b<=a.size)&&(ψ a.size).all (λc=>(b.map (·.i)).contains c)&&b.all (λk=>decide (k.i<a.size))&&
  decide ((b.map (·.i)).Nodup)&&mu d (sO (ik a) a.size [] 0) b
def sQ:Code->List Oper
 |.region _ ops _=>ops.toList
 |.seq a b|.cond _ a b=>sQ a++sQ b
 |.block _ a|.loop a=>sQ a
 |_=>[]
def r5(a:Υ):Operand->Bool
 |.tmp b=>a.contains b
 |_=>ι
def derive(a:Υ):List Oper->Υ
 |[]=>a
 |d::h=>match d.op,d.dst with
  |.fieldAddr _ b _,β c|.indexAddr _ b _,β c|.nilCheck b,β c=>derive (if r5 a b then c::a else a) h
  |_,_=>derive a h
def HU(a:Υ)(b:Oper):Bool:=
 match b.op with
 |.fieldAddr _ _ _|.indexAddr _ _ _|.nilCheck _|.load _ _|.slice _ _ _ _ _=>ι
 |op=>op.operands.toList.any (r5 a)
def HV(a:Υ)(b:Oper):Bool:=
 match b.op with
 |.slice _ c _ _ _=>r5 a c
 |_=>ι
def HW(a:Υ)(h:Oper):Υ:=
 let p (a:Υ) (b:Operand):Υ:=match b with|.tmp k=>if a.contains k then a else k::a|_=>a
 let c (b:Operand):Υ:=match h.dst with
  |some d=>if a.contains d then p a b else if r5 a b then(if a.contains d then a else d::a)else a
  |none=>a
 match h.op with
 |.move b|.assign b=>c b
 |.slice _ b _ _ _=>c b
 |.call o=>match o.callee,o.args.toList with
  |.builtin .append,[b,_]=>c b
  |_,_=>a
 |_=>a
def vF(b:List Oper):Nat->Υ->Υ
 |0,a=>a
 |d+1,a=>let c:=b.foldl HW a;if α c=α a then a else vF b d c
def A4(c:Program)(a:List Oper):Υ:=
 a.filterMap λb=>match b.op,b.dst with
  |.indexAddr d (.tmp h) _,β k=>if !(match c.underlying d with|some (.slice _)=>η|_=>ι)then ε else let o:=derive [k] a;if a.any (λp=>match p.op with|.store _ r _=>r5 o r|_=>ι)then β h else ε
  |_,_=>ε
def HX(b:Program)(c:Υ)(a:Oper):Bool:=
 match a.op,a.dst with
 |.convert st _ _,β d=>(match b.underlying st with|some .string=>η|_=>ι)&&c.contains d
 |_,_=>ι
def HY(d:Program)(b:Code):Env:=
 let a:=sQ b
 let h:=(a.filterMap λc=>match c.op with|.box _ _=>c.dst|_=>ε).filter λo=>let k:=derive [o] a;a.any (HV k)&& !a.any (HU k)
 {iN:=h,zx:=derive h a,wr:=a.filterMap λc=>match c.op with|.call b=>(match b.callee,b.args.toList with|.builtin .copy,.tmp p:: _=>β p|_,_=>ε)|_=>ε,sI:=vF a 40 (A4 d a),ty:=ι,lv:=a.any (HX d (vF a 40 (A4 d a)))}
def gn(b:Program)(a:Env)(c:Nat):Code->Option dM
 |.skip=>β .skip
 |.region _ ops ι=>match eR (pL b a c ops) ops.toList with
  |some xs=>β (.plain xs)
  |none=>if a.zy=η then β .refuse else ε
 |.region _ ops η=>match eR (pL b a c ops) ops.toList with
  |some xs=>if vE ops (nth xs) (A3 ops (nth xs))=η then β (.draw xs (A3 ops (nth xs)))else ε
  |none=>ε
 |.seq d h=>match gn b a c d,gn b a c h with
  |some k,β o=>β (.seq k o)
  |_,_=>ε
 |.cond p d h=>match gn b a c d,gn b a c h with
  |some k,β o=>if aJ p=η then β (.cond p k o)else ε
  |_,_=>ε
 |.block id d=>(gn b a c d).map (.block id)
 |.loop d=>(gn b a c d).map .loop
 |.exit id=>β (.exit id)
 |.ret=>β .ret
 |.refuse _=>β .refuse
 |_=>ε
def oz(a:List Deferred×List (Nat×Value))(b:Act):Prop:=b.defers=a.1/\∀c∈a.2,b.tmps.getD c.1 undef=c.2
theorem oz.put{d:List Deferred×List (Nat×Value)}{a:Act}(h:oz d a){b:Option Nat}{v:Value}{k:Υ}(p:∀c∈d.2,c.1∈k)(r:vC k b=η):oz d (a.put b v):=by
 refine⟨by rw[<-h.1];cases b<;>rfl,λc o=>?_⟩;cases b with
 |none=>exact h.2 c o
 |some b=>
  have x:c.1≠b:=by rintro rfl;grind[vC,Bool.not_eq_true',decide_eq_false_iff_not]
  rw[<-h.2 c o];simp_all [Act.put,Ζ]
def hc(c:List Deferred×List (Nat×Value))(d:Nat)(h:bb)(k:U)(o:World)(p:Fr)(r:U)(a:Act)(x:World):Prop:=
 a.tmps.size=d/\oz c a/\∃b,bE b a p/\Step h k o b r x
def post(h:List Deferred×List (Nat×Value))(D:R->U->Prop)(r:Nat)(k:bb)(o:U)(p:World)(x:fH->Fr->U->Prop):Exit->Act->World->Prop
 |.normal,b,d=>∃a c,hc h r k o p a c b d/\x .norm a c
 |.exit id,b,d=>∃a c,hc h r k o p a c b d/\x (.exit id) a c
 |.ret,b,d=>∃a c,hc h r k o p a c b d/\x .ret a c
 |.panic E,b,d=>oz h b/\∃v z y C,E=[{v,recovered:=ι}]/\Step k o p y C d/\aQ y v z/\up D z C/\∃a,bE y b a
 |_,_,_=>False
variable{b4:FuncId}
section
variable{env:Env}{D:List Deferred×List (Nat×Value)}
def size_put(a:Act)(b:Option Nat)(v:Value):(a.put b v).tmps.size=a.tmps.size:=by cases b<;>simp[Act.put]
theorem A5{c o:Type}{p:c->Option o}:∀ {d:List c}{b:List o},eR p d=β b->α d=α b/\∀(r:Nat)(h:c),d[r]?=β h->∃k,b[r]?=β k/\p h=β k
 |[],b,a=>by simp only[eR,a3c]at a;simp_all
 |h::y,b,a=>by
  simp only[eR]at a;split at a
  case h_2=>cases a
  rename_i k z C x;obtain rfl:=Δ a;obtain⟨E,F⟩:=A5 x;grind
theorem HZ{h:Array Oper}{o:Oper}{z:Option (Nat×Bool)}(c:vB h o=β z){a:Act}(E:bE t a j):
  match z with
  |none=>Region.wanted o (yielded h a.tmps)=η
  |some (b,C)=>(∀p,j b=.v (.bool p)->Region.wanted o (yielded h a.tmps)=(p==C))/\(j b=.aF []->Region.wanted o (yielded h a.tmps)=ι):=by
 unfold vB at c;split at c
 .rename_i x;obtain rfl:=Δ c;simp[Region.wanted,x]
 .rename_i F C x;split at c
  case h_2=>cases c
  rename_i b G;obtain rfl:=Δ c;have d:=E b;refine⟨λp y=>?_,λy=>?_⟩
  .rw[y]at d;have k:=d.dq;have S:a.tmps[b]?=β (.bool p):=by
    rw[a3J]at k;cases r:a.tmps[b]? with
    |none=>rw[r]at k;cases k
    |some L=>rw[r]at k;simpa using k
   grind[yielded,Region.wanted]
  .rw[y]at d;have P:yielded h a.tmps F=none:=by
    unfold yielded;rw[G];simp only[Option.bind_some];cases r:a.tmps[b]? with
    |none=>rfl
    |some L=>rw[a3J,r]at d;simp only[a4I]at d;cases d;rfl
   simp[Region.wanted,x,P]
theorem A6(L:∀A∈D.2,A.1∈env.pins){P:Array Oper}{b:Oper}{S:bW}(p:pL m env e P b=β S){d:Act}(B:hc D e t f l j u d h7)(H:T ⟨m,s⟩ S j5 j u)(x:Exit->Act->World->Prop)(I:∀v k o a h,(∃j,bE o d j)->Step t f l o a h->aQ o v k->up s k a->x (.panic [{v,recovered:=ι}]) d h):
  if Region.wanted b (yielded P d.tmps)then b.wp m d h7 (λy h=>∃c a,hc D e t f l c a y h/\j5 c a) x else∃c a,hc D e t f l c a (d.put b.dst undef) h7/\j5 c a:=by
 obtain⟨V,W,g,r,z⟩:=B;unfold pL at p;split at p
 case h_2=>cases p
 rename_i K k0 M N;split at p
 case isFalse=>cases p
 rename_i i;obtain rfl:=Δ p;have n:∀C,b.dst=β C->C<d.tmps.size:=λC k2=>by grind[A0]
 have k3:=HZ N r;have k4:G ⟨m,s⟩ K j u (λk a=>j5 (cY j b.dst k) a)->b.wp m d h7 (λy h=>∃c a,hc D e t f l c a y h/\j5 c a) x:=λO=>by
  have:=HF M r z.holds O x (λv k o a h q Q X=>I v k o a h ⟨j,r.mono q.le⟩ (z.trans q) Q X);refine Oper.wp_mono (λy h Y=>?_) this;obtain⟨v,o,a,k,rfl,w,Z,F⟩:=Y;exact⟨cY j b.dst k,a,⟨by rw[size_put];exact V,W.put L i.2,o,(r.mono w.le).put b.dst n Z,z.trans w⟩,F⟩
 have k5:j5 (cY j b.dst (.aF [])) u->∃c a,hc D e t f l c a (d.put b.dst undef) h7/\j5 c a:=λF=>
  ⟨cY j b.dst (.aF []),u,⟨by rw[size_put];exact V,W.put L i.2,g,r.put b.dst n (aQ.undef g),z⟩,F⟩
 unfold T E at H;grind
theorem A7(F:∀T∈D.2,T.1∈env.pins){G:Array Oper}{o:Exit->Act->World->Prop}{L:Fr->U->Prop}(P:∀b c a d,hc D e t f l b c a d->L b c->o .normal a d)(S:∀a v p k r x,(oz D a/\∃b,bE k a b)->Step t f l k r x->aQ k v p->up s p r->o (.panic [{v,recovered:=ι}]) a x):∀(y:List Oper)(z:List bW),eR (pL m env e G) y=β z->
  ∀(b:Fr)(c:U)(a:Act)(d:World),hc D e t f l b c a d->ij ⟨m,s⟩ z L b c->wpList m G o y a d
 |[],z,h,b,c,a,d,C,E=>by
  simp only[eR,a3c]at h;subst h;exact P b c a d C E
 |n::y,z,h,b,c,a,d,C,E=>by
  simp only[eR]at h;split at h
  case h_2=>cases h
  rename_i q V W g;obtain rfl:=Δ h;have ih:=A7 F P S y V g;have:=A6 F W C E o (λv p k r x i=>S a v p k r x ⟨C.2.1,i⟩);simp only[wpList];split
  .rename_i j;rw[if_pos j]at this;grind[Oper.wp_mono]
  grind
def vG(G:∀w∈D.2,w.1∈env.pins){y:Array Oper}{z:Exit->Act->World->Prop}{j:Fr->U->Prop}(C:∀b d a c,hc D e t f l b d a c->j b d->z .normal a c)(L:∀a v E o h k,(oz D a/\∃b,bE o a b)->Step t f l o h k->aQ o v E->up s E h->z (.panic [{v,recovered:=ι}]) a k){P:List bW}(S:eR (pL m env e y) y.toList=β P):
  ∀(p:Nat)(F:Array Bool)(b:Fr)(d:U)(a:Act)(c:World),hc D e t f l b d a c->sP ⟨m,s⟩ (nth P) y j p F b d->wpAny m .any y z p F a c
 |0,F,b,d,a,c,r,x=>⟨x.1,C b d a c r x.2⟩
 |p+1,F,b,d,a,c,r,x=>by
  refine⟨λA=>C b d a c r (x.1 A),λT n=>?_⟩;have q:=x.2 T n;obtain⟨_,B,u,_⟩:=mem_ready.1 n;obtain⟨H,I,K⟩:=(A5 S).2 T B (by simpa using u);have M:nth P T=H:=by simp[nth,I]
  rw[M]at q;have:=A6 G K r q z (λv E o h k N=>L a v E o h k ⟨r.2.1,N⟩);unfold wpOp;simp only[u];split
  .rename_i V;rw[if_pos V]at this;exact .inl (Oper.wp_mono (λO k ⟨W,h,g,i⟩=>vG G C L S p _ W h O k g i) this)
  .rename_i V;rw[if_neg V]at this;obtain⟨W,h,g,i⟩:=this;exact vG G C L S p _ W h _ c g i
theorem I0{a:Array Oper}{d:Nat->bW}{h:List cU}(c:vE a d h=η)(p:can K d j5 h j f):sP K d a j5 a.size (Array.replicate a.size ι) j f:=by
 simp only[vE,Ξ,a3h,decide_eq_true_eq,a4b]at c;obtain⟨⟨⟨⟨⟨E,F⟩,G⟩,L⟩,x⟩,y⟩:=c;have r:∀b k,k∈ik a b->k<b:=λb k P=>by
  grind[vz,Array.getElem?_eq_some_iff]
 refine HT (zU r a.size [] 0 rfl (λb z c=>by simp[dep]at c)) r a.size _ h ρ δ (λb=>?_) x y (λb o C=>?_) j f p
 .constructor
  .intro o;obtain⟨z,p,rfl⟩:=a3m.1 o;simp_all
  simp_all
 .simp[o]at C
def oA(L:m.follows .mixedOrders=η)(G:∀k6∈D.2,k6.1∈env.pins):∀(r:Code)(x:dM),gn m env e r=β x->∀(p:fH->Fr->U->Prop)(b:Fr)(c:U)(d:Act)(k:World),hc D e t f l b c d k->bP ⟨m,s⟩ x p b c->r.wp m (post D s e t f l p) d k
 |.skip,x,a,p,b,c,d,k,h,bS=>by
  simp only[gn,a3c]at a;subst a;exact wp_skip ⟨b,c,h,bS⟩
 |.region id ops k7,x,a,p,b,c,d,k,h,bS=>by
  cases k7 with
  |false=>
   simp only[gn]at a;split at a
   case h_2=>
    split at a
    .obtain rfl:=Δ a;trivial
    .cases a
   rename_i k0 n;obtain rfl:=Δ a;refine wp_region_list ?_;exact A7 G (λb c d k h y=>⟨b,c,h,y⟩) (λd v q u z E F P w A=>⟨F.1,v,q,u,z,rfl,P,w,A,F.2⟩) ops.toList k0 n b c d k h bS
  |true=>
   simp only[gn]at a;split at a
   case h_2=>cases a
   rename_i k0 n;split at a
   case isFalse=>cases a
   rename_i k8;obtain rfl:=Δ a;refine wp_region_any L ?_;obtain⟨k9,l0,l1,l2,k2⟩:=h;exact vG G (λb c d k h y=>⟨b,c,h,y⟩) (λd v q u z E F P w A=>⟨F.1,v,q,u,z,rfl,P,w,A,F.2⟩) n ops.size _ b c d _ ⟨k9,l0,l1,l2,k2.trans (Step.drew k2.holds)⟩ (I0 k8 bS)
 |.seq c1 c2,x,a,p,b,c,d,k,h,bS=>by
  simp only[gn]at a;split at a
  case h_2=>cases a
  rename_i B H F P;obtain rfl:=Δ a;refine wp_seq (wp_mono (oA L G c1 B F _ b c d k h bS) λC S E o=>?_);cases C with
  |normal=>obtain⟨T,z,V,y⟩:=o;exact oA L G c2 H P p T z S E V y
  |exit id=>exact o
  |ret=>exact o
  |goto k3=>exact o
  |panic I=>exact o
  |outgrown=>exact o
 |.cond r c1 c2,x,a,p,b,c,d,k,h,bS=>by
  simp only[gn]at a;split at a
  case h_2=>cases a
  rename_i B H F P;split at a
  case isFalse=>cases a
  rename_i l3;obtain rfl:=Δ a;simp only[bP]at bS;split at bS
  case h_2=>trivial
  rename_i n9 l4;have k4:=(h.2.2.choose_spec.1).ah r l3;rw[l4]at k4;refine wp_cond_split k4.dq (λK=>?_) (λK=>?_)
  .exact oA L G c1 B F p b c d k h (bS.1 K)
  .exact oA L G c2 H P p b c d k h (bS.2 K)
 |.block id r,x,a,p,b,c,d,k,h,bS=>by
  simp only[gn]at a;obtain⟨M,N,rfl⟩:=a5v.1 a;refine wp_block (wp_mono (oA L G r M N _ b c d k h bS) λC S E o=>?_);cases C with
  |normal=>exact o
  |exit a00=>
   obtain⟨T,z,V,y⟩:=o;simp only[Exit.inBlock];simp only[kz]at y;split
   .rename_i O;rw[if_pos O]at y;exact⟨T,z,V,y⟩
   .rename_i O;rw[if_neg O]at y;exact⟨T,z,V,y⟩
  |ret=>exact o
  |goto k3=>exact o
  |panic I=>exact o
  |outgrown=>exact o
 |.loop r,x,a,p,b,c,d,k,h,bS=>by
  simp only[gn]at a;obtain⟨M,N,rfl⟩:=a5v.1 a;obtain⟨l5,k5,Q,l6⟩:=bS;intro X Y Z;have l7:∀g b c d k,k5 b c=g->l5 b c->hc D e t f l b c d k->
    ∃C S E,post D s e t f l p C S E/\Arrives m (lone (X.at d (.code r::.inLoop r::Y)) Z k) X Y Z C S E:=by
   intro g
   induction g using Nat.strongRecOn with
   |_ g ih=>
    intro b c d k l8 Q h;obtain⟨C,i,j,o,W⟩:=oA L G r M N _ b c d k h (l6 b c Q) X (.inLoop r::Y) Z;cases C with
    |normal=>obtain⟨T,z,V,l9,n0⟩:=o;obtain⟨n1,n2,n3,n4,n5⟩:=ih (k5 T z) (l8▸n0) T z i j rfl l9 V;exact⟨n1,n2,n3,n4,.of_steps (Steps.trans W (.one step_inLoop)) n5⟩
    |exit id=>exact⟨.exit id,i,j,o,.pass rfl (λ_ _=>.inl ρ) W⟩
    |goto k3=>trivial
    |ret=>exact⟨.ret,i,j,o,.pass rfl (λ_ _=>.inl ρ) W⟩
    |panic I=>exact⟨.panic I,i,j,o,.pass rfl (λ_ _=>.inl ρ) W⟩
    |outgrown=>trivial
  obtain⟨C,S,E,o,W⟩:=l7 _ b c d k rfl Q h;exact⟨C,S,E,o,.of_steps (.one step_loop) W⟩
 |.exit id,x,a,p,b,c,d,k,h,bS=>by
  simp only[gn,a3c]at a;subst a;exact wp_exit ⟨b,c,h,bS⟩
 |.ret,x,a,p,b,c,d,k,h,bS=>by
  simp only[gn,a3c]at a;subst a;exact wp_ret ⟨b,c,h,bS⟩
 |.refuse a01,x,a,p,b,c,d,k,h,bS=>by
  simp only[gn,a3c]at a;subst a;trivial
structure ar where
 ntmps:Nat
 nparams:Nat
 code:dM
 results:List (Nat×Option (Bool×Nat))
def pM(b:Program):ResultVar->Option (Nat×Option (Bool×Nat))
 |.tmp a=>β (a,ε)
 |.cell d a=>match b.underlying a,iR b a with
  |some c,β e=>if c.isRow=η\/e=1 then β (d,β (c.isRow,e))else ε
  |_,_=>ε
def Env.all(a:Env)(c:Nat)(b:Nat):Env:=
 match c with
 |1=> {a with sI:=ψ b}
 |2=> {a with ty:=η}
 |5=> {a with zy:=η}
 |6=> {a with sI:=ψ b,vl:=η}
 |_=>a
def di(a:Program)(c:Nat)(d:FuncId):Option ar:=
 match a.funcs[d]? with
 |some fn=>match fn.body with
  |some b=>match gn a ((HY a b).all c fn.ntmps) fn.ntmps b,eR (pM a) fn.results.toList with
   |some h,β rs=>if fn.params.size<=fn.ntmps then β ⟨fn.ntmps,fn.params.size,h,rs⟩else ε
   |_,_=>ε
  |none=>ε
 |none=>ε
def fI(b:Fr)(c:U):Nat×Option (Bool×Nat)->Option R
 |(a,ε)=>β (b a)
 |(a,β (agg,e))=>match b a with
  |.ptr d off=>match c.read d with
   |some cs=>if off+e<=α cs then β (aP agg e (cs.drop off))else ε
   |none=>ε
  |_=>ε
def il(a:Fr)(b:U)(c:List (Nat×Option (Bool×Nat))):Option R:=
 match eR (fI a b) c with
 |some [d]=>β d
 |some h=>β (.aF h)
 |none=>ε
def pN(d:ar)(h:R->U->Prop):fH->Fr->U->Prop
 |.exit _,_,_=>False
 |_,k,a=>∃b c,il k a d.results=β b/\c.sub a/\h b c
def ly(a:Χ):Fr:=λb=>a.getD b (.aF [])
def r6(b:Array Value):ResultVar->Sem Value
 |.tmp a=>pure (b.getD a undef)
 |.cell c a=>do loadVar a (<-asAddr (b.getD c undef))
theorem I1{o:Act}{p:ResultVar}{k:Nat×Option (Bool×Nat)}(z:aQ t (o.tmps.getD k.1 undef) (j k.1))(P:Holds t f l)(d:pM m p=β k)(b:fI j f k=β q):
  ∃v,(r6 o.tmps p).run m l=.ok v l/\aQ t v q:=by
 cases p with
 |tmp r=>simp only[pM,a3c]at d;subst d;simp only[fI,a3c]at b;subst b;exact⟨_,rfl,z⟩
 |cell C r=>
  simp only[pM]at d;split at d
  case h_2=>cases d
  rename_i x e E S;split at d
  case isFalse=>cases d
  rename_i V;obtain rfl:=Δ d;simp only[fI]at b;split at b
  case h_2=>cases b
  rename_i h a W;split at b
  case h_2=>cases b
  rename_i I g;split at b
  case isFalse=>cases b
  rename_i i;obtain rfl:=Δ b;have F:aQ t (o.tmps.getD C undef) (j C):=z;rw[W]at F;have n:=F.iQ;obtain⟨s,c,T,K,u,G⟩:=P.read g;have M:=G.1;cases y:x.isRow with
  |true=>
   have w:l.rangeAt h a ((c.toList.drop a).take e):=by intro N v O;grind[cell_of_row]
   have A:((c.toList.drop a).take e).length=e:=Κ;have L:=run_loadVar_mid l h a r ((c.toList.drop a).take e) x w E y (by rw[A];exact S);refine⟨.agg ((c.toList.drop a).take e).toArray,by simp only[r6,Sem.run_bind,n,asAddr,Sem.run_pure,Result.andThen_ok,L],?_⟩;rw[show((c.toList.drop a).take e).toArray=c.extract a (a+e) by grind];exact aQ.aP G s a e i
  |false=>
   obtain rfl:=sK V y;have B:a<c.size:=δ;have H:l.cell? ⟨h,a,ε⟩=β (c.getD a undef):=by rw[cell_of_row l h a c T _ u];simp[B]
   have L:=v8 l r x ⟨h,a,ε⟩ _ E y H;grind[undef,r6,Sem.run_bind,asAddr,Sem.run_pure,Result.andThen_ok,aQ.v7]
theorem A8{p:bb}{E:Fr}{F:U}{G:Act}{r:World}(L:Holds p F r):∀(k:List ResultVar)(c:List (Nat×Option (Bool×Nat)))(d:Χ),(∀o∈c,aQ p (G.tmps.getD o.1 undef) (E o.1))->eR (pM m) k=β c->eR (fI E F) c=β d->
  ∃h:List Value,(k.mapM (r6 G.tmps)).run m r=.ok h r/\α h=α d/\∀(x:Nat)(y:Value)(z:R),h[x]?=β y->d[x]?=β z->aQ p y z
 |[],c,d,C,a,b=>by
  simp only[eR,a3c]at a;subst a;simp only[eR,a3c]at b;simp_all
 |j::k,c,d,C,a,b=>by
  simp only[eR]at a;split at a
  case h_2=>cases a
  rename_i o P S T;obtain rfl:=Δ a;simp only[eR]at b;split at b
  case h_2=>cases b
  rename_i l V W e;obtain rfl:=Δ b;obtain⟨v,n,q⟩:=I1 (C o ρ) L S W;obtain⟨h,s,f,t⟩:=A8 L k P V (λg i=>C g (by simp[i])) T e;refine⟨v::h,?_,by simp[f],λx y z u w=>?_⟩;simp_all;grind
theorem I2{k:Act}{c:Func}{o:List (Nat×Option (Bool×Nat))}(L:∀F∈o,aQ t (k.tmps.getD F.1 undef) (j F.1))(P:Holds t f l)(S:eR (pM m) c.results.toList=β o)(p:il j f o=β q):
  ∃v,(results c k.tmps).run m l=.ok v l/\aQ t v q:=by
 unfold il at p;have G:∀d,eR (fI j f) o=β d->∃a:Array Value,(results c k.tmps).run m l=.ok (if T:a.size=1 then a[0]else .tuple a) l/\α a.toList=α d/\∀(x)(y)(z),a.toList[x]?=β y->d[x]?=β z->aQ t y z:=λd r=>by
  obtain⟨a,b,C,h⟩:=A8 P c.results.toList o d L S r;refine⟨a.toArray,?_,by trivial,λx y z e V=>h x y z (by trivial) V⟩;have W:results c k.tmps=(do let a <-c.results.mapM (r6 k.tmps);pure (if T:a.size=1 then a[0]else .tuple a)):=rfl;rw[W,Sem.run_bind,Array.mapM_eq_mapM_toList,Sem.run_map];rw[b];rfl
 split at p
 .rename_i g r;obtain rfl:=Δ p;obtain⟨a,b,C,h⟩:=G _ r;have E:a.size=1:=by trivial
  rw[dif_pos E]at b;refine⟨_,b,h 0 _ _ ?_ rfl⟩;simp
 .rename_i d i r;obtain rfl:=Δ p;obtain⟨a,b,C,h⟩:=G _ r;have E:a.size≠1:=by grind[List.length_eq_one_iff]
  rw[dif_neg E]at b;exact⟨_,b,.aF _ _ (bn.dG.2 ⟨C,h⟩).1 (bn.dG.2 ⟨C,h⟩).2⟩
 .cases p
theorem I3(A:m.follows .mixedOrders=η){C:ar}(b:di m e b4=β C)(B:α g<=C.ntmps)(q:bP ⟨m,Z⟩ C.code (pN C s) (ly g) f):hb m b4 g f s (up Z):=by
 intro h r o t H;unfold di at b;split at b
 case h_2=>cases b
 rename_i p I;split at b
 case h_2=>cases b
 rename_i K M;split at b
 case h_2=>cases b
 rename_i N O Q X;split at b
 case isFalse=>cases b
 rename_i k6;obtain rfl:=Δ b;simp only at B q;refine calls_of_wp I M ?_;have u:=t.1;have Y:hc ([],[]) p.ntmps o f r (ly g) f {tmps:=h++Array.replicate (p.ntmps - h.size) undef,defers:=[]} r:=by
  refine⟨Κ,⟨rfl,λS T=>by simp at T⟩,o,λc=>?_,.refl H⟩;by_cases E:c<α g
  .have V:ly g c=g[c]:=by simp[ly,E]
   rw[V];have:=t.2 c g[c] (Ν E);have W:(h++Array.replicate (p.ntmps - h.size) undef).getD c undef=h.getD c undef:=by simp[a6T,u,E]
   rw[W];exact this
  .have V:ly g c=.aF []:=by simp[ly,E]
   rw[V];have W:(h++Array.replicate (p.ntmps - h.size) undef).getD c undef=undef:=by simp only[a3J,a6T,u];grind
   rw[W];exact aQ.undef o
 refine wp_mono (oA A (λS T=>by simp at T) K N Q _ _ _ _ _ Y q) λk0 i x F=>?_;have w:(∃G y,hc ([],[]) p.ntmps o f r G y i x/\∃a L,il G y O=β a/\L.sub y/\s a L)->
   i.defers=[]/\∃v,(results p i.tmps).run m x=.ok v x/\((∃z a d k,Ending.returned v=.returned z/\Step o f r d k x/\aQ d z a/\s a k)\/(∃z a d k,Ending.returned v=.panicked [{v:=z,recovered:=ι}]/\Step o f r d k x/\aQ d z a/\up Z a k)):=by
  rintro⟨G,y,⟨_,j,d,k2,P⟩,a,L,k3,k4,l⟩;obtain⟨v,k5,n⟩:=I2 (λS _=>k2 S.1) P.holds X k3;exact⟨j.1,v,k5,.inl ⟨v,a,d,L,rfl,P.drop k4,n,l⟩⟩
 cases k0 with
 |normal=>exact w F
 |ret=>exact w F
 |exit id=>obtain⟨G,y,_,k7⟩:=F;trivial
 |goto k8=>trivial
 |panic k9=>obtain⟨j,v,a,d,k,rfl,P,n,l,_⟩:=F;exact⟨j.1,.inr ⟨v,a,d,k,rfl,P,n,l⟩⟩
 |outgrown=>trivial
def I4(b:m.follows .mixedOrders=η){a:ar}(c:di m e b4=β a)(d:α g<=a.ntmps)(h:bP (Ctx.of m) a.code (pN a s) (ly g) f):AC m b4 g f s:=
 (I3 b c d h).G7
end
abbrev aD(a:Nat):Operand:=.tmp a
abbrev lz(a:Int):Operand:=.const (.int .i64 a)
abbrev pO:Operand:=.const (.bool ι)
abbrev I5:Operand:=.const (.slice ε 0 0)
abbrev bC(a:Nat)(b:c4):bW:=⟨β a,b,ε⟩
abbrev on(a:c4):bW:=⟨ε,a,ε⟩
abbrev eB(a:Nat)(b:Bool)(c:Nat)(d:c4):bW:=⟨β c,d,β (a,b)⟩
abbrev av(a b:Nat):bW:=⟨β a,.eA (.tmp b),ε⟩
abbrev cw(a:Nat)(b:BinOp)(c d:Nat):bW:=⟨β a,.bin b (.tmp c) (.tmp d),ε⟩
abbrev eS(a:Nat)(b:BinOp)(c:Nat)(d:Int):bW:=⟨β a,.bin b (.tmp c) (.const (.int .i64 d)),ε⟩
abbrev oB(a b:Nat):bW:=⟨β a,.len (.tmp b),ε⟩
abbrev aY(a:Nat):cU:=⟨a,[],[]⟩
end Go.bt
set_option maxRecDepth 100000
namespace Go.Proofs.YtcfpcblgmmeioaaGreat
open Go Go.bt
theorem hm:γ.follows .mixedOrders=true:=Ο
abbrev hE:=Χ
def I6:Nat->Operand
 |0=>(.const (.int .i64 0))
 |1=>(.const (.bool ι))
 |2=>(.const (.int .i64 1))
 |3=>(.const (.slice ε 0 0))
 |4=>(.const (.bool η))
 |5=>(.const (.int .i64 8))
 |6=>(.const (.pointer ε))
 |_=>(.const (.int .i64 4))
def I7:Nat->Operand
 |0=>(.const (.int .i64 2))
 |1=>(.const (.int .u8 2))
 |2=>(.const (.int .i64 (-1)))
 |3=>(.const (.int .i64 64))
 |4=>(.const (.int .u8 1))
 |5=>(.const (.int .u8 3))
 |6=>(.const (.int .i64 21))
 |_=>(.const (.int .i64 3))
def I8:Nat->Operand
 |0=>(.const (.int .i64 1048576))
 |1=>(.const (.int .u8 0))
 |2=>(.const (.int .i64 16))
 |3=>(.const (.int .u64 0))
 |4=>(.const (.int .i64 9))
 |5=>(.const (.int .i64 7))
 |6=>(.const (.int .u64 8))
 |_=>(.const (.int .u64 32))
def I9:Nat->Operand
 |0=>(.const (.int .i64 10))
 |1=>(.const (.int .u64 9223372036854775808))
 |2=>(.const (.int .i64 6))
 |3=>(.const (.int .i64 56))
 |4=>(.const (.int .u64 16))
 |5=>(.const (.int .u64 256))
 |6=>(.const (.int .i64 256))
 |_=>(.const (.int .i64 5))
def Ia:Nat->Operand
 |0=>(.func 32)
 |1=>(.func 47)
 |2=>(.const (.int .u8 4))
 |3=>(.const (.int .i64 32))
 |4=>(.const (.string ⟨#[99,97,110,110,111,116,32,98,101,32,110,101,103,97,116,105,118,101]⟩))
 |5=>(.const (.int .u64 4294967295))
 |6=>(.const (.int .i64 100))
 |_=>(.const (.int .i64 20))
def Ib:Nat->Operand
 |0=>(.func 39)
 |1=>(.const (.string ⟨#[105,100]⟩))
 |2=>(.const (.int .u8 80))
 |3=>(.const (.int .u8 128))
 |4=>(.const (.int .u64 24))
 |5=>(.const (.int .u32 1779033703))
 |6=>(.const (.int .u32 3144134277))
 |_=>(.const (.int .u32 1013904242))
def Ic:Nat->Operand
 |0=>(.const (.int .u32 2773480762))
 |1=>(.const (.int .u32 1359893119))
 |2=>(.const (.int .u32 2600822924))
 |3=>(.const (.int .u32 528734635))
 |4=>(.const (.int .u32 1541459225))
 |5=>(.const (.int .u64 1))
 |6=>(.const (.int .u32 256))
 |_=>(.const (.int .u32 1116352408))
def Ie:Nat->Operand
 |0=>(.const (.int .u32 1899447441))
 |1=>(.const (.int .u32 3049323471))
 |2=>(.const (.int .u32 3921009573))
 |3=>(.const (.int .u32 961987163))
 |4=>(.const (.int .u32 1508970993))
 |5=>(.const (.int .u32 2453635748))
 |6=>(.const (.int .u32 2870763221))
 |_=>(.const (.int .u32 3624381080))
def Ig:Nat->Operand
 |0=>(.const (.int .u32 310598401))
 |1=>(.const (.int .u32 607225278))
 |2=>(.const (.int .u32 1426881987))
 |3=>(.const (.int .u32 1925078388))
 |4=>(.const (.int .u32 2162078206))
 |5=>(.const (.int .u32 2614888103))
 |6=>(.const (.int .u32 3248222580))
 |_=>(.const (.int .u32 3835390401))
def Ih:Nat->Operand
 |0=>(.const (.int .u32 4022224774))
 |1=>(.const (.int .u32 264347078))
 |2=>(.const (.int .u32 604807628))
 |3=>(.const (.int .u32 770255983))
 |4=>(.const (.int .u32 1249150122))
 |5=>(.const (.int .u32 1555081692))
 |6=>(.const (.int .u32 1996064986))
 |_=>(.const (.int .u32 2554220882))
def Ii:Nat->Operand
 |0=>(.const (.int .u32 2821834349))
 |1=>(.const (.int .u32 2952996808))
 |2=>(.const (.int .u32 3210313671))
 |3=>(.const (.int .u32 3336571891))
 |4=>(.const (.int .u32 3584528711))
 |5=>(.const (.int .u32 113926993))
 |6=>(.const (.int .u32 338241895))
 |_=>(.const (.int .u32 666307205))
def Ij:Nat->Operand
 |0=>(.const (.int .u32 773529912))
 |1=>(.const (.int .u32 1294757372))
 |2=>(.const (.int .u32 1396182291))
 |3=>(.const (.int .u32 1695183700))
 |4=>(.const (.int .u32 1986661051))
 |5=>(.const (.int .u32 2177026350))
 |6=>(.const (.int .u32 2456956037))
 |_=>(.const (.int .u32 2730485921))
def Ik:Nat->Operand
 |0=>(.const (.int .u32 2820302411))
 |1=>(.const (.int .u32 3259730800))
 |2=>(.const (.int .u32 3345764771))
 |3=>(.const (.int .u32 3516065817))
 |4=>(.const (.int .u32 3600352804))
 |5=>(.const (.int .u32 4094571909))
 |6=>(.const (.int .u32 275423344))
 |_=>(.const (.int .u32 430227734))
def Il:Nat->Operand
 |0=>(.const (.int .u32 506948616))
 |1=>(.const (.int .u32 659060556))
 |2=>(.const (.int .u32 883997877))
 |3=>(.const (.int .u32 958139571))
 |4=>(.const (.int .u32 1322822218))
 |5=>(.const (.int .u32 1537002063))
 |6=>(.const (.int .u32 1747873779))
 |_=>(.const (.int .u32 1955562222))
def Im:Nat->Operand
 |0=>(.const (.int .u32 2024104815))
 |1=>(.const (.int .u32 2227730452))
 |2=>(.const (.int .u32 2361852424))
 |3=>(.const (.int .u32 2428436474))
 |4=>(.const (.int .u32 2756734187))
 |5=>(.const (.int .u32 3204031479))
 |6=>(.const (.int .u32 3329325298))
 |_=>(.const (.int .i64 15))
def Io:Nat->Operand
 |0=>(.const (.int .u32 0))
 |1=>(.const (.int .u64 2))
 |2=>(.const (.string ⟨#[108,101,110,32,111,117,116,32,111,102,32,114,97,110,103,101]⟩))
 |3=>(.const (.int .i64 300))
 |4=>(.const (.int .i64 50))
 |5=>(.const (.int .i64 30))
 |6=>(.func 55)
 |_=>(.func 56)
def Ip:Nat->Operand
 |0=>(.func 57)
 |1=>(.func 58)
 |2=>(.func 105)
 |3=>(.func 106)
 |4=>(.func 107)
 |5=>(.func 108)
 |6=>(.const (.int .i64 22))
 |_=>(.const (.int .i64 12))
def Iq:Nat->Operand
 |0=>(.const (.int .i32 97))
 |1=>(.const (.int .i32 122))
 |2=>(.const (.int .i32 48))
 |3=>(.const (.int .i32 57))
 |4=>(.const (.int .i32 95))
 |5=>(.const (.int .u8 97))
 |6=>(.const (.int .u8 122))
 |_=>(.const (.int .u8 48))
def Ir:Nat->Operand
 |0=>(.const (.int .u8 57))
 |1=>(.const (.int .u8 95))
 |2=>(.const (.int .i64 17))
 |3=>(.const (.int .i64 255))
 |4=>(.const (.int .u64 4294967296))
 |5=>(.const (.int .u64 65536))
 |6=>(.func 209)
 |_=>(.const (.int .i64 (-9223372036854775808)))
def Is:Nat->Operand
 |0=>(.const (.int .i64 9223372036854775807))
 |1=>(.func 216)
 |2=>(.const (.int .u64 18446744073709551615))
 |3=>(.const (.int .i64 65536))
 |4=>(.const (.int .i64 (-6)))
 |5=>(.const (.int .i64 (-11)))
 |6=>(.const (.int .i64 (-25)))
 |_=>(.const (.int .i64 (-2)))
def It:Nat->Operand
 |0=>(.const (.int .i64 (-13)))
 |1=>(.const (.int .i64 (-22)))
 |2=>(.func 257)
 |3=>(.func 258)
 |4=>(.const (.string ⟨#[]⟩))
 |5=>(.const (.int .u64 9223372036854775807))
 |6=>(.const (.string ⟨#[116,104,101,32,114,101,115,117,108,116,32,111,102,32,40,108,101,110,40,120,41,32,42,32,99,111,117,110,116,41,32,111,118,101,114,102,108,111,119,115]⟩))
 |_=>(.const (.int .i64 1000))
def Iu:Nat->Operand
 |0=>(.const (.int .i64 24))
 |1=>(.const (.int .i64 (-7)))
 |2=>(.const (.int .i64 (-18)))
 |3=>(.const (.int .u64 3))
 |4=>(.const (.int .i64 (-17)))
 |5=>(.const (.int .i64 (-19)))
 |6=>(.const (.int .u64 10))
 |_=>(.const (.int .u64 31))
def Iv:Nat->Operand
 |0=>(.const .nilFunc)
 |1=>(.const (.int .u64 7))
 |2=>(.const (.int .u64 18))
 |3=>(.const (.int .u32 8))
 |4=>(.const (.int .u64 17))
 |5=>(.const (.int .u64 19))
 |6=>(.const (.int .u32 1024))
 |_=>(.const (.int .u32 4294967295))
def Iw:Nat->Operand
 |0=>(.const (.int .u64 6))
 |1=>(.const (.int .u64 11))
 |2=>(.const (.int .u64 25))
 |3=>(.const (.int .u64 13))
 |4=>(.const (.int .u64 22))
 |_=>(.const (.int .i64 63))
def Ix(a:Nat):Operand:=
 match a/8%8 with
 |0=>I6 (a%8)
 |1=>I7 (a%8)
 |2=>I8 (a%8)
 |3=>I9 (a%8)
 |4=>Ia (a%8)
 |5=>Ib (a%8)
 |6=>Ic (a%8)
 |_=>Ie (a%8)
def Iy(a:Nat):Operand:=
 match a/8%8 with
 |0=>Ig (a%8)
 |1=>Ih (a%8)
 |2=>Ii (a%8)
 |3=>Ij (a%8)
 |4=>Ik (a%8)
 |5=>Il (a%8)
 |6=>Im (a%8)
 |_=>Io (a%8)
def Iz(a:Nat):Operand:=
 match a/8%8 with
 |0=>Ip (a%8)
 |1=>Iq (a%8)
 |2=>Ir (a%8)
 |3=>Is (a%8)
 |4=>It (a%8)
 |5=>Iu (a%8)
 |6=>Iv (a%8)
 |_=>Iw (a%8)
def A9(a:Nat):Operand:=
 match a/64 with
 |0=>Ix a
 |1=>Iy a
 |_=>Iz a
def IA:Nat->c4
 |0=>(.eqv ι [(32,(.int .u8))] (.tmp 59) (.tmp 61))
 |1=>(.eqv ι [(32,(.int .u8))] (.tmp 72) (.tmp 74))
 |2=>(.eqv η [(32,(.int .u8))] (.tmp 20) (.tmp 24))
 |3=>(.ot η 0 32 (.tmp 10))
 |4=>(.ot η 0 32 (.tmp 11))
 |5=>.jE
 |6=>(.jG η [(32,(.int .u8))] (.J [] .nil) (.tmp 12) (.tmp 13))
 |_=>(.jG η [(32,(.int .u8))] (.J [] .nil) (.tmp 14) (.tmp 15))
def IB:Nat->c4
 |0=>(.ks [(32,(.int .u8))] (.tmp 25) (.tmp 26) (.tmp 28))
 |1=>(.jG η [(32,(.int .u8))] (.J [] .nil) (.tmp 11) (.tmp 12))
 |2=>(.nj (.tmp 6))
 |3=>(.ln η (.tmp 30) (.tmp 34))
 |4=>(.oo η 37 2 (.tmp 29) (.tmp 30))
 |5=>(.ou (.tmp 27))
 |6=>(.ou (.tmp 44))
 |_=>(.eqv ι [(32,(.int .u8))] (.tmp 15) (.tmp 16))
def IC:Nat->c4
 |0=>(.jG ι [(32,(.int .u8))] (.v (.bool ι)) (.tmp 8) (.tmp 9))
 |1=>(.ks [(32,(.int .u8))] (.tmp 14) (.tmp 15) (.const (.bool η)))
 |2=>(.jz (.tmp 6))
 |3=>(.mf (.tmp 7))
 |4=>(.lk (.tmp 13) (.tmp 14))
 |5=>(.eqv η [(2,(.int .u64))] (.tmp 36) (.tmp 37))
 |6=>(.kp 42 (.tmp 1))
 |_=>(.jw 1 32 (.tmp 3) ε ε)
def ID:Nat->c4
 |0=>(.kr 1 32 (.tmp 59) ε ε η)
 |1=>(.oo ι 1 8 (.tmp 50) (.tmp 51))
 |2=>(.lk (.const (.string ⟨#[0,1,2,2,3,3,3,3,4,4,4,4,4,4,4,4,5,5,5,5,5,5,5,5,5,5,5,5,5,5,5,5,6,6,6,6,6,6,6,6,6,6,6,6,6,6,6,6,6,6,6,6,6,6,6,6,6,6,6,6,6,6,6,6,7,7,7,7,7,7,7,7,7,7,7,7,7,7,7,7,7,7,7,7,7,7,7,7,7,7,7,7,7,7,7,7,7,7,7,7,7,7,7,7,7,7,7,7,7,7,7,7,7,7,7,7,7,7,7,7,7,7,7,7,7,7,7,7,8,8,8,8,8,8,8,8,8,8,8,8,8,8,8,8,8,8,8,8,8,8,8,8,8,8,8,8,8,8,8,8,8,8,8,8,8,8,8,8,8,8,8,8,8,8,8,8,8,8,8,8,8,8,8,8,8,8,8,8,8,8,8,8,8,8,8,8,8,8,8,8,8,8,8,8,8,8,8,8,8,8,8,8,8,8,8,8,8,8,8,8,8,8,8,8,8,8,8,8,8,8,8,8,8,8,8,8,8,8,8,8,8,8,8,8,8,8,8,8,8,8,8,8,8,8,8,8]⟩)) (.tmp 21))
 |3=>(.eqv ι [(32,(.int .u8))] (.tmp 6) (.tmp 8))
 |4=>(.kr 1 32 (.tmp 3) ε ε ι)
 |5=>(.mb 1 (.tmp 11) (.tmp 12))
 |_=>(.eqv ι [(2,(.int .u64))] (.tmp 6) (.tmp 7))
def IE(a:Nat):c4:=
 match a/8 with
 |0=>IA (a%8)
 |1=>IB (a%8)
 |2=>IC (a%8)
 |_=>ID (a%8)
def IF(a:Nat):Nat:=if 96<a then a - 97 else if 64<a then a - 39 else if 47<a then a+4 else a+26
def IG(a:List hE)(b:Nat):hE:=a.getD b []
variable{b0:Type}
section
def cN(k:Υ)(b:Nat->Υ->b0):b0:=
 match k with
 |c::a=>if c<69 then b c a else if c=69 then(match a with|d::h::a=>b (d*71+h) a|_=>b 0 [])else(match a with|d::h::o::a=>b ((d*71+h)*71+o) a|_=>b 0 [])
 |[]=>b 0 []
def IH(a b:Nat)(c:Operand->Υ->b0)(d:Υ):b0:=
 match a - b with
 |h=>c (.tmp h) d
def bG(h:Nat)(k:Υ)(b:Operand->Υ->b0):b0:=
 match k with
 |c::a=>if c<20 then b (.tmp c) a else if c<36 then IH h (c - 20) b a else if c<70 then b (A9 (c - 36)) a else cN a λd a=>if d<1000 then b (.tmp d) a else b (A9 (d - 1000)) a
 |[]=>b I5 []
def im(b:Υ)(a:Nat->Υ->b0):b0:=
 match b with
 |c::d=>a c d
 |[]=>a 0 []
def vH(a:Υ)(b:Bool->Υ->b0):b0:=im a λc a=>if c=0 then b ι a else b η a
def r7(b:List hE)(a:Υ)(c:hE->Υ->b0):b0:=im a λd a=>c (IG b d) a
def oC{c:Type}(d:Υ->(c->Υ->b0)->b0):Nat->Υ->(List c->Υ->b0)->b0
 |0,a,b=>b [] a
 |h+1,a,b=>d a λk a=>oC d h a λo a=>b (k::o) a
def pP(b:Nat)(a:Υ)(c:List Operand->Υ->b0):b0:=im a λd a=>oC (bG b) d a c
def r8(c:Nat)(a:Υ)(b:Option Operand->Υ->b0):b0:=im a λd a=>if d=0 then b ε a else bG c a λh a=>b (β h) a
def II(b:Nat)(a:Υ)(c:Nat×Nat×Operand->Υ->b0):b0:=cN a λd a=>cN a λh a=>bG b a λk a=>c (d,h,k) a
def IJ(b:Nat)(a:Υ)(c:List (Nat×Nat×Operand)->Υ->b0):b0:=im a λd a=>oC (II b) d a c
def IK(a:Υ)(b:UnOp->Υ->b0):b0:=im a λc a=>b (match c with|0=>.neg|1=>.xor|2=>.not|_=>.plus) a
def Aa(a:Υ)(b:IntKind->Υ->b0):b0:=im a λc a=>b (match c with|0=>.i8|1=>.i16|2=>.i32|3=>.i64|4=>.u8|5=>.u16|6=>.u32|_=>.u64) a
def IL(a:Υ)(b:cU->Υ->b0):b0:=cN a λc a=>im a λd a=>oC cN d a λh a=>im a λk a=>oC cN k a λo a=>b ⟨c,h,o⟩ a
def IM(a:Υ)(b:Nat×Option (Bool×Nat)->Υ->b0):b0:=cN a λc a=>im a λd a=>if d=0 then b (c,ε) a else cN a λh a=>b (c,β (if d=1 then ι else η,h)) a
end
def IN(k:List hE)(c:Nat):Nat->Υ->c4×Υ
 |0=>λa=>bG c a λb a=>(.eA b,a)
 |1=>λa=>bG c a λb a=>(.load ι 1 b,a)
 |2=>λa=>cN a λb a=>bG c a λd a=>(.kq b d,a)
 |3=>λa=>cN a λb a=>pP c a λd a=>(.fv b d,a)
 |4=>λa=>cN a λb a=>bG c a λd a=>(.load η b d,a)
 |5=>λa=>cN a λb a=>bG c a λd a=>bG c a λh a=>(.store b d h,a)
 |6=>λa=>bG c a λb a=>(.len b,a)
 |_=>λa=>cN a λb a=>bG c a λd a=>bG c a λh a=>(.dB b d h,a)
def IP(h:List hE)(d:Nat):Nat->Υ->c4×Υ
 |0=>λa=>bG d a λb a=>cN a λc a=>(.ext b c,a)
 |1=>λa=>bG d a λb a=>bG d a λc a=>(.bin .add b c,a)
 |2=>λa=>bG d a λb a=>(.pA b,a)
 |3=>λa=>bG d a λb a=>bG d a λc a=>bG d a λk a=>(.pick b c k,a)
 |4=>λa=>bG d a λb a=>bG d a λc a=>(.bin .lss b c,a)
 |5=>λa=>cN a λb a=>bG d a λc a=>(.box b c,a)
 |6=>λa=>bG d a λb a=>bG d a λc a=>(.bin .eql b c,a)
 |_=>λa=>cN a λb a=>r7 h a λc a=>(.alloc b c,a)
def IQ(o:List hE)(d:Nat):Nat->Υ->c4×Υ
 |0=>λa=>r7 o a λb a=>IJ d a λc a=>(.ll b c,a)
 |1=>λa=>IK a λb a=>bG d a λc a=>(.un b c,a)
 |2=>λa=>bG d a λb a=>bG d a λc a=>(.bin .neq b c,a)
 |3=>λa=>cN a λb a=>bG d a λc a=>r8 d a λh a=>r8 d a λk a=>r8 d a λp a=>(.lq b c h k p,a)
 |4=>λa=>Aa a λb a=>bG d a λc a=>(.ib b c,a)
 |5=>λa=>cN a λb a=>pP d a λc a=>(.jv b c,a)
 |6=>λa=>bG d a λb a=>bG d a λc a=>(.bin .gtr b c,a)
 |_=>λa=>cN a λb a=>cN a λc a=>bG d a λh a=>bG d a λk a=>(.app b c h k,a)
def IS(o:List hE)(b:Nat):Nat->Υ->c4×Υ
 |0=>λa=>bG b a λc a=>bG b a λd a=>(.bin .sub c d,a)
 |1=>λa=>cN a λc a=>cN a λd a=>bG b a λh a=>bG b a λk a=>(.lp c d h k,a)
 |2=>λa=>cN a λc a=>cN a λd a=>bG b a λh a=>bG b a λk a=>(.pB c d h k,a)
 |3=>λa=>cN a λc a=>pP b a λd a=>(.jy c d,a)
 |4=>λa=>bG b a λc a=>bG b a λd a=>(.bin .geq c d,a)
 |5=>λa=>bG b a λc a=>bG b a λd a=>(.bin .xor c d,a)
 |6=>λa=>bG b a λc a=>bG b a λd a=>(.bin .mul c d,a)
 |_=>λa=>cN a λc a=>bG b a λd a=>r8 b a λh a=>r8 b a λk a=>(.oq c d h k,a)
def IT(k:List hE)(b:Nat):Nat->Υ->c4×Υ
 |0=>λa=>bG b a λc a=>bG b a λd a=>(.bin .shr c d,a)
 |1=>λa=>bG b a λc a=>bG b a λd a=>(.bin .leq c d,a)
 |2=>λa=>cN a λc a=>bG b a λd a=>bG b a λh a=>(.mi c d h,a)
 |3=>λa=>cN a λc a=>pP b a λd a=>pP b a λh a=>(.bA c d h,a)
 |4=>λa=>bG b a λc a=>pP b a λd a=>(.ic c d,a)
 |5=>λa=>bG b a λc a=>bG b a λd a=>(.bin .rem c d,a)
 |6=>λa=>bG b a λc a=>bG b a λd a=>(.bin .quo c d,a)
 |_=>λa=>bG b a λc a=>bG b a λd a=>(.bin .and c d,a)
def IU(o:List hE)(c:Nat):Nat->Υ->c4×Υ
 |0=>λa=>vH a λb a=>bG c a λd a=>bG c a λh a=>(.pD b d h,a)
 |1=>λa=>vH a λb a=>Aa a λd a=>bG c a λh a=>bG c a λk a=>(.lo b d h k,a)
 |2=>λa=>vH a λb a=>bG c a λd a=>(.mc b d,a)
 |3=>λa=>bG c a λb a=>bG c a λd a=>(.bin .shl b d,a)
 |4=>λa=>bG c a λb a=>bG c a λd a=>(.bin .or b d,a)
 |5=>λa=>bG c a λb a=>(.pC b,a)
 |6=>λa=>bG c a λb a=>(.mg b,a)
 |_=>λa=>bG c a λb a=>(.pE b,a)
def IV(k:List hE)(c:Nat):Nat->Υ->c4×Υ
 |0=>λa=>cN a λb a=>bG c a λd a=>(.pF b d,a)
 |1=>λa=>bG c a λb a=>(.me b,a)
 |2=>λa=>cN a λb a=>cN a λd a=>r7 k a λh a=>bG c a λo a=>bG c a λp a=>(.mj b d h o p,a)
 |3=>λa=>bG c a λb a=>bG c a λd a=>(.ml b d,a)
 |4=>λa=>cN a λb a=>r7 k a λd a=>bG c a λh a=>(.mh b d h,a)
 |5=>λa=>cN a λb a=>cN a λd a=>r7 k a λh a=>bG c a λo a=>bG c a λp a=>(.jx b d h o p,a)
 |_=>λa=>cN a λr a=>(IE r,a)
def Ab(b:List hE)(c:Nat)(a:Nat):Υ->c4×Υ:=
 match a/8 with
 |0=>IN b c (a%8)
 |1=>IP b c (a%8)
 |2=>IQ b c (a%8)
 |3=>IS b c (a%8)
 |4=>IT b c (a%8)
 |5=>IU b c (a%8)
 |_=>IV b c (a%8)
def np(c:List hE):Nat->Nat->Option (Nat×Bool)->Υ->List bW×Nat×Υ
 |0,b,_,a=>([],b,a)
 |p+1,b,d,a=>im a λh a=>
  if h<55 then match Ab c b h a with|(r,a)=>match np c p (b+1) d a with|(k,o,a)=>(⟨β (b+1),r,d⟩::k,o,a)
  else if h=55 then cN a λx a=>im a λh a=>match Ab c b h a with|(r,a)=>match x with
   |0=>match np c p b d a with|(k,o,a)=>(⟨ε,r,d⟩::k,o,a)
   |x+1=>match np c p x d a with|(k,o,a)=>(⟨β x,r,d⟩::k,o,a)
  else if h=56 then([],b,a)
  else cN a λy a=>np c p b (if y=0 then ε else β (y/2 - 1,if y%2=1 then η else ι)) a
def nq(c:List hE):Nat->Nat->Υ->dM×Nat×Υ
 |0,b,a=>(.skip,b,a)
 |d+1,b,a=>im a λr a=>match r with
  |0=>(.skip,b,a)
  |1=>match np c d b ε a with|(h,b,a)=>(.plain h,b,a)
  |2=>match np c d b ε a with|(h,b,a)=>(.draw h ((ψ (α h)).map aY),b,a)
  |3=>match nq c d b a with|(k,b,a)=>match nq c d b a with|(o,b,a)=>(.seq k o,b,a)
  |4=>bG b a λx a=>match nq c d b a with|(k,b,a)=>match nq c d b a with|(o,b,a)=>(.cond x k o,b,a)
  |5=>cN a λp a=>match nq c d b a with|(k,b,a)=>(.block p k,b,a)
  |6=>match nq c d b a with|(k,b,a)=>(.loop k,b,a)
  |7=>cN a λp a=>(.exit p,b,a)
  |8=>(.ret,b,a)
  |9=>(.refuse,b,a)
  |10=>match np c d b ε a with|(h,b,a)=>cN a λy a=>oC IL y a λz a=>(.draw h z,b,a)
  |_=>match np c d b ε a with|(h,b,a)=>match nq c d b a with|(o,b,a)=>(.seq (.plain h) o,b,a)
def IW(h:List hE)(b:List Char):ar:=
 cN (b.map λc=>IF c.toNat) λk a=>cN a λd a=>im a λb a=>oC IM b a λo a=>match nq h 999 d a with|(c,_,_)=>⟨k,d,c,o⟩
abbrev ax(a b:Nat)(c:ar):Prop:=di γ a b=β c
variable{e i v M b9 h9:Nat}
def ay{a:ar}(b:di γ e i=β a:=by kernel_rfl):ax e i a:=b
abbrev az(q:String){a:List Char}{b:Χ->Χ->Χ->Χ->Χ->Χ->Χ->Χ->Χ->Χ->Χ->Χ->Χ->Χ->Χ->Χ->Χ->Χ->Χ->Χ->Χ->Χ->Χ->Χ->Χ->Χ->Χ->Χ->Χ->ar}(_:String.ofList a=q:=by rfl)(_:∀c d h k o p r x y z C D E F G L P S T V W e f g i j l m n:Χ,IW [c,d,h,k,o,p,r,x,y,z,C,D,E,F,G,L,P,S,T,V,W,e,f,g,i,j,l,m,n] a=b c d h k o p r x y z C D E F G L P S T V W e f g i j l m n:=by intros;conv=>lhs;cbv):ar:=
 b (((ζ 32 (.v (.int .u8 0))):Χ)++([(.J [] .nil),(.J [] .nil)]:Χ)++([(.v (.int .i64 0)),(.v (.int .i64 0))]:Χ)++([(.J [] .nil)]:Χ)) [(.J [] .nil),(.J [] .nil)] [(.v (.int .u8 0)),(.J [] .nil),(.J [] .nil)] (([(.v (.string ⟨#[]⟩))]:Χ)++([(.J [] .nil)]:Χ)++((ζ 32 (.v (.int .u8 0))):Χ)++([(.J [] .nil),(.J [] .nil)]:Χ)++([(.v (.int .i64 0)),(.v (.int .i64 0))]:Χ)++([(.J [] .nil)]:Χ)++((ζ 32 (.v (.int .u8 0))):Χ)++([(.J [] .nil),(.J [] .nil)]:Χ)++([(.v (.int .i64 0)),(.v (.int .i64 0))]:Χ)++([(.J [] .nil)]:Χ)) [(.v (.int .u64 0)),(.v (.int .u64 0))] [(.J [] .nil),(.v (.bool ι))] (ζ 32 (.v (.int .u8 0))) [(.v (.bool ι)),(.J [] .nil),(.J [] .nil)] [(.v (.pointer ε)),(.v (.int .i64 0))] [(.J [] .nil),(.v (.int .i64 0))] (ζ 8 (.v (.int .u32 0))) (ζ 64 (.v (.int .u32 0))) [(.J [] .nil)] [(.J [] .nil),(.v (.bool ι)),(.v (.pointer ε)),(.v (.pointer ε))] (ζ 5 (.v .nilFunc)) [(.v (.string ⟨#[]⟩)),(.J [] .nil),(.J [] .nil),(.v (.pointer ε)),(.v (.pointer ε))] [(.v (.int .i64 0))] (((ζ 32 (.v (.int .u8 0))):Χ)++([(.J [] .nil),(.J [] .nil)]:Χ)++([(.v (.int .i64 0)),(.v (.int .i64 0))]:Χ)++([(.J [] .nil)]:Χ)++([(.v (.int .u64 0)),(.v (.int .u64 0))]:Χ)++([(.v (.int .i64 0)),(.v (.int .i64 0))]:Χ)) [(.v (.map ε)),(.J [] .nil),(.J [] .nil),(.v (.bool ι))] [(.v (.pointer ε)),(.J [] .nil)] [(.v (.int .u8 0)),(.v (.int .i64 0)),(.J [] .nil)] [(.J [] .nil),(.v (.map ε))] (((ζ 32 (.v (.int .u8 0))):Χ)++([(.J [] .nil),(.J [] .nil)]:Χ)++([(.v (.int .i64 0)),(.v (.int .i64 0))]:Χ)++([(.J [] .nil)]:Χ)++((ζ 32 (.v (.int .u8 0))):Χ)++([(.J [] .nil),(.J [] .nil)]:Χ)++([(.v (.int .i64 0)),(.v (.int .i64 0))]:Χ)++([(.J [] .nil)]:Χ)) [(.J [] .nil),(.J [] .nil),(.v (.int .u8 0)),(.v (.int .i64 0)),(.J [] .nil),(.v (.int .i64 0)),(.v (.bool ι))] [(.v (.int .u8 0)),(.v (.string ⟨#[]⟩)),(.J [] .nil),(.J [] .nil)] (((ζ 8 (.v (.int .u32 0))):Χ)++([(.J [] .nil)]:Χ)++([(.v (.int .u64 0))]:Χ)) [(.v (.pointer ε)),(.J [] .nil),(.J [] .nil),(.v (.int .u8 0)),(.v (.int .i64 0)),(.J [] .nil),(.v (.int .i64 0)),(.v (.bool ι)),(.v (.int .i64 0)),(.J [] .nil),(.v (.int .i64 0)),(.v (.int .i64 0)),(.v (.int .i64 0)),(.J [] .nil)] [(.v (.int .u8 0))] [(.v (.int .u32 0))]
def IX:ar:=az "+b3dbgal3haL4dl3xdgarcu4eul3haL4iadl3zacdhbu4eul3haO4ial3Bdsa3iau4l3CaaaaqbcabvbbuaaqaeJbMIbMGcvKbu3jpWa3afLi,F4l3IaheLiabdodwvu3Hau3Miuaizb3kava,M4l3PaheLiabdwdwvu3Oau3Tiuaizb3mava,T4dl3VabmuMau5+bBabwuP5alwOu4eulaksuMau5+bNamsuM5alwOuau5+bVajgualgujwuwuK5alAOu4eul3haL4ial3?aksuYau5+b?ajguwuK5alxOuau5+cgamsuK5alwOuau5+coalgusuM5alxOu4eul3haL4ial3+bnacdibu3+bmau3+bpiuaixb3oava,+bp4dl3+branOauQ4eul3haO4ial3+btandkbudxbu3qau4l3+bxdybN3+bwau3+byiuaiwb3rava,+by4l3+bBanvbcuQdybu3+bAau3+bEiuaiyb3tava,+bE4l3+bHandzavbcvudybu3+bGau3+bLiuaizb3vava,+bL4l3+bNarouMau5+dmatouM5alwuLau5+dua,vouM5alwuLau5+dCandkbudxbuapovu5alzuL3hau4i"
def IY:ax 0 5 IX:=ay
def IZ:ar:=az "+blabaal3baL4l3ldsa3cak4l3nabvbbMvbbSvbcnodAdmpM3maq3silailb3dpWa3afLcras4l3vabeLcdodvuM3uau3yitaitb3fava,y4dk3BdsaeLcdwdvuM3Aau3Eiuaiyb3hava,E4ibaaaabbcaadaaeaafaagaahaal3HabeLcdwdvuM3Gau3Kiuaiyb3java,K4dc3MadouKau5+bkafouK5alwuLau5+bsahouK5alwuLau5+bAajouK5alwuLau5+bIaeguouM5alxuLau5+bSaehGuKeGucaceGu2a5alAuLau5+b8agguouM5alxuLau5+b,aghGuKeGucaceGu2b5alAuLau5+cpaiguouK5alxuL3bau4i"
def J0:ax 0 6 IZ:=ay
def J1:ar:=az "7bbcalaL4dl3gaagfwg,+p64ehl3daO4iadlaK4fagdl3jadaagjmik4elahadfbdl3paaadheopcbqbrTswt,+oSau5Saaadhevuccubuguwu,+oT5alBOuau5:aaadhevucdubuguwu,+p75alBOu4eul3daO4ial3faK4fcgdl3OaeaaadhevuccubugumAu4euahcdfdl3YaaadhevuccubuaehbvubuTuwu,+oS4eul3daO4iab3WaejuM3fau4b3nadjmM3ean4l3daL4i"
def J2:ax 0 7 J1:=ay
def J3:ar:=az "TbccadalaQaQ4l3ldzaqman8l3fakam4dlaK4fagdl3oagaagomnpaq5Lagms,+p85alrtL4euahadfbl3yaeaaaghevueeudBcyu4bafaaaghevueeudCcyu4b3wagjuM3hau4dl3LaedkbudDbu3Kau3Oiuaiybizc3iawa,Oa,P4l3Raj4eul3daQaQ4ial3Saeaf3dava,S4i"
def J4:ax 0 8 J3:=ay
def J5:ar:=az "hbbcalaQ4laakdcaebf3dag4i"
def J6:ax 0 10 J5:=ay
def J7:ar:=az "odcgahalnWb3haNaK4laaeLeacdJeijk*ilailb3haman4i"
def Ac:ax 0 14 J7:=ay
def J8:ar:=az "eabaal3baQ4l2fqsbabbn+bJc3bad4i"
def J9:ax 0 18 J8:=ay
def Ja:ar:=az "vcceafalnQbaNaK4dc3kaakjcakbleGd2g3jao3qiiaiib3hapaq4dl3sahrcr4esl3faNa44ial3uagdObt3fauaK4i"
def Jb:ax 0 19 Ja:=ay
def Jc:ar:=az "2cbecGl3fpQg4l3jabdPbi3gpQg3afGfj4ddc3maaklcambneGf2h3laq3sikaikb3haras4fal3vahrcu3uau4etk3xaakucaubueGfabdObu3a2i4iaaabaacaadaaeaafaagacdehaal3Faakucduburcuau5+bcagabdQcvurcu5alyuL3Eau4eub3QaaaaaaagabdObukzcbu3afbuykAccu3afbuykBcdu3afbuO4aleGf3afGeu4i"
def Jd:ax 0 20 Jc:=ay
def Je:ar:=az "rcbealnQbaL4dc3jaakicajbkeGd2j3ian3pihaihb3gaoap4l3rag3faq4i"
def Jf:ax 0 21 Je:=ay
def Jg:ar:=az "odcgahalnWb3haNaK4laaeLeacdJeijk,+oUilailb3haman4i"
def Ad:ax 0 22 Jg:=ay
def Jh:ar:=az "ibbcalaK4laakdcaebf2k3dah4i"
def Ji:ax 0 23 Jh:=ay
def Jj:ar:=az ";bccadalaKaK4dl3laagkolK4eml3daKaM4ial3odEa3fan4dl3paagoaK4faglmqp4derahadfblhboqbs3hat4dk3vagOauQau5UaahbuKbuOauQ5alyOuau56agdkbuaahbuKbudkbu2l5alBOu4raaabaacaadaaeaafaagaahaaiaajaalaamaanaakabnoaapaaqaaeul3daKaM4iab3MjqM3rau4dl3NaaguaK4fcglmuv4deuahcdfdlhbxvbu3jau4l3TaeaidkbuaidlbudFeywu*3kau4l3ZajsuK4eulaj3daKa,04iab32j,OM3Pau4dk33aahbuKbudkbuaekucaubudRcyu3dauaK4laaabaacaaeaafaagaahaadabhiaajaakaai"
def Ae:ax 0 24 Jj:=ay
def Jk:ar:=az "eabaal3baQ4ldsaqtbabbn+bvc3bad4i"
def Jl:ax 0 25 Jk:=ay
def Jm:ar:=az ":dcgcLhal3hpWaaK4dl3oacabdScnorcp4eqlqaa3afLgr3iaM4ial3tabdTbs3jat4l3vaidUcu+4dl3kaM4fagdl3xajaigumwu4euahadfbdc3DaiajhbvubuaiajyuMhbwubudWczu4eulqaa3afLgu3iaP4iab3BajjuM3kau4l3Oaaacqicabvbbu3lp+bUi3afck,P4dk3SaiaigudZbudYcxueckJ0buadXcwu3Rau30iuaiDb3mava,04naaabaacaafaagaadabfeabfhaaiaajaakaalaamaadl32amsuK4eulqaaam3afLgv3iau4ial36eckald1cvuiuaivb3afLgv3iau4i"
def Jn:ax 0 26 Jm:=ay
def Jo:ar:=az "rcbealn+bhbaK4dl3heedd2bgrch4eil3faM4ial3kqoebb,+p9cb,+p:db,+p;eb,+p<3gp+b5o3afffj4dc3lcadbkAbfflbmaaeedKncop3faq4i"
def Jp:ax 0 27 Jo:=ay
def Jq:ar:=az "+edcbealn+bhbaK4dl3teedd7bsrct4eul3faM4ial3waacbdbud8cwu3gau4dl3AcadbuouW4eudlafCuK4eul3faR4iadl3Faakucaubuguwu54eul3fa84ial3haN4laL4dk3Lcbdbuvbaccdbuxbqwuqpcabybbun4u3jau4jaaabaadaaeaacaafabbgaahaaiaadlaK4fagdl3Tajaakucaubugumzu4euahadfbddc32ahrcuau5+bQaikucaubuaakucaubuajhbvubukucaubumEu5alJuL4eulagaivbbuxbiwu3hau4baO4ab3+bgagaakucaubuajhbvubuvbbuxbiCu3hau4b30ajjuM3kau4dl3+bqahrcu4eubagaivbbuxbiwu3hau4al3+bwaaagkvcau3afbuw4l3faK4iadl3+bAafmuK4eul3faZ4iadl3+bCcadbuouT4eul3laN4dlaK4fcgdl3+bFalaakucaubugumzu4euahcdfdl3+bOalafsvu4eubakaakucaubualhbvubuvbbuxbiCu3lau4ab3+bMaljuM3mau4l3+b1aaakkvcau3afbuw4l3faK4ial3+b5aakucaubuafhbvubu3nau4ddc3+b<cddbuguamkucbubugujuMsAu4eul3fa:4ial3oaN4laL4dlaK4fegdl3+cdapamkuccubugumzu4euahedffddc3+cmamkuccubuaphbvubuhbuKbucddbuhbuKbuoyu4eudlcadbuouX4eul3faP4iadc3+cDamkuccubuaphbvubucddbud9cwu4eul3paO4hfaab3+cNanamkuccubuaphbvubuvbbuxbyCu3oau4b3+ckapjuM3qau4dc3+cXamkucaubuamkucbubuqpcabybbun4u3rau4dl3+c7cadbuou,+oO4eudlaorcu4eul3fa44ial3+c<aqankvccu3afbuw4dc3+c+aqamkucdubucddbud:cwu3+c*au3+dgiuaiDbkDcdu3afbux4c3+dlaqamkuceubucddbud;cwu3+dkau3+dtiuaiDbkDceu3afbux4laqquaanvbacddbuxbiwuvbbuxbyzud<cBukDccu3afbuw4dc3+dKaqamkucdubucddbud=dwuK3+dJau3+dSiuaiDbkDcdu3afbux4c3+dXaqamkuceubucddbud>cwu3+dWau3+d5iuaiDbkDceu3afbux4lBbaaakucaubuzbiyu3sau4l3+d?arafaqhbwv3afbuv4laaarkvcau3afbuw4l3faK4i"
def Jr:ax 0 28 Jq:=ay
def Js:ar:=az "tbdcadaealaNaNaL4dkaakfcbgbhdObiaakkcclbmdObnaakpcdqbr3dajaoas4raaabaacaadaafaagaahaaiaakaalaamaanaaeacinjabnoaapaaqaai"
def Jt:ax 0 29 Js:=ay
def Ju:ar:=az "eabaal3baQ4l2fqvbbbbn+btc3bad4i"
def Jv:ax 0 30 Ju:=ay
def Jw:ar:=az "oebial3fn+bma3hnWc3jaK4labeLgadJ+a+abed*ejklm3jan4i"
def Jx:ax 0 32 Jw:=ay
def Jy:ar:=az "GeciajalnWb3jaNaK4dl3nacmmMan5EacwpP5aloOq4erl3jaNaM4ial3tdEa3las4dl3uadakaaeLfacKtexwvu3mau4l3AalsuK4eulal3jaNa,B4ial3Dakkucaubu3jauaK4i"
def Af:ax 0 35 Jy:=ay
def Jz:ar:=az "oebial3fn+bmanHbnWc3jaK4lbfeLgadJ+boacfed*ejklm3jan4i"
def JA:ax 0 39 Jz:=ay
def JB:ar:=az "ibbcalaN4dlaaQad4eel3daN4ial3gvbaaaxbbfg3dah4i"
def JC:ax 0 40 JB:=ay
def JD:ar:=az "gbbccGlpQg4laad+bqbdd+bpbe3afGcf4i"
def JE:ax 0 41 JD:=ay
def JF:ar:=az "kcbeal3faL4laaVfabVhogi3faj4i"
def JG:ax 0 42 JF:=ay
def JH:ar:=az "rcbeal3dnda3faL4lbcCfMag5rbcHiP5alhjLak5zabJ+bsabcd+brcmnrco5allpL3faq4i"
def JI:ax 0 44 JH:=ay
def JJ:ar:=az "ibbcalaN4dlaaQad4eel3daN4ial3gvbaaaxbyfg3dah4i"
def JK:ax 0 45 JJ:=ay
def JL:ar:=az "ibbcalaN4dlaaQad4eel3daN4ial3gBbaaazbyfg3dah4i"
def JM:ax 6 45 JL:=ay
def JN:ar:=az "ocal3gaagf3fag4b3iaaaeaeuhjd+bubkabd+btfhKilm4"
def JO:ax 0 46 JN:=ay
def JP:ar:=az "ncbeal3faK4dfal3haaabd+bvcgh3gai4efl3faU4il3labaad+bvckl3kam4ejl3faM4ial3faK4i"
def JQ:ax 0 47 JP:=ay
def JR:ar:=az "Acbeal3faL4dl3haaggabgishj4ekl3faL4iadl3maaglaK4faglmnm4deoahadfblan3gap4dc3raaafhbqrbsabafhbvubustu4eul3faL4iab3AjnM3oau4l3faO4i"
def JS:ax 0 48 JR:=ay
def JT:ar:=az "Gcceafal3faNaK4laN4dl3maaglaK4faglmnm4deoahadfblhblnbp3jaq4l3tabaiKsbt3sau3wirairb3kpWa3afLj,va,w4dl3yaksuK4eulak3faNa,z4iab3BageLjBLbuzL+bXwu3hau4b3FjnM3oau4l3Gag3fauaK4i"
def JU:ax 1 49 JT:=ay
def JV:ar:=az "Ncbeal3faN4laN4dl3jabaK4faglmji4dekahadfblaj3hal4l3naagmabagyopMnq3iar4dl3taagsabagyvuLtuwuK4eubahjuM3iau4al3CafaaahFbvabudTbuvbbuxbyzu3gau4b3JaaahFbvbua3bau4b3MjjM3kau4l3Naf3fau4i"
def JW:ax 0 50 JV:=ay
def JX:ar:=az "hbbcalaK4laajdRyeMMfR3dag4i"
def JY:ax 0 51 JX:=ay
def JZ:ar:=az "GccecLfal3dn+bUa3fpWaaK4l3kqcbabT3hp+crc3afdgj4dl3labgkaK4faglmml4denahadfblhbkmbo3jap4b3rcbgbqaiqfcabsbbOvcbtxcGrucbg3afbuv4bjmM3nau4l3zcacbuedgcbcbud+bwdxwuiuaivb3afLev3gau4i"
def K0:ax 0 52 JZ:=ay
def K1:ar:=az "IccecLfal3dn+bUa3fpWaaK4dfagdl3jabgiwjM4ekahafbdk3nababgndZbod+bycmpeccJ+bzbrad+bxcqs3mat3vilailb3hava,v4naaabaacaafaagaadabfeabfhaaiaajaakaalaamaadl3xahsuK4eulqaaah3afLev3gau4iab3Bag3cau4dl3CabguouK4eulqaa3afLeu3gaK4ial3GabhLuKeLu3afLeu3gaK4i"
def K2:ax 0 53 K1:=ay
def K3:ar:=az "Zbbcal3cn+bhaaL4dlcbbbdd+bAbercf4egl3daL4iadl3icabbh4fal3loiW3kak4ejl3mccbbld+bBbman5FcdbbpgqorK5alosL3dat4il3woiT3vau4eul3xccbbuguouKau53cdbbuguouK5alyuL3dau4idl3IoiX3Hau4euab3Joi,+oO3Hau4eul3KccbbuguouKau5+bkcdbbuguCuS5alyuLau5+bwcdbbuguHuP5alyuL3dau4ial3daL4i"
def K4:ax 0 54 K3:=ay
def K5:ar:=az "Ccbealn+bhbaK4dk3jaakicbjbkcbdbmccdbod+bDbpqdcabnbbqd+bCclr3ias3uihaihb3gata,u4qaaabaacaadaaeaafaagaahaaiacdfjaakaalaamaanaaoaapaadl3wagouK4eubaaafkvcbu3afbuw4alag3fau4i"
def K6:ax 0 55 K5:=ay
def K7:ar:=az "ycbealn+bhbaK4dc3jaakicbjbkcbdbmd+bEcln3iao3qihaihb3gapaq4dl3sagorK4esbaaafktcbu3afbuw4alag3fau4i"
def K8:ax 0 56 K7:=ay
def K9:ar:=az "Pcbealn+bhbaK4l3laaeedd+bFckl3kam3oijaijb3gpYd3af+bffnao4dl3qagspK4eqlag3far4iadc3uaacbdbucddbuhbuKbud+bGdtyu3tau3Cisaisbisc3iawa,C3ha,D4dfal3GagsuK3Fau4eul3Iag3fau4il3Kai3Jau4eul3faP4ial3Laae+bffcddbud+bHfxwu,+p=,+p>3fau4i"
def Ka:ax 0 57 K9:=ay
def Kb:ar:=az "vcbealn+bhbaK4l3jaaeedd+bFcij3iak3mihaihb3gpYd3af+bfflam4dl3oagsnK4eolag3fap4ial3raae+bffcddbsd+bHfqrt,+p?,+p*3fau4i"
def Kc:ax 0 58 Kb:=ay
def Kd:ar:=az "+bGbbcal3cn+bhaaL4dl3gcbbbfd+bMbgrch4eil3daL4iadl3kcabbjokW4eldl3eaK4fagdl3nadccbbngommp4eqahadfbdl3uccbbtadhbvubud+bMburcuau52ccbbuadhbvubuou,+oV5alAOu4eul3daL4ial3faK4fcgdl3Jaeadmvu4euahcdfddc3Occbbuaehbvubuccbbuadhbvubuozu4eul3daL4iab3MaejuM3fau4b3sadjrM3eas4l3ZccbbuguwuKau5+bOccbbugumuP5alyuLau5+b0cdbbuguouK5alyuL3dau4iadl3?cabbuouT4eulccbbugucdbbugujxuouK3dau4ial3+bhcabbuouXau5+cucabbuou,+oO5alxOuau5+cFccbbuguouK5alyuLau5+cRcdbbuguwuM5alyuLau5+c3cdbbugumu45alyuL3dau4i"
def Ke:ax 1 59 Kd:=ay
def Kf:ar:=az "Ccbeal3faK4dlaK4fagdlafaakhcaibjgkmgl4emahadfbl3qaakpcaqbrafhbstbukucaubuabovu4eulaf3fau4iab3oafjnM3gao4l3faU4i"
def Kg:ax 0 60 Kf:=ay
def Kh:ar:=az "Acbeal3faL4dl3haaggabgishj4ekl3faL4iadlaK4fagdl3mafaagmmln4eoahadfbdc3saaafhbrsbtabafhbvubusyu4eul3faL4iab3qafjpM3gaq4l3faO4i"
def Ki:ax 0 61 Kh:=ay
def Kj:ar:=az "Dcceafal3faQaL4l3kaaabd+bNdjkK3jal3niiaiib3haman4dl3pahao5Hagd+bObqgrESsagd+bPbumtu5alpuL4eubagd+bObud+bQcuK3hau4al3Cagah3fava,C4i"
def Kk:ax 0 62 Kj:=ay
def Kl:ar:=az "Pcceafal3faQaL4dl3iaad+bSbhabd+bRcijrck4ellaa3famaL4ial3oaaabd+bTcno3hap4dl3ragkqcbrbsgtouM4eulagkucbubuhbuKbu3fauaO4iaddc3DagkucbubuguagkucaubugujzuouK4eul3faQaO4ial3Pag3fauaO4i"
def Km:ax 0 63 Kl:=ay
def Kn:ar:=az "+blcbeal3dn+b=a3faN4laN4dlaK4fagdl3lagabglmkm4enahadfbdc3redcabaghbrsbtgud+bUcqurcuau5YabaghbvubuguabhbuKbugusyu5alEOu4eul3faN4iab3pagjoM3hap4dlaK4fcgdl3Lahabgumwu4euahcdfdl3jaN4laK4dfegddc3Rajafgumwuau5+byedcabahhbvubuafajhbvubud+bVdCyurcu5alFuL4euahefflaiafajhbvubuvbbuxbyzu3jau4b3?ajjuM3kau4l3+a+aiabahhbvubuvbbuxbyzu3jau4l3+bfaiafajFbvbuaxbyxu3jau4b3+bkai3gau4b3PahjuM3iau4l3+blaf3fau4i"
def Ko:ax 0 64 Kn:=ay
def Kp:ar:=az "+bvdcgahal3haQaL4dl3laaOakQ4ellabqncabmbbOn+bDn3haoaO4iadc3qaakpcaqbraaktcbubuaakuccubuaakucdubuqneabsbbCcbydbun+bDu3jau4dl3Iaakucaubuabd9cvu4eulaikucbu3afbuO4dkaiacd+bWcvuaakucbuburcu3haza,X4kaaabaadaaeaafaagaahaacabgiaajaaial3kaL4ddc3ZabaakucaubuacabguLwud+bXdCyu4eub3:aiaakuccubuabacjuMd=dxwu39au3+baiuaiEbkEccu3afbux3kaw4b3+bfaiaakucdubuabacjuMd=dxwu3+beau3+boiuaiEbkEcdu3afbux3kaw4l3+bsaiacd+bWcvuaj3hava,+bu4i"
def Ag:ax 0 65 Kp:=ay
def Kq:ar:=az "vcceafal3faQaL4dlaaOagQ4ehlabvbbiqbbabjn+bGk3falaO4iadl3naad+bSbmabd+bRcno4eplaa3faqaL4ial3saaabd+bZcrsd+bYbt3fauaO4i"
def Ah:ax 0 66 Kq:=ay
def Kr:ar:=az "hbbcal3cnYaaK4lcbbbdgejfM3dag4i"
def Ks:ax 0 67 Kr:=ay
def Kt:ar:=az "WebialnWb3jaK4dl3peLfd+b0boap5IadeLfKrbsrct5alqOu4eul3jaK4ial3yaaeLfacd+b1dwvu3xau3Ciuaizb3kp+crc3afdj,Ba,C4dl3EaksuK4eulak3jau4iadl3HccjbuguaK4faglmuv4deuahadfblhLxveLu3npWa3afLm,M4l3OaaeLmacadd*exwvu3oau4l3TansuK4eulan3jau4iab3Wj,JM3Kau4l3jaK4i"
def Ku:ax 0 68 Kt:=ay
def Kv:ar:=az "ibbdalnWaaL4lbbcaceGfd+a,ceg3eah4i"
def Kw:ax 0 69 Kv:=ay
def Kx:ar:=az "AcbealnQbaL4ddcaakfcbgbheGd2q4ekl3faL4iadc3maaklcbmbneGd3a2r4dcaaaakrcasbteGdvGbuxGGwukqcau3afbuw4l3faO4i"
def Ky:ax 0 70 Kx:=ay
def Kz:ar:=az "IbbcalaL4dl3gaagfaK4faglmhg4deiahadfblahh+bffhe+bfk3fpYd3eaj3af+bfel4dc3ne+bfed+b2bmrcnao5GadwqKar5NaaadyuMh+bftucaubucaebuCwu5GlsuL5alpOu4eul3daL4iab3FjhM3iau4l3GaaguHuP3dau4i"
def KA:ax 0 71 Kz:=ay
def KB:ar:=az "icab3faaabvbbfd+b3deOg4"
def KC:ax 0 72 KB:=ay
def KD:ar:=az "nbbcalaN4dlaakdcbebfsgK4ehl3daN4ial3jaakicajbkd+b7bl3dam4i"
def KE:ax 0 75 KD:=ay
def KF:ar:=az "hbbcalaK4laakdcbebf3dag4i"
def KG:ax 0 76 KF:=ay
def KH:ar:=az "hbbcalaQ4laad+b7bdqjbaben+c6f3dag4i"
def KI:ax 0 77 KH:=ay
def KJ:ar:=az "pbbcala14l3haad+b8cgM3gah3jifaifb3eaiaj4dl3laerck4ell3da14ial3nadhbmKbn3dao4i"
def KK:ax 0 78 KJ:=ay
def KL:ar:=az "pbbcalaK4dlaakdcaebfggwhK4eibaad+b;cj,+p+4alaaklcbmbn3dao4i"
def KM:ax 0 80 KL:=ay
def KN:ar:=az "Acbeal3faL4dl3haaggabgishj4ekl3faL4iadl3maaglaK4faglmnm4deoahadfblan3gap4dc3raaafhbqrbsabafhbvubustu4eul3faL4iab3AjnM3oau4l3faO4i"
def KO:ax 0 81 KN:=ay
def KP:ar:=az "obbeal3enWaaL4dlbbcadeGgdvcfhrci4ejlbccadeGld+a,ckm4l3faL4ial3faO4i"
def KQ:ax 0 85 KP:=ay
def KR:ar:=az "kbbccGlpQg4l3fd+b?a3eae4l3gadaad+b*cfg4ladd+b+bi3afGcj4i"
def KS:ax 0 86 KR:=ay
def KT:ar:=az "gbbcalaN4laavbbdd+b,c,+oWe3daf4i"
def KU:ax 0 87 KT:=ay
def KV:ar:=az "jcbeal3faL4laaabd+cacfgChK3fai4i"
def KW:ax 0 88 KV:=ay
def KX:ar:=az "ibbdal3eaL4laagebbsfg3eah4i"
def KY:ax 0 89 KX:=ay
def KZ:ar:=az "+cgfal3laO4laO4fagfbl3wacabyvu3nau4dl3zamHu,+p,4eulaaabacaed+cbexwvu4iadladouK4eulaaabacaed+ccexwvu4iadlakrcu4eulaaabacaed+cdexwvu4badyuM3eau4al3Xaaabacaed+ceexwvu3Wau32iuaiAb3oava,24dl34aoouS4eulaaabacaed+cfexwvu4lacyuManabyvuyxu3oau4baM4adl3+a+akau5+b,al5alvuLau5+cfaoouM5alwuL4eulaaabacaed+cgexwvu4euiaaddcabwuKau5+cBaeaaabyuMhbwubuaaanhbvubuKDcyumuKrcu5alHuL4eulaaabacanaed+chfyxwvu3qau4l3+bIap3cau4hbal3+bKaaabacanaed+cifyxwvu3+bJau3+bQiuaiBb3rava,+bQ4l3+bSar3mau4l3+bTaqabyvuacaqyvu3taxa,+bX4l3+bZamMuP3vau4l3+b1asatmvu4eulasa,uCvu3lau4l3+b7aaabaqadaed+btfyxwvu4baqjuM3cau4l3+b?ata,uCvu3lau4l3+b,aaaqjuMacadaed+btfzxwvu4baq3dau4"
def L0:ax 0 90 KZ:=ay
def L1:ar:=az "ibbcalaK4deLlaaugdd+cjbe3daf4ial3haad+ckbg3dah4i"
def L2:ax 0 91 L1:=ay
def L3:ar:=az "6cbeal3faL4dl3kaagjd+clbkrclam5Cabgoaagqspr5alnOs4etl3faL4ialaKa34dl3vaaguaK4faglmuv4deuahadfblav3iau4dk3Aaaahhbvubud+cmbuabahhbvubud+cmbuDzu3jau4maaabaacaadaafaagaahaaiaaeabijaakaalaal3Lagaimvuau5+bkagagaiDvumxu5alzuL4eubahai3gava,V4ab3Xj,wM3xau4dc3Yaaafhbvubuabafhbvubumyu3fau4i"
def L4:ax 0 92 L3:=ay
def L5:ar:=az "GdcgcLhaln+crb3hpWaaK4l3oedeacd+cncno3nap3rimaimb3jpWa3afLiqar4dl3tajssK4etlqaaaj3afLgv3iau4ial3yedeacd+cocvu3xau3Biuaiyb3lava,B4l3Daaakducvu4leLi3afLgu3iaK4i"
def L6:ax 0 93 L5:=ay
def L7:ar:=az "Gcceafal3faNaK4laN4dl3maaglaK4faglmnm4deoahadfblhblnbp3jaq4l3tabaiKsbt3sau3wirairb3kpWa3afLj,va,w4dl3yaksuK4eulak3faNa,z4iab3BageLjBLbuzL+bXwu3hau4b3FjnM3oau4l3Gag3fauaK4i"
def L8:ax 1 94 L7:=ay
def L9:ar:=az "Ncbeal3faN4laN4dl3jabaK4faglmji4dekahadfblaj3hal4l3naagmabagyopMnq3iar4dl3taagsabagyvuLtuwuK4eubahjuM3iau4al3CafaaahFLvabud+cpbuvbbuxbyzu3gau4b3JaaahFLvbua3bau4b3MjjM3kau4l3Naf3fau4i"
def La:ax 0 95 L9:=ay
def Lb:ar:=az "pccecLfal3dn+bUa3fpWaaK4lcacbgabqccabXcbicbcbkd+bwdhjlimaimb3afLen3gao4i"
def Lc:ax 0 96 Lb:=ay
def Ld:ar:=az "SbbcalaL4dl3haa2s4fagl2tiia4dejahafbliibiic3eakal4l3naeCm,+qaan5FaeHp,+qb5aloqL3gar4l3tafrcsat5RadouKau5Waemu,+qcau52aewu,+qd5WlwOuau5;aesu,+qe5WlwuL5RlEOu5alIuL4eul3daL4ial3LaaTuCuMau5+bkaaTuHu25alxuL3dau4i"
def Le:ax 0 97 Ld:=ay
def Lf:ar:=az "JbbcalaL4dl3gaagfaK4faglmhg4deiahadfblahhbfhbk3eajal4l3naed+bAbmrcnao5Gaeoq,+oV5alpOras5OaaadFbvabuaed+cqcvu5altOu4eul3daL4iab3BjhM3iau4l3CaaguCuMau5;aaguHu55alxuL3dau4i"
def Lg:ax 0 98 Lf:=ay
def Lh:ar:=az "JcceafalnYbaNaK4dl3jaad+babircjak5ye+bfdd+b2bmrcn5allOo4epl3faNaM4ial3saacadbsd+crcrt3rau3wiqaiqb3hava,w4dfal3zah3yau4eul3faNaR4il3BaaguCuP3Aau4eul3faNa84iadk3Eaad+ctbuage+bfdB+bfbud+csdxwu3fauaK4iaaacaadaabbebdeaafaagaahaai"
def Li:ax 6 99 Lh:=ay
def Lj:ar:=az "ibbcalaN4dlaaQad4eel3daN4ial3gvbaaaxbqfg3dah4i"
def Lk:ax 0 100 Lj:=ay
def Ll:ar:=az "zcceafal3faNaK4dl3jaad+babircj4ekl3faNaM4ial3naaabd+crcmn3mao3qilailb3hapaq4dl3sahrcr4esl3faNaZ4ial3uaad+ctbtagagjuMd+cudxwu3fauaK4i"
def Lm:ax 0 101 Ll:=ay
def Ln:ar:=az "Fccec+bffaln+bhbpYdaK4dk3kaakjcbkblcbdbnd+cvcmo3jap3riiaiib3hpYd3af+bfgqar4naaabaacaadaaeaafaagbkahaaiaajaakaalaamaadfal3uahrct3tau4esl3we+bfg3af+bfeu3gaZ4idk3ycddbugue+bfgd?buswu3xau4haaabaacaadaaeabbfaagaaeul3Ee+bfg3af+bfeu3ga:4ial3Fe+bfg3af+bfeu3gaK4i"
def Lo:ax 0 102 Ln:=ay
def Lp:ar:=az "=ddgahaial3haNaLaK4l3raakqcbrbsabd+cvctu3qau3xipaipb3kpYd3af+bfj,wa,x4dl3zakrcu4eul3haNaLaZ4ial3Be+bfjd?bud+cwbu3mpUb3afcl,C4dk3EcalbucblbuacachbyK3afbuwhbxK3afbuw4kaaabaacaadaaeaafaagaahabdiaajaadk3NaakucaubuccjeLueclqxcacufbMe+bfjd?bud+cxeAywu3Mau3YiuaiGbiHc3np+dAj3afcm,Xa,Ya,Z4taaabaacaadaaeaafaagaahaaiaajbpddfgkbpalaamaanaaoaapaaqaaraasaadl31aosuKau5+bNcambuguouK5alyOu4eulao3haNaLa,84ial3:cambuhbuKbu3hauaOaK4i"
def Lq:ax 0 103 Lp:=ay
def Lr:ar:=az "+a,fbkalnYb3laK4l3re+bfgd?bq3mar4dk3uadaakucaubuccgeLuacalKteywvu3tau3Eisaisb3npWa3afLm,Da,E4qaaabaacaadaaeaafaagaahaaiaajbnakaalaamaanaaoaapaadl3GansuK4eulan3lau4iadk3KaeaakucaubucNgeLuacalKCeywvu3Jau3UiuaiFb3ppWa3afLo,T3oa,U4qaaabaacaadaaeaafaagaahaaiaajbnakaalaamaanaaoaapaadl3WansuK4eulan3lau4iadk3ZeLmeLoccg3afLuwcNg3afLuw4gaaabaacaadabbeaafaadc34aakucbubue+bfgd+cycvu33au3:iuaiBb3qav3oa,:4dl3<anouK4eubaaapkvcbu3afbuw4alan3lau4i"
def Ls:ax 0 104 Lr:=ay
def Lt:ar:=az "yecicLjalnWb3jpWaaK4dladacvbbld+czckmrcn4eolqaa3afLip3kaM4ial3raaadqicabqbbreLfacd+cAestuKiuaivb3afLiv3kau4i"
def Lu:ax 0 105 Lt:=ay
def Lv:ar:=az "UecicLjalnWb3jpWaaK4dl3oadacvbbodScnprcq4erlqaa3afLis3kaM4ial3uaaadqicabtbbu3lp+bUi3afck,v4dl3xeLfd+b0bu4euleckacvbbud0cwuiuaivb3afLiv3kau4ial3GeckeLfacd+cBdwvu3Fau3Kiuaizb3mava,K4dl3MamsuK4eulqaaam3afLiv3kau4ial3Qeckald1cvuiuaivb3afLiv3kau4i"
def Lw:ax 0 106 Lv:=ay
def Lx:ar:=az "TecicLjalnWb3jpWaaK4dl3nadacvbbnd+czcmorcp4eqlqaa3afLir3kaM4ial3taaadqicabsbbt3lp+dGi3afck,u4l3xeckeLfacd+cCewvuK3wau3Biuaizb3afLfv3mau4dl3DalouKau5;cIfbuESucJfbumwu5alAuL4euleckeLfd+cDdvuKiuaivb3afLiv3kau4ial3SeLfal3afLiv3kau4i"
def Ly:ax 0 107 Lx:=ay
def Lz:ar:=az ">ecicLjalnWb3jpWaaK4dl3oadacvbbodScnprcq4erlqaa3afLis3kaM4iadl3ueLfd+b0bt4eulqaa3afLiu3ka44ial3xaaadqicabvbbu3lp+bUi3afck,y4l3BeckeLfacd+cEdwvu3Aau3Fiuaizb3mp+dLh3afdl,Ea,F4dfal3IamsuK3Hau4eul3Kqaaam3afLiv3kau4il3Ncalbuau5+bmcblbuguouK5alyuL3Mau4eul3Vqaa3afLiu3kaK4il3Xcalburcuau5+bIcclbuguouM5alyuL3Wau4eul36cclbuhLuKeLu3afLiu3kaK4ial3:eckedld+cFcvuiuaivb3afLiv3kau4i"
def LA:ax 0 108 Lz:=ay
def LB:ar:=az "YbbcalaL4dlaK4fagdl3iadaaTimhj4ekahadfbl3oaaad2u3fap4l3raeCq,+qfar5NaeHt,+qg5alsuL3gau4l3xaeCu,+qhau5ZaeHu,+qi5alwuL3hau4l3Dafrcuau5;adouKau5*agrcuau5+beaesu,+qj5*lwuL5;lAOu5alEuL4eul3daL4iab3madjlM3eam4l3RaaTuwuKau5+bwaaTumu,+qk5alxuL3dau4i"
def LC:ax 1 109 LB:=ay
def LD:ar:=az "+bndcgahal3haQaL4dl3laaOakQ4ell3haQaL4iadc3naakmcanboaakqcbrbsaakuccubuaakucdubuqneabpbbtcbydbun+bDu3jau4dl3Faakucaubuabd9cvu4eulaikucbu3afbuL4dcaiaakucbubu3haya,R4ial3kaL4ddc3TabaakucaubuacabguLwud+bXdCyu4eub34aiaakuccubuabacjuMd+bNdxwu33au3=iuaiEbkEccu3afbux3kaw4b3+a,aiaakucdubuabacjuMd+bNdxwu3+a+au3+biiuaiEbkEcdu3afbux3kaw4l3+bmaiaj3hava,+bm4i"
def Ai:ax 0 110 LD:=ay
def LF:ar:=az "DbbcalaN4dl3faaOaeQ4efl3daN4iadk3haakgcchbid+bObjaaklcdmbnd+bOboxbykp3eaq4maaabaacaadaafaagaahaaiaaeabijaakaalaadl3saakrcbsbt4eubadaakucaubuvbbuxbyzu3eau4al3Dad3dau4i"
def Aj:ax 0 111 LF:=ay
def LG:ar:=az "rbbcalaK4dlaaOadQ4eel3daK4iadk3gaakfccgbhd+bPbijMjaaklcdmbnd+bPbojkp3daq4naaabaacaadaagaahaaiaajaaeabjfaakaalaamaai"
def Ak:ax 0 112 LG:=ay
def LH:ar:=az "Ocbeal3faQ4dl3iaaghoiK4ejl3faQ4ial3laaabaahbmKbngoLlpd+cGckq3gar4l3tafgsMtS3hau4dk3wafaghbvubuafagFbvabuabjuMd+bQcwuafagjuMFbwbuaabjuMd+bQcwuqneabHbbOcbBdbun+bDu3fau4uaaabaacaadaaeaafaagaahaaiaakaalaamaanaaoaapaajabdqabdraasaataai"
def vI:ax 0 113 LH:=ay
def LI:ar:=az "scbeal3faL4dlaK4fagdlafaaghmgi4ejahadfbl3naaafhbmnboabd9cpq4erl3faO4iab3lafjkM3gal4l3faL4i"
def LJ:ax 0 114 LI:=ay
def LK:ar:=az "HbbcalaN4dl3gaaOafQ4egl3daN4ial3ivbaaakicajbkxbyhl3eam4dlaK4fagdl3oaeaakocbpbqgrmns4etahadfbb3xadaakucbubuaehbvubud+bSbuxbyCu3eau4b3vaejuM3fau4l3Had3dau4i"
def vJ:ax 0 115 LK:=ay
def LL:ar:=az "+cxcbeal3faQ4dl3paakocbpbqgrosK4etlqban+bGu3gau4dlaK4fagdl3xagaakucaubugumzu4euahadfbl3Gaakucaubuaghbvubuabd9cvurcu4eucafafkucaubuaakucaubuaghbvubuBbbuzbyCukHcau3afbuw4ab3EagjuM3hau4l36af3fau4ial37aaabd+cHcvu3iau4l3:Bbaaakucbubuzbiyu3jau4l3*aiahaakucbubuahhbvubuabd+bTcvuhbED3afbuv4ddcaiahhbvubukucaubuguaiahhbvubukucbubugujCuwuM4eulaiqbbbbun+bGu3fau4ial3+bEahyuM3kau4dl3+bGahouK4eub3kaK4adc3+bIaiajhbvubuaiajjuMhbwubu3laza,+bP4laN4dl3+bRaakucbubuahhbvubukucbubuguouK4eukBbaakkucaubuzbyyualkucaubuzbyyud+cIbu3nau4nbaacaadaaeaagaahaaiaajaaaaafabjkaalaamaak3+b?Bbaakkucbubuzbiyualkucbubuzbiyud+cJbu3nau4nbaacaadaaeaagaahaaiaajaaaaafabjkaalaamaalaN4l3+cianaiajtbvabuazbixu3oau4l3+cnanamzbivu3oau4l3+cqanaiajjuStbwbuaazbiyuqbbbbun+bGu3fau4i"
def Al:ax 6 116 LL:=ay
def LM:ar:=az "+bgcbeal3dn+b=a3faL4dlabmfMag5qabwiP5alhOj4ekl3faL4iadl3mcacblom14enlcbcboopKaq5LcccbsgtouK5alruL3fau4iadl3ycacbuouWau52cacbuouT5alxOu4eulcbcbuwuKau5+a,cbcbuouKau5+bicacbuouT5+a,lxuL5alCOuau5+bucbcbuabyuMHwu5alzuLau5+bIcccbuguouK5alyuL3fau4ial36cacbuouXau5+b0cbcbuouK5alxuLau5+b:abwuM5alwuLau5+b,cccbuguabyuMowu5alAuL3fau4i"
def LN:ax 0 117 LM:=ay
def LO:ar:=az "Xdbgal3en+b=a3haL4l3neddabd+cKcmn3mao3qilailb3ip+dUe3afchpaq4l3teddacd+cKcst3sau3wirairb3kp+dUe3afcj,va,w4dl3yaircuau50akrcu5alwOuau58abguacguswu5alzOu4eul3haL4iadl3Lechecj2v4eulechecjd+cLcvu3hau4iadc3RabhbuKbuachbuKbumxu3hau4i"
def LP:ax 0 118 LO:=ay
def LQ:ar:=az "Dcbeal3faQ4dk3haakgcchbid+bPbjaaklcdmbnd+bPboPbdkp3gaq4maaabaacaadaafaagaahaaiaaeabijaakaalaadl3safaad+bPbsEStMuZjuMwru4eulaad+bObuabd+bQcvu3fau4ial3Daa3fau4i"
def LR:ax 0 119 LQ:=ay
def LS:ar:=az "Ydbgal3haL4ddc3jaaachbijbkabachbmnboslp4eqdcaaachbrsbtabachbvubumyu3hau4iadlaK4fagdl3Bahaagumwu4euahadfbdc3Haaahhbvubuabahhbvubusyu4eudcaaahhbvubuabahhbvubumyu3hau4iab3FahjuM3iau4l3haL4i"
def LU:ax 0 120 LS:=ay
def LV:ar:=az "obbcalaQ4dfagdlaagdweM4efahafbbaad+cJbg3bah4dl3jaagiojK4ekl3daQ4ial3maahblKbm3dan4i"
def LW:ax 0 121 LV:=ay
def LX:ar:=az "0cbeal3faN4dl3iaakhcbibjgkolK4emlaakncaobpabd+cMcqrd+cIbs3fat4ial3vaaabd+cHcvu3gau4laN4l3yagaakucbubuafFbvabuxbiAu3hau4l3Gagaakucbubuafhbvubuabd+bZcvuxbiDu3hau4l3RagaakucbubuafjuMFbwbuaxbiBud+cJbu3fau4i"
def Am:ax 0 122 LX:=ay
def LY:ar:=az "gbbcal3cnWaaL4leLbqaad+cNcde3daf4i"
def LZ:ax 0 123 LY:=ay
def M0:ar:=az "WdcgcdhalnWb3hp+crcaK4l3paacaeeGpdtcoq3oar3tinainb3jasat4dl3vajsuK4eulqca3afdgu3iaY4ial3zaiacd+cOcvu3yau3Ciuaiyb3lp+crc3afdk,B3ka,C4dl3EajsuK4eulqca3afdgu3iaY4iadl3Iedkacd+cncvu3Hau3Liuaiyb3mpWa3afLl,Ka,L4l3NamsuKau5+bleLleLed+cNcvurcu5alyOu4eulqca3afdgu3iaY4ial3Wedk3afdgu3iaK4i"
def M1:ax 0 124 M0:=ay
def M3:ar:=az ";bbcal3cnYaaL4l3fe+bfbd?be3eaf4dfal3icabbhcbbbjqydabWbbicbkd2blrcm3han4egl3daL4il3qccbeLpadd+cPcqrrcsat5QcNbeLuadd+cPcvurcu5alzOuau54ccbcIubucNbcIubusxu5alBOuau5+bdccbcKubuguwuK5alzOu3pau4eol3daL4ial3ScNbeLud+b0buau5+bxcNbcKubuguadovuau5+bMcNbcJubucNbcIubuoxu5+bxlBuL5alJOu3dau4i"
def M4:ax 0 125 M3:=ay
def M5:ar:=az "udadl3habrcg4ehlaakicbj3afbk84iabaaaakmcanboacxbbpqklcas3afbtr4"
def M6:ax 0 126 M5:=ay
def M7:ar:=az "vcab3faaabCfKag5rabHi05alhjLabGl<uemabGo6uepabuervbdnqsd+b3dekt4"
def M8:ax 0 127 M7:=ay
def M9:ar:=az "hcal2w4baa2xd+b3deOf4"
def Ma:ax 0 128 M9:=ay
def Mb:ar:=az "Bcadl3habggwh,+ql4eilaakjcbk3afbl84ialaaabgnueod+bbcmp4labgraK4faglmts4deuahadfblhbrtbu3gau4b3yaaafd+cQcvu4bjtM3uau4"
def Mc:ax 0 129 Mb:=ay
def Md:ar:=az "ibbcalaN4dlaaQad4eel3daN4ial3gvbaaaxbbfg3dah4i"
def Me:ax 0 130 Md:=ay
def Mf:ar:=az "Scceafal3faNaL4dl3iaakhcbibjokKal5Babaakocapbqgrwns5almtL4eubaad+b;cu,+oT4adlaakucbubusuK4eul3faNaL4ial3DaakucaubuabFbvabu3hau4l3JaaaakucaubuabFbvbuakAcau3afbuw4lag3fauaO4i"
def Mg:ax 0 131 Mf:=ay
def Mh:ar:=az "ncal3faakecbfbgohK4eibaaabkjcbl3afbmk4a"
def Mi:ax 0 134 Mh:=ay
def Mj:ar:=az "eabaal3baQ4ld+c0aqzbaibn+d<c3bad4i"
def Mk:ax 0 138 Mj:=ay
def Ml:ar:=az "Zcadl3gaakfcjgbhoi34ejbaad+c0akkcam3afinl4alaakocjpbqabgsuhtjrukocju3afbuw4lvbaaakuciubuxbbyuabxbbvu3fau4dfagdl3HaeguCuV4euahafbdcaaaakucaueiuaeFbuabVd+c1cwukBcau3afiuw4baeFbubVa3fau4b3Waaaekvciu3afbuw4"
def Mm:ax 0 139 Ml:=ay
def Mn:ar:=az "+bmbbccGlpQg4l3jaakicajeik3ep+d9k3afidl4dl3naakmcjnboop34eqbd+c0a3afidr4alvbaaaktciubuxbbsuvbb,+oXxbbvu3fau4dfagdl3BaeguLuVsu;4euahafbbaevbb1xbbvu3fau4l3IaeaakucjubuE6ud+c2buxbbAu3fau4dfcgdl3QaeguwuK4euahcdfdc3VeidaeFbuabVd+c1cwu3afidu4b3TaeFbubVa3fau4lpQg4dl3ZeidaK4feglmuP4deuahedfflav2z3hava,24b34agERuagERujuMagERujuSagERujuZahGu,+oYueuahGu<ueuahGu6ueuahueuAbGf,43afbuDAbGf,73afbuBAbGf,:3afbuzAbGfI3afbuy4bj,ZM30au4l3+bmeGf3afGcu4i"
def Mo:ax 0 140 Mn:=ay
def Mp:ar:=az "Acbeal3faN4l3jaavbbi3gaj4dl3labgkaK4faglmml4denahadfblhbkmbo3iap4b3rafahgruhsd+c2btxbbquahxbbvu3gau4b3zjmM3nau4l3Aaf3fau4i"
def Mq:ax 0 141 Mp:=ay
def Mr:ar:=az "tcbeal3faK4dl3haaggaK4faglmih4dejahadfblai3gak4l3mabaaafhbmnboKlbp4eqlaf3far4iab3tjiM3jas4l3faU4i"
def Ms:ax 0 142 Mr:=ay
def Mt:ar:=az "1eal3labjkM3jal4fagdl3naiacmmn4eoahadfbl3sai3kar4fcgddc3tajabwstau5TadaaajhbvubuaaajyuMhbwubuKDczumuK5alGuL4euahcdfdc3MaaajaaajyuMaaajyuMhbwubuaaajhbvubuhbHG3afbuzhbGE3afbuw4b3KajyuM3kau4b3qaijpM3jaq4"
def Mu:ax 0 143 Mt:=ay
def Mv:ar:=az "zbbcalaK4dlaaCd,+qm4eelaaGf73bag4b3da,+oP4adl3iaaCh,+qn4eilaaGj<3bak4b3macjl23dam4adl3oaaCn=4eolaaGp63baq4b3sacjrP3das4al3uacaaueu2Audujtu3dau4i"
def Mw:ax 0 152 Mv:=ay
def Mx:ar:=az "jbbcalaL4laaCdMae5naaHgP5alfhL3dai4i"
def My:ax 0 153 Mx:=ay
def Mz:ar:=az "gbbcala34laauhdDe93daf4i"
def MA:ax 0 154 Mz:=ay
def MC:ar:=az "+bEccecLfal3dn+cra3fpWaaK4l3pedcabd+cocop3oaq3sinainb3haras4dl3uahstK4eulqaaah3afLev3gau4iadk3yagdPbucbcbuguqacaGxJbu3jpWa3afLi,C4iaaacaadaaeaabbgbdfaagaahaadl3EcbcbuguaK4faglmuv4deuahadfblhcxvecu3lp+czf3afck,J4l3Lcbkbu4eulcIibujuMcIi3afbuv4kcGiecucakbud+c9bud+c8cxucGi3afcuv4iaaabaacaadaaeabbfaagaahaaabj,GM3Hau4dl3ZcccbuguaK4fcglmuv4deuahcdfdlhLxveLu3npWa3afLm,44l36cIibucImbujwucIi3afbuv4lcJibucJmbujwucJi3afbuv4bcGiecucGmecud+c8cwucGi3afcuv4bj,1M32au4dl3+bgcJibuwu04eulqaa3afLeu3gaM4iadl3+bkcacbu4fel3+bnouT3+bmau4eub3+bocbcbuhcuKcaubud+c:bucKi3afbuv4l3+bwoDX3+bvau4eub3+bxcccbuhLuKcKubud+c:bucKi3afbuv4aleLi3afLeu3gaK4i"
def MD:ax 0 155 MC:=ay
def ME:ar:=az "+bqcceafal3dn+cra3faNaK4dl3medcabd+c;clmrcn4eol3faNaM4ial3qqjan+cdp3haq4l3sagcacbsd+bbcrt4lagcbcbuguueud+bbcyu4dlcbcbuguaK4faglmuv4deuahadfblhcxvecu3jp+czf3afci,H4l3Jagcbibud+c<cwu4bagcaibud+b6cwu4bjFM3Fau4l3Sagcccbuguueud+bbcyu4dlcccbuguaK4fcglmuv4deuahcdfdlhLxveLu3lpWa3afLk,34l35agcakeGud+b5cwu4lagcIkbud+b4cwu4lagcJkbud+b4cwu4lagcGkcaubud+b6cxu4lagcGkcbubud+b6cxu4bagcKkbud+b6cwu4bj,0M31au4l3+bnagd+bebuagd+bfbu3fawa,+bp4i"
def MF:ax 0 156 ME:=ay
def MG:ar:=az "ibbcalaN4dlaaQad4eel3daN4ial3gvLaaaxL+bXfg3dah4i"
def MH:ax 0 157 MG:=ay
def MI:ar:=az "jcbeal3faL4laaabd+c=cfgChK3fai4i"
def MJ:ax 0 158 MI:=ay
def MK:ar:=az "lcceafal3faKaL4laaabd+c>dgh,+qoiiaiib3fajak4i"
def ML:ax 0 159 MK:=ay
def MM:ar:=az "+bydbgal3haN4l3laaabt+bfkblaa4lacgn3iao4dl3qahopK4eqlaa3har4ial3taags3jat4dl3vabaiovu4eulaaacz+bf+d?vu3hau4iadl3BaiahjvuaaUuwwu4eulaaabt+bfvabuaaiahjvuabyvuY+bf+d?dzu3kau4l3Qajabt+bfvbuaaacI+bfvu4dcajabahjvut+bfxbuaaaaabt+bfvbuaaI+bfxu4laj3hau4ial35aaaiahjvut+bfxabua3bau4dl3:acaaabahjvut+bfxbuaaZzurcu4eudcaaabahjvut+bfxbuaaaaabt+bfvbuaaI+bfxu4laaabt+bfvbuaaacI+bfvu4laa3hau4ial3+boaaait+bfvbuaaacI+bfvu4laaabt+bfvbuaaahd+c+cvu4laa3hau4i"
def An:ax 6 160 MM:=ay
def MN:ar:=az "ibbcalaN4dlaaQad4eel3daN4ial3gB+bfaaaz+bf+d?fg3dah4i"
def MO:ax 6 161 MN:=ay
def MP:ar:=az "Hdbgal3haN4l3jaaabacaaglt+bfibjbkbm4dlabacoop4eqlaa3har4ial3taags3iat4dc3vaaabt+bfvabuaaaact+bfvbuaaz+bf+d?xu3bau4l3Caaaaguaht+bfxbvbua3a0+bfdu4laa3hau4i"
def MQ:ax 6 162 MP:=ay
def MR:ar:=az "vccec+bffal3fpYdaL4dl3jaagiaK4faglmkj4delahadfblh+bfike+bfm3ipYd3af+bfhn4l3pcahboabopq4erle+bfh3af+bfes3gaO4iab3ujkM3lat4l3vqda3af+bfeu3gaL4i"
def MS:ax 0 163 MR:=ay
def MT:ar:=az "rbbccclpUb4dlaamdMae5maawgP5alfOh4eilqba3afccj4ialvbb,+qpaad+c,cklvbb,+qqaad+c,cnoqbcabmbbp3afccq4i"
def MU:ax 0 164 MT:=ay
def MV:ar:=az "+bQediccjakalnWbn+dEc3jp+dAjaKaK4dl3uehgadd+dacturcu4eulqja3afciu3kaKaM4ial3zaaehgadqAdabwbhvibun+equ3mau4dl3EaleLfd+dbcvu4fagdlalkucnubuguwuK4euahafblalkucnubud+dccu,+qr4lalkucnubuhPuKcaueLu3npWa3afLm,X4l3ZalalkucnubutPubMaakzcnu3afbuw4dlaleLmd+decvu4euhbal3;aaeLmadd+b1dwvu3:au3?iuaizb3op+crc3afdn,>a,?4dl3+a+aosuK4eulqja3afciu3kaKaY4ial3+bbalkuclubujuMkyclu3afbuw4dlcbnbuguaK4fcglmuv4deuahcdfdlhcxvecu3rp+czf3afcq,+bn4b3+bpalecqd+dfcvu4bjAM3+blau4l3+btccnbuguaK4feglmuv4deuahedfflhLxveLu3tpWa3afLs,+by4b3+bAaleLsd+dbcvu4bjAM3+bwau4dk3+bEalkucjubualkuckubuqjcabybbualkuclubu3afciy3kauaK4qaaabaacaadaaeaafaagaahaaiaajaakaalaamaanabmoaapaai"
def MW:ax 6 165 MV:=ay
def MX:ar:=az "HcceafalnYbaNaK4dl3kaad+babjrckal5Ae+bfdd+b2bnrco5almOp4eql3faNaM4ial3taacadbtd+crcsu3sau3xirairb3hava,x4dl3zahrcu4eul3faNaZ4ial3Baad+ctbu3jau4l3Daiage+bfdh+bfwv3af+bfuv4lai3fauaK4i"
def MY:ax 0 166 MX:=ay
def MZ:ar:=az "rcbeal3dnda3faL4lbcCfMag5rbcHiP5alhjLak5zabJ+dgabcd+brcmnrco5allpL3faq4i"
def N0:ax 0 167 MZ:=ay
def N1:ar:=az "+bTecicLjal3fn+dGanWb3jpWaaK4dl3peLfd+b0bo4epleceacqfcabrbbOeLfeLfd+dheqstuiuaivb3afLiv3kau4ial3AeceeLfd+dicvu3zau3Diuaiybizc3lp+czf3afck,Ca,Da,E4dfal36amsuK35au4eul38qaaam3afLiv3kau4il3;cakbuacdWcvuau5+b<cbkbu5alwuL3:au4eul3+baqaa3afLiu3kaP4il3+bccakbuacdWcvu3+bbau4eub3+bgcbk3afbuO4l3Geceaccakbuadd+djeyxvu3oau4dc3NalanecealanhLvueLuacadjuMd+cAeBxwu3Mau3YiuaiGbhLGF3afLuw3nav4l31amsuK4eulqaaam3afLiv3kau4iadc3+bieceeckalhLuKeLualhLuMeLud+dheBAxu3+bhau3+briuaiEb3afLfv3nau4ddc3+btamouKau5+cRalhLuKcJubualhLuMcJubuPbdyucJfbuESuMuZjuMwzu5alJuL4euleceeLfadd+cDdwvuiuaivb3afLiv3kau4ial3+bSeLfam3afLiv3kau4i"
def N2:ax 0 168 N1:=ay
def N3:ar:=az "+bddcgahal3en+bUanWb3haNaK4l3qecdeLed+dkcpq3par3tioaiob3jp+crc3afdisat4dl3vajsuK4eulaj3haNa,w4iadl3ycaibuouT4eul3Cedid+dmbuacd+dldvu+3Bau3Giuaizb3lava,G4dl3Ial4eul3haNaP4iadk3Jedid+dmbuakacBbbud+dodxwuecdJ0buad+dncwuiuaivb3hava,S4naaacaadaagaahaabbebgeaafabgiaajaakaalaamaaial3Uediacd+dpcvu3nau4dc3YecdccibuamhLvueLuacd+cBdAvu3Xau36iuaiDb3oav3ka,64dl38ajsuK4eulaj3haNa,94iadk3;ccibuamamjuMand+dreyxvuecdJ+bzbuad+dqcwuiuaivb3hava,+bc4oaaabaacaadaaeaafaahaaiaagabhjaakaalaamaanaai"
def N4:ax 1 169 N3:=ay
def N5:ar:=az "+blecicLjal3fn+dGanWb3jpWaaK4dl3peLfd+b0bo4epleLf3afLiq3ka44ial3teceeLfd+dicst3sau3wirairbirc3lp+czf3afck,va,wa,x4dfal3ZamsuK3Yau4eul31qaaam3afLiv3kau4il34cakbuacdWcvuau5+bYcbkburcu5alxuL33au4eul3=qaa3afLiu3ka44il3?cakbuacdWcvu3>au4eub3+bacbk3afbuL4l3zeceaccakbuadd+djeyxvu3oau4dc3GalanecealanhLvueLuacadjuMd+cCeBxwu3Fau3RiuaiGbhLGF3afLuw3nav4l3UamsuK4eulqaaam3afLiv3kau4iadc3+bbeceeckalhLuKeLualhLuMeLud+dheBAxuiuaivb3afLiv3kau4i"
def N6:ax 0 170 N5:=ay
def N7:ar:=az "AdcgcLhal3en+dGanWb3hpWaaK4l3mecdeLed+dsclm3lan3pikaikb3jaoap4dl3rajsqK4erlqaaaj3afLgs3iat4ial3vecdaiacd+dtdwvuiuaivb3afLgv3iau4i"
def N8:ax 0 171 N7:=ay
def N9:ar:=az "+bgdcgcdhal3en+bUanWb3hp+dLhaK4l3recdeLed+dkcqr3qas3uipaipb3jp+crc3afdita,u4dl3wajsuK4eulqhaaj3afdgv3iau4ial3Aedid+dubu3lp+dLh3afdk,A4dl3Ccakbu4eul3Fcbkbuacd+dldvu+3Eau3Jiuaizb3mava,J4dl3Lamrcu4eulqha3afdgu3ia44ial3OcbkbualaljuMd+dvdxwucbk3afbuv4ledk3afdgu3iaK4ial3Wediacd+dpcvu3oau4dk30ecdcckbuanhLvueLuacd+cEdAvu3Zau38iuaiDb3pp+dLh3afdo,73ka,84oaaabaacaadaaeaafaagaahblaiaajaakaalaamaanaadl3:ajsuK4eulqhaaj3afdgv3iau4ial3?ecdcckbuanedod+dweywvu3>au3+bciuaiBbcck3afbuw3kav4l3+bfedkaj3afdgv3iau4i"
def Na:ax 1 172 N9:=ay
def Nb:ar:=az "uccecLfal3dn+bUan+dLbpWaaK4dlcadbg4ehlecccbdbjd0cikilailb3afLem3gan4ial3peccccdbpd+bzcoqirairb3afLes3gat4i"
def Nc:ax 0 173 Nb:=ay
def Nd:ar:=az "1cbeal3faN4laN4dlaK4fagdl3kagaagkmjl4emahadfbl3iaN4laK4dfcgddc3qaiafgqmpras5Pafaihbvubuaaaghbvubuabd+bXdzvu5altuL4euahcfdlahafaihbvubuvbbuxbyzu3iau4b3NaijuM3jau4l3Pahaaaghbvubuvbbuxbyzu3iau4b3WahafaiFbvbuaxbyxu3gau4b3oagjnM3hao4l31af3fau4i"
def Nf:ax 0 174 Nd:=ay
def Ng:ar:=az "Dcbeal3faK4laK4dlaK4fagdlagaakicbjbkglmhm4enahadfbl3rabaakrcbsbtaghbvubud+dybud+dxcqurcu4eubag3gau4ab3pagjoM3hap4l3Daf3fau4i"
def Nh:ax 0 175 Ng:=ay
def Ni:ar:=az "NbbcalaN4laN4laK4l3iaaghd+dzbi3gaj4dlaK4fagdl3lagafglmkm4enahadfbl3radvbaaaaeaeafaghbvubujyuFbsbtbuxbyruqbbabun+bGuvbbuxbiqu3eau4b3Haeafaghbvubujyu3fau4b3pagjoM3hap4l3Nad3dau4i"
def Nj:ax 0 176 Ni:=ay
def Nk:ar:=az "NbbcalaN4laN4laK4l3iaaghd+dzbi3gaj4dlaK4fagdl3lagafglmkm4enahadfbl3radvbaaaaeaeafaghbvubujyuFbsbtbuxbiruqbbbbun+bGuvbbuxbiqu3eau4b3Haeafaghbvubujyu3fau4b3pagjoM3hap4l3Nad3dau4i"
def Nl:ax 0 177 Nk:=ay
def Nn:ar:=az "Lcceccfal3dn+b=a3fp+dUeaL4dl3iedcabgid+bUchjrck4ellqea3afcem3gaL4iadl3ocacbnooX4epdcabFbqbMacccbsd+dAcrtiuaivb3afcev3gau4ial3yabcbcbuhbwubuuhuju93hau4dl3FcacbuouT4eubagy,+qsu3hau4al3Kagqebbbu3afceu3gaO4i"
def No:ax 0 178 Nn:=ay
def Np:ar:=az "ucbeal3dn+dUan+dUbaL4dlcacbfcadbhsgi4ejlcacbkcadbmmln3fao4ial3qcbcbpcbdbrmqs3fat4i"
def Nq:ax 1 179 Np:=ay
def Nr:ar:=az "Lcbeal3faN4laN4laK4dfagdlagaagimhjak5zaaaghbmnboabd+dxcpq5allrL4esahafblafaaaghbvubuvbbuxbytu3gau4b3BagjuM3hau4l3Dafabvbbuxbywu3gau4l3HafaaagFbvbuaxbyxu3fau4i"
def Ns:ax 0 180 Nr:=ay
def Nt:ar:=az "Mcbeal3dnWanWbaL4lcaceGfcadeGh2Baj5xcIcblcIdbnomo5alkpLaq5LcJcbscJdbuotu5alruLau5ZcGcecucGdecud+dBcwu5alzuLau5=cKcbucKdbudWcwu5alzuL3fau4i"
def Nu:ax 0 181 Nt:=ay
def Nv:ar:=az "+bdccecdfal3fp+crcaK4l3maad+bgbl3ham4l3oagd+bhbnqcbabo3ip+crc3afdhp4dl3ragd+bhbqudraK4faglmts4deuahadfblagd+dCbu3jau4k3ycbhbuagabd+cTcvuaiqfcabvbbuBcbuzcGAucbh3afbuv4laaabaacaadaafaaeabbgaahaaiaajaakaabjtM3uau4dl3Jagd+bhbuuduaK4fcglmuv4deuahcdfdkcchbuagabd+dDcvuBLbuzL+bXyucch3afbuv4jaaabaacaadaaeabbfaagaahaaiaabjDM3Mau4dl3Xagd+bjbusuKau5+bHedhabd+c;cvurcu5alyOu4eulqca3afdeu3gaY4iadl38edhabd+cocvu37au3;iuaiyb3kava,;4l3=aksuKau5+b;ajaad+bkcvurcu5alyOu4eulqca3afdeu3gaY4ial3+bdedh3afdeu3gaK4i"
def Nw:ax 1 182 Nv:=ay
def Nx:ar:=az "Xcbeal3dnWa3faL4dfal3heLcd+b0bg3gah4efl3faO4il3kcJcbjmkMal5AcJcbnwo05almOpaq5KcIcbsmtK5alrOuau5UcIcbucJcbuwwu5alzOu3jau4eil3faL4il3FcIcbuouK3Eau4eul3IcGccaubuguouKau5+bicGccbubuguouK5alzuL3fau4ial3UcGcecuabd+dEcvu3fau4i"
def Ny:ax 0 183 Nx:=ay
def Nz:ar:=az "tcal3habuhgDh93fai4la;4fagdl3kafCjK4ekahadfbb3oaaaeafGopueqd+bbcnr4b3mafylP3gam4"
def NA:ax 0 184 Nz:=ay
def NB:ar:=az "Mcbeal3faK4l3kaad+b8cjZ3jak3miiaiib3galam4dl3oagrcn4eol3faK4iadc3qafhbpKbqudrRs<afhbuMbuuduRu6StuafhbuSbuuduSyu3iau4dl3GahabPadu0wwu4eulaad+b;cu84l3faK4ial3Mah3fau4i"
def NC:ax 0 185 NB:=ay
def ND:ar:=az "pbbccGlpQg4lpQg4l3iaad+b8ch,+oP3hai3kigaigb3fajak4l3m2Cae2D4leGd3afGco4i"
def NF:ax 0 186 ND:=ay
def NG:ar:=az "Lcbeal3faN4l3jaad+bhbiudj3gak4dl3mafabwlm4enbaad+b;co84al3haN4dl3rafaK4faglmrq4desahadfblaad+dFbt3iau4l3waakucbubuouK4eubagahvbbuxbiwu3hau4ab3FjrM3sau4dl3GaakucbubusuK4eul3faN4ial3Lag3fau4i"
def NH:ax 0 187 NG:=ay
def NI:ar:=az "cabacil3bp+d9k4lqkiab,+oZbb,+o0cb,+o1db,+o2eb,+o3fb,+o4gb,+o5hb,+o63afiab4i"
def NJ:ax 0 194 NI:=ay
def NK:ar:=az "+bYcbecil3dn+d9a3fp+d9k4dk3pabd+dJbod+dKaeic3gp+e0lp+e0lp+d9k3af<fp3af<gq3afihr4kaaadaabdefgbdcdefgbdecfgafbgagaahabdiabdjaadl3taK4faglmsV4detahadfblas3jau4dk3wAbihRbud+dLcu,+quAbihRbud+dLcu,+qvDxuAbihRbud+dLcu,+qwDxu3kau4maaabaadaaeaahaaiaacaceifabigaajaakaalaadc3HAbih5buajjvuAbihRbuAbih?buNwuAbihRburbuAbih:buNwuDAujGuaiAb<gubujxuaiAb<fubujxu3lau4dk36AbihKbud+dLcu,+qxAbihKbud+dLcu,+qyDxuAbihKbud+dLcu,+qzDxu3mau4maaabaadaaeaahaaiaacaceifabigaajaakaalaal3+a+alAbihKbuAbihMbuNwuAbihKbuAbihSbuNwuDzuAbihMbuAbihSbuNwuDzuj,*u3nau4b3+brakamjvuAbihKbuAbihMbuAbihSbuAbihZbuakjvuAbihRbuAbih?buAbih:buqkiab,+bsbbIcbGdbEebAfbygbwhbu3afihu4bjsM3tau4dl3+bMaK4fcglmuP4deuahcdfdlav3oau4c3+bPanAbihubuanAbicubujxuAbihA3afbuv4bjEM3+bMau4l3+bYeih3afieu4i"
def NL:ax 0 195 NK:=ay
def NM:ar:=az "rbbcalaN4laN4dla;4fagdlaeCfK4egahadfbb3kadaaaeGkluemvbbnxbbjo3eap4b3iaeyhP3fai4l3rad3daq4i"
def NN:ax 0 196 NM:=ay
def NO:ar:=az "+brcbeccl3dnUanUbpUb4dk3kecccacbkgld+dEcjmecdcadbpgqd+dEcor3ganas4maaabaacaadaafaagaahaaiaaeacfhjaakaalaadfal3vafau5Tagrcu5alwuL3uau4etl3Aeccd+dNbu3afceu4il3Dagau59afrcu5alwuL3Cau4eul3Iecdd+dNbu3afceu4il3Lafrcuau5+bhcacbugucadbugusxu5alBOu3Kau4eul3Wqba3afceu4ialeccd+dNbu3ipUb3afch,X4dl3ZcahbuguaK4fbglmuv4deuahbdfclav3jau4k35cahbuaicbhbuaicacbuaihbvubucadbuaihbvubuPadzucbcbuaihbvubucbdbuaihbvubuPbdzuhb,5,63afbuGhb,8,93afbuw4GaaabaacaadaaeaafaagaahaaiaajaakaalaamaanaaoaapaaqaaraasaataauaavaawaaxaayaazaaAaaBaaCaaDabeEaaFaabj,1M32au4l3+brech3afceu4i"
def NP:ax 1 202 NO:=ay
def NQ:ar:=az "rbbccclpUb4dlaagdmeMaf5oaaghwiP5algOj4eklqba3afccl4ialaad+c:bmaad+c:boqbcabnbbp3afccq4i"
def NR:ax 0 203 NQ:=ay
def NS:ar:=az "ibbcalaN4dlaaQad4eel3daN4ial3gBbaaazbifg3dah4i"
def NT:ax 1 204 NS:=ay
def NU:ar:=az "+bucbeal3dn+crandbaL4dlbdmfMag5qbdwiP5alhOjak5ycbcbmJ+dPabdd+dOcnorcp5allOqar5McccbtJ+dRabdd+dQcvurcu5alsOu4eul3faL4iadl3Acacbu4fal3DouW3Cau4eul3EcbcbuguouMau5+a+cccbuguouS5alyuLau5+bkcccbud+dQcu,+qA5alxuL3fau4il3Uo,AT3Tau4eul3VcbcbuguCuMau5+bGcbcbuguHuR5alyuLau5+bScccbuguouK5alyuLau5+b4cbcbud+dOcu,+qB5alxuL3fau4il3+a+o,AX3*au4eul3+a,cbcbuguouKau5+chcccbuguCuS5alyuLau5+ctcccbuguHuR5alyuLau5+cFcccbuJ+dUabdd+dQcvu5alyuL3fau4ial3faL4i"
def NV:ax 0 205 NU:=ay
def NW:ar:=az "jcadl3fab4eelaad+bbcfW4iabaad+bbch14"
def NX:ax 0 206 NW:=ay
def NY:ar:=az "tcbeal3faK4dl3haaggaK4faglmih4dejahadfblai3gak4l3mabaaafhbmnboolp4eqlaf3far4iab3tjiM3jas4l3faU4i"
def NZ:ax 0 207 NY:=ay
def O0:ar:=az "odcgahal3gn+eicaKaL4laaabJ+dWabfd+dVdijkilailb3haman4i"
def O1:ax 0 208 O0:=ay
def O2:ar:=az "fbbcal3cnYaa,+qC4lcabbd3dae4i"
def O3:ax 0 209 O2:=ay
def O4:ar:=az "Wcbeal3faN4dl3kabmjK4ekbWj,+oQ3aXl4al3oaagnuhoabuhqd+dZcpr3nas3uimaimb3gata,u4dl3wafwu3au5Wagwu,+qD5alwOu4eubWj,+qE3aXu4alagudu1biquu3iau4l3GahaaIbvu3jau4dfagdl3Jaiahgumwu4euahafbcaiahaitbvbuaaahaitbvabuaIbxujBu3jau4l3Wah3fau4i"
def O5:ax 6 212 O4:=ay
def O6:ar:=az "6cbeal3dn+dEa3faL4dfal3habmgMah5sabwjP5aliOkal5Acacecnabd+dEcoprcq5almOr3gas4efl3faL4il3vcgcbu3uau4etl3xcfcbuouKau51ccccaubuou15alyuLau5=ccccbubuouK5alyuLau5+bgcccccubuguouK5alzuL3fau4ial3Tccceduabd+d0cvuau5+bCcfcbuCuU5alxuLau5+bMcfcbuHu,+qF5alxuL3fau4i"
def O7:ax 6 213 O6:=ay
def O8:ar:=az "+bCcalnWb4ddc3iaakhcbicgjbkal5BcIdbnwoK5almpLaq5LaakscbtcauecucGdecud+d1cwu5alruL4eucaakuckubucIdbujwukAcku3afbuw4addcaakucbuehueLdd+d2cvurcu4euialaakucmubujuMkycmu3afbuw4dceLdaakucmubuqrcaLyObu3fp+eur3afPe,34ddk36aakucbucauecucGdecud+d3cwu35au3>iuaiDb3gpUb3afcf,=a,>4oaaabaacaadaaeaafaagaahblaiaajaakaalaamaanaal3*agau5+b*aakucbucguburcu5alAuL4euc3+bhaakucbuccueduecfd+d4cvu3+bgau3+boiuaiCbiDccLe3afcuxcNe3afbux4acaaaakucnubuePeBPbuzP+ckwukBcnu3afbuw4"
def O9:ax 6 214 O8:=ay
def Oa:ar:=az "Fcbeal3dn+euan+eubaK4dl3hcLcecgcLdecid+d6chj3gak4fal3nafsmK3man4ell3paf3fao4il3rcNcbqcNdbssrt3qau4epdl3wcNcbucNdbumwu4eul3faU4ial3faM4ial3BcOcbucOdbuywu3fau4i"
def Ob:ax 6 216 Oa:=ay
def Oc:ar:=az ":cbealnWbaL4dc3haakgcbhcgibjrckal5BaakncbocfpbqCrK5almsLat5Raakucjubuguaakucbucfubuozu5alFuL3gau4dc3Iafau5+baaakucbucfubuouKau5+bnaakucbuehueLdaakucjubuaakucjubuguyuMhbAubud+d7dHGu5+bal,POu5al,IuL3fau4i"
def Od:ax 6 217 Oc:=ay
def Oe:ar:=az "0caln+czb4ddccbdbercfag5qaakicbjcakeclcadbnd+d8cmorcp5alhOq4eriadlaakscbtcgubu4eulaakuckubujuMkycku3afbuw4iakaaaakucbuccueduaakucjubucadbuBbbuzbyxud+d:cCuaakucbuehud+d9cyuk,Ecju3afbuw4xaaabaacaadaaeaafaagaahaaiaajaakaalaapaaqaaraasaamaanacfsoabstaauaavaawaa"
def Of:ax 6 218 Oe:=ay
def Og:ar:=az "ibbdal3eaL4laagebbsfg3eah4i"
def Ao:ax 0 219 Og:=ay
def Oh:ar:=az "xecicLjal3fn+dGan+czbnWcnWdpWaaK4lcaebkecfvcbmeLgeLhvLcopqcdabWbbncbqcbebsd+bwdlrtiuaivb3afLiv3kau4i"
def Oi:ax 0 220 Oh:=ay
def Oj:ar:=az "Gcdeccfagal3dn+dGanWbp+czfaNaK4l3lcacbkeLdcbcbnd+b1dlmo3kap3rijaijb3ip+crc3afdhqar4dl3taissKat5QcahbusuW5alxOu4eulqfa3afceu3gaNaY4iadk3BcbhbuhcuKecucchbu3afcew3gauaK4jaaabaacaadaaeaafaagabfhaaiaai"
def Ol:ax 0 221 Oj:=ay
def Om:ar:=az "qebial3fn+dGa3jaK4dleceadd+d;cjkabacKlcmnmoK4epl3jaK4ial3jaM4i"
def On:ax 0 222 Om:=ay
def Oo:ar:=az "Fccecdfal3dn+bUanWbp+crcaK4l3kcacbjeLdcbcbmd+b1dkln3jao3qiiaiib3hp+crc3afdgpaq4dl3sahsrKas5OcagbusuTau5XcagbusuX5OlxuL5altOu4eulqca3afdeu3gaY4ial3Fedg3afdeu3gaK4i"
def Oq:ax 0 223 Oo:=ay
def Ot:ar:=az "Xdcgahal3haKaL4l3naagm3jan4l3pai3kaKao4dfagdl3qajakmpq4erahafblajakjstuhuGu,+o7udu3mau4l3zacaaalhbvubuabKzcvumuK4eubaljuM3kau4b3Jal3lau4l3Kajajaimvuau5+bkacaaajhbvubuabKzcvuouK5alCuL3haHa,W4i"
def Ou:ax 0 224 Ot:=ay
def Ov:ar:=az "ubbcal3cn+craaN4laN4dl3hcbbbgghaK4faglmji4dekahadfblhchjecl3gp+czf3afcfm4b3oadcafboBbbpzbynq3ear4b3tjjM3kas4l3uad3dat4i"
def Ow:ax 1 225 Ov:=ay
def Ox:ar:=az "pcceafal3faNaK4laaaaghdZbidYcgjabdXcklimaimb3fanao4i"
def Oy:ax 0 226 Ox:=ay
def Oz:ar:=az "+bydbgal3haN4l3laaabtbkblaa4lacgn3iao4dl3qahopK4eqlaa3har4ial3taags3jat4dl3vabaiovu4eulaaaczbyvu3hau4iadl3BaiahjvuaaUuwwu4eulaaabtbvabuaaiahjvuabyvuYbymzu3kau4l3QajabtbvbuaaacIbvu4dcajabahjvutbxbuaaaaabtbvbuaaIbxu4laj3hau4ial35aaaiahjvutbxabua3bau4dl3:acaaabahjvutbxbuaaZzurcu4eudcaaabahjvutbxbuaaaaabtbvbuaaIbxu4laaabtbvbuaaacIbvu4laa3hau4ial3+boaaaitbvbuaaacIbvu4laaabtbvbuaaahd+d=cvu4laa3hau4i"
def OA:ax 6 227 Oz:=ay
def OB:ar:=az "Bcbeal3dn+cra3faK4laK4dfagdlafjgMcccbigjmhkal5BabcccboafjqMhLprcKsbtd+bvcnurcu5almuL4euahafbbafjuM3gau4l3Baf3fau4i"
def OC:ax 0 228 OB:=ay
def OD:ar:=az "pcceafal3faNaK4laaaaghdZbid+bycgjabd+bxcklimaimb3fanao4i"
def OE:ax 0 229 OD:=ay
def OF:ar:=az "+dlebial3jaN4l3qaaabactLpbqbra4dlabacotu4eulaaabadd+d>dwvu3jau4iadl3Bacaaguowu4eulaaabtLvabuaadzL+bXvu3kau4dl3Kajguaagumwu4eubaaajgutLwbuaa3a0Lau4alaj3jau4iadc3UaaabtLvabuaguadgujwuaaactLvbuaagujyu3lau4dl36akaaUuwwu4eulaaabtLvabuaakabyvuYL+bXaxu3mau4l3+a+alabtLvbuaaadILvu4dcalabadgujwutLybuaaaaactLvbuaaILxu4lal3jau4ial3+boaaaktLvabua3nau4dl3+brabadgujwuacHvu4eulamabtLvbuaaadILvu4dcamabadgujwutLybuaaaaactLvbuaaILxu4laaaktLvbuaa3a0Lau4lam3jau4iadl3+bQamabadgujwutLybuaaadZvurcu4eudcamabadgujwutLybuaaaaactLvbuaaILxu4lamabtLvbuaaadILvu4lam3jau4ial3+b?adguacabyvuyxu3oau4dl3+ccamabactLwbvbuaadZvurcu4eudcamabactLwbvbuaadantLvbuaaILxu4dcamaagutLwbuaaadantLvabuaILxu4lamabtLvbuaaand+d*cvu4lam3jau4iadl3+cFamaagutLwbuaaadZvurcu4eudcamaagutLwbuaaadantLvabuaILxu4dcamabactLwbvbuaadantLvbuaaILxu4lamabtLvbuaaand+d*cvu4lam3jau4ial3+c8adaaactLvbuaad+d+cxu3pau4l3+c=amabtLvbuaaadILvu4dcamabadgujwutLybuaaamabaojvutLxbuaaILzu4lam3jau4i"
def Ap:ax 6 230 OF:=ay
def OG:ar:=az "2cceafal3dn+dGanWbaNaK4dl3pcIdboopK4eql3faNaK4ial3tecceLdd+dicst3sau3wirairbirc3hp+czf3afcg,va,wa,x4dl3zaisuK4eulai3faNa,A4ial3kaN4dl3Ccbgbu4eubajcagbuBbbuzbyxu3kau4adl3JahguaK4faglmuv4deuahadfblhLxveLu3mpWa3afLl,N4l3QecceLld+dscvu3Pau3Tiuaiyb3nava,T4dl3VansuK4eulan3faNa,W4iab3Yajamzbyvu3kau4b31j,KM3Lau4l32aj3fauaK4i"
def OH:ax 6 231 OG:=ay
def OI:ar:=az ">dcgcLhal3en+dGa3hpWaaK4dl3nabgmonK4eolqaa3afLgp3iaK4ial3rabdTbq3car4l3tabecdacd+d;ctudUcsu4labguMuS3jau4dk3CecdabaitbvabuaacjuMd+dtdzwu3Bau3JiuaiCb3kpWa3afLj,Ia,J4naaabaacaadaaeaafaagbkahaaiaajaakaalaamaadl3LaksuK4eulqaaak3afLgv3iau4iadk3QecdabaijuMtbwbuaaacjuMd+dtdAwu3Pau3YiuaiDb3mpWa3afLl,X3la,Y4oaaabaacaadaaeaafaagaahblaiaajaakaalaamaanaadl30aksuK4eulqaaak3afLgv3iau4iadc34ecdabaihbvubuqfcabubbOeLjeLld+dheBwvuiuaivb3afLgv3iau4i"
def Aq:ax 6 232 OI:=ay
def OJ:ar:=az "lbbccdl3cn+crap+dLh4dkcabbdoeTedbd+dmbgccbbiqhdabfbbhcbj3afdck4jaaabaacaadaafaagaaeacbghaaiaai"
def OK:ax 0 233 OJ:=ay
def OL:ar:=az "Hdbgal3haN4l3jaaabacaagltbibjbkbm4dlabacoop4eqlaa3har4ial3taags3iat4dc3vaaabtbvabuaaaactbvbuaazbyxu3bau4l3Caaaaguahtbxbvbua3a0bmu4laa3hau4i"
def OM:ax 6 234 OL:=ay
def ON:ar:=az "+bfeciajal3fn+bUa3in+dLdaNaK4dl3uedhd+d,btrcu4eul3yeceedhd+cFcvu3xau3Biuaiyb3lpWa3afLk,Aa,B4l3DabaceLkhLwv3afLuv4labal3java,H4ial3JacyuMPbduK3nau4l3Mam3oau4dl3NacouK4eub3oaM4adk3QeceabanhLvueLud+dkcyu3Pau3WiuaiBb3pp+crc3afdo,Va,W4maaabaacaadaaeaafbjagaahaaiaajaakaalaadl3YapsuK4eulap3jaNa,Z4iadk31edod+dubuedh3rp+dLhp+dLh3afdq,13afdr,24haaacaabcdebcdbeaeaafabcgaadl34acouK4eukedhedod+dubu3afdqw3afdru4faaabaacabadaaeaaal3:eceedqedrd+eadwvu39au3>iuaizb3tav3qa,>4dl3*apsuK4eulap3jaNa,+a+4ial3+baabamamjuSasd+dreyxvu3jauaK4i"
def OO:ax 1 235 ON:=ay
def OP:ar:=az "kcbeal3faL4laad+ecbfabd+ecbhd+ebcgi3faj4i"
def OQ:ax 0 236 OP:=ay
def OR:ar:=az "hbbcalaN4laad+bSbdhbeKbf3dag4i"
def OS:ax 0 237 OR:=ay
def OT:ar:=az "JbbcalaN4l3iaaMhR3eai4dl3kadERjaamkl4embadjnM3eao4alaN4dlaK4fagdl3qafadmpq4erahadfbl3vaaadMvu3hau4dl3yafaaadLvumxu4eubagjuM3hau4ab3Faeagvbbuxbiwu3fau4b3tafjsM3gat4l3Jae3dau4i"
def OU:ax 0 238 OT:=ay
def OV:ar:=az "rcbeal3dnUanUbaL4lcacbfcadbhdWcgiaj5xcbcblcbdbndWcmo5alkpL3faq4i"
def OW:ax 0 240 OV:=ay
def OX:ar:=az "mbbcalaL4l3faad+bhbe3eaf4dl3hadwgW4ehbaad+b;ciY4aladokW3dal4i"
def OY:ax 0 241 OX:=ay
def OZ:ar:=az "EcbecLl3fpWa4l3haad+cSbgqabaGh3gpWa3afLfi4l3kaad+cRcj0cIf3afblk4laad+cRcm0cJf3afbon4laaabd+cTcpqcGfcas3afbtr4laaabd+cTcvucGfcbu3afbuw4laaabd+cTcvucKf3afbuv4leLf3afLeu4i"
def P0:ax 0 242 OZ:=ay
def P1:ar:=az "Ccbeal3dnUa3faL4dlabmfMag5qabwiP5alhOjak5ycacbmgnabsop5allOqar5Mcbcbtguabsvu5alsOu4eul3faL4ial3AabJ+egabcd+efcvu3fau4i"
def P2:ax 0 243 P1:=ay
def P3:ar:=az "EbbcalaK4l3kaad+b8cjP3jak3miiaiib3ealam4dl3oaercn4eol3daK4ial3ga34dl3qadgpaK4faglmrq4desahadfblhbprbt3iau4b3wafRu6ahuhuSwu3gau4b3BjrM3sau4l3CafDu9udu3dau4i"
def P4:ax 0 244 P3:=ay
def P5:ar:=az "+bwbbcc<lp+e0l4lp+e0l4dl3laK4faglmk24delahadfblak3fam4c3oaeaaaeERphboqbrugsRt,+oYaaaeERujuMhbxubuuguRu<SCuaaaeERujuShbxubuuguRu6SCuaaaeERujuZhbxubuuguSBuAb<dn3afbuv4bjkM3lau4dl3ga24fcgdl3YafmuV4euahcdfddc32afyu,+p2Ab<dubuafyuSAb<dubu3haya,84l3:agd+dLcu,+qHagd+dLcu,+qIDwuagGu,+qJDwu3jau4l3+a,ahd+dLcu,+qKahd+dLcu,+qLDwuahGu,+qMDwu3kau4c3+bhafafyu2Ab<dubuaijvuafyu5Ab<dubujyuajjvuAb<dH3afbuv4b30afjuM3gau4l3+bwe<d3af<cu4i"
def P6:ax 0 248 P5:=ay
def P7:ar:=az "cabac<l3bp+e0l4lql<ab,+o9bb,+o:cb,+o;db,+o<eb,+o=fb,+o>gb,+o?hb,+o*ib,+o+jb,+o,kb,+palb,+pbmb,+pcnb,+pdob,+pepb,+pfqb,+pgrb,+phsb,+pitb,+pjub,+pkvb,+plwb,+pmxb,+pnyb,+pozb,+ppAb,+pqBb,+prCb,+psDb,+ptEb,+puFb,+pvGb,+pwHb,+pxIb,+pyJb,+pzKb,+pALb,+pBMb,+pCNb,+pDOb,+pEPb,+pFQb,+pGRb,+pHSb,+pITb,+pJUb,+pKVb,+pLWb,+pMXb,+pNYb,+pOZb,+pP0b,+pQ1b,+pR2b,+pS3b,+pT4b,+pU5b,+pV6b,+pW7b,+pX8b,+pY9b,+pZ:b,+p0;b,+p13af<ab4i"
def P8:ax 0 249 P7:=ay
def P9:ar:=az "rcbeal3fa,+p34l3habuhgNh,+qN3gai4l3kaaafRjkaaafy7nGmoSlp3faq4i"
def Pa:ax 0 250 P9:=ay
def Pb:ar:=az "kbbcccl3cnUapUb4dkcabbdd+c:becbbbgd+c:bhqbcabfbbi3afccj4iaaabaadaaeaacabefaagaahaai"
def Pc:ax 1 252 Pb:=ay
def Pd:ar:=az "jcbealn+e9baL4laaJ+ejabdd+eicfgrch3fai4i"
def Pe:ax 0 253 Pd:=ay
def Pf:ar:=az "jbbdaln+czaaL4lcacbegfbbogh3eai4i"
def Pg:ax 0 254 Pf:=ay
def Ph:ar:=az "jcbealn+b,baL4laaJ+elabdd+ekcfgrch3fai4i"
def Pj:ax 0 255 Ph:=ay
def Pk:ar:=az "hbbdalnWaaL4leLcbbd+cPcef3eag4i"
def Pl:ax 0 256 Pk:=ay
def Pm:ar:=az "hbbcal3cnWaaL4lcKbbdgeofK3dag4i"
def Pn:ax 0 257 Pm:=ay
def Po:ar:=az "fbbcal3cn+czaaL4lcbbbd3dae4i"
def Pp:ax 0 258 Po:=ay
def Pq:ar:=az "obbdalnWaaL4lcKcbegfbboghai5veLcd+b0bkrcl5aljmL3ean4i"
def Pr:ax 0 259 Pq:=ay
def Ps:ar:=az "Xdcgahal3haKaL4l3naagm3jan4l3pai3kaKao4dfagdl3qajakmpq4erahafblajakjstuhuGu,+o7udu3mau4l3zacaaalh+bfvue+bfuabKzcvumuK4eubaljuM3kau4b3Jal3lau4l3Kajajaimvuau5+bkacaaajh+bfvue+bfuabKzcvuouK5alCuL3haHa,W4i"
def Pt:ax 0 260 Ps:=ay
def Pu:ar:=az "lcbfalnYa3gaK4lbce+bfdKgbhabd+dXcij3gak4i"
def Pv:ax 0 261 Pu:=ay
def Pw:ar:=az "ucbeal3faK4l3iaad+embh3gai4l3kabd+embj3hak4dl3maf4eldlag4eml3faK4ial3faU4iadl3oag4enl3faM4iadl3paaabmop4eql3faU4iadl3saaabwrs4etl3faM4ial3faK4i"
def Px:ax 0 262 Pw:=ay
def Py:ar:=az "Ecceafal3fa3a34deLl3maauglabugnd+eocmo3lap3rikaikb3haqar4l3taguhsahuhu3fata,v4ial3yaaabd+epcvu3xau3Biuaiyb3java,B4l3Daiaj3fava,D4i"
def Pz:ax 0 264 Py:=ay
def PA:ar:=az "+becbeal3dn+b=a3faL4dlabmfMag5qabwiP5alhOj4ekl3faL4iadl3mcacbl4fal3pom13oao4enl3qcbcbpoqKar5NcccbtguouK5alsuL3fau4il3AomW3zau4eul3BcbcbuCuMau59cbcbuabmvu5alyuLau5+bccccbuguouK5alyuL3fau4il3RomT3Qau4eul3ScbcbuCuKau5+bycbcbuabmvu5alyuLau5+bKcccbuguouK5alyuL3fau4il38omX37au4eul39cbcbuouKau5+b6abCuS5alwuLau5+b>cccbuguabyuMowu5alAuL3fau4ial3faL4i"
def PC:ax 0 265 PA:=ay
def PD:ar:=az "Bcbeal3dn+dEanWbaL4dlcIdbfogKah5scacecjcGdecld+esckmrcn5aliOo4epl3faL4iadl3rcgcbq4erlcacecscGdecud+d1cturcu3fau4ial3zcfcbusuK3fau4i"
def PE:ax 6 267 PD:=ay
def PF:ar:=az "1cceccfal3dnUanUbpUbaL4dl3jeccecdd+escijrck4ellqba3afcem3gaL4ial3oeccd+dNbn3hpUb3afcgo4dl3qcagbpgqaK4faglmsr4detahadfblas3iau4k3wcagbuahcbgbuahcacbuahhbvubucadbuahhbvubuPbdzucbcbuahhbvubucbdbuahhbvubuPadzuhb,w,x3afbuGhb,z,A3afbuw4GaaabaacaadaaeaafaagaahaaiaajaakaalaamaanaaoaapaaqaaraasaataauaavaawaaxaayaazaaAaaBaaCaaDabeEaaFaabjsM3tau4l31ecg3afceu3gaO4i"
def PG:ax 0 268 PF:=ay
def PH:ar:=az "9cdeccfagal3dn+b=anUbp+dUeaKaK4dl3jecdcadbjgkd+dEcilrcman5Eedccadbqgrd+d0cpsrct5aloOu4eulqea3afceu3gaKaM4ial3ycadbucbcbuhbwubud+etbu3ip+dUe3afch,D4dl3Fcacbu4fal3IouT3Hau4eub3Jcbdbucbcbuhbwubud+eubu3afchu4l3RoDX3Qau4euc3TcccbucadbuFbubMacbdbuFbubMaqbcabxbbud+evcBu3Sau33iuaiFb3afchv4adkechcadbuhbuKbu3afcey3gauaK4iaaabaacaadaaeaafaccegaahaai"
def PI:ax 0 269 PH:=ay
def PJ:ar:=az "Dcbeal3dn+dUan+dUbaK4dfal3heccecd2E3gai4efl3faK4il3lcacbkcadbmmlnao5Gcacbqcadbsortau5Tcbcbucbdbumwu5GlzuL5alpOu3kau4ejl3faU4ial3faM4i"
def PK:ax 0 271 PJ:=ay
def PL:ar:=az "zdbgal3en+dEanWb3haL4l3lcadeckcGeecmd+d3cln3kao3qijaijb3ipUb3afchpaq4l3saiar5Nccdedtechacd+eydwvu5alsuL3hau4i"
def PM:ax 6 272 PL:=ay
def PN:ar:=az "pcbeal3dnUanSbaL4leccbdggd+dEcfhai5vbdgkJ+ezaccdd+efclm5aljnL3fao4i"
def PO:ax 0 273 PN:=ay
def PQ:ar:=az "ucbealn+dEbaN4dlcfdbfCgKah5taagjcfdblwkm5alinL4eolaacfdbqtbpabra3fas4ial3uaa3fat4i"
def PR:ax 6 274 PQ:=ay
def PT:ar:=az "Mcbeal3dn+b=a3faN4laN4dl3jabgiaK4faglmkj4delahadfblhbikbm3ian4dl3pedcahgpd+d0coqrcras5OahguabhbuKbugusyu5altOu4eul3faN4iab3Dafahd+c:buBbbuzbyxu3gau4b3IjkM3lau4l3JafJ+eBabcd+eAcvu4laf3fau4i"
def PU:ax 6 275 PT:=ay
def PV:ar:=az "lcbeal3dn+dGa3fa,+qO4l3habcbcbhLgi3gpdq3afbfj4l3lJ+eDabf3fak4i"
def PW:ax 0 276 PV:=ay
def PX:ar:=az "lbbcal3cn+dLaaL4lcbbbdgeccbbgghjfimjS3dak4i"
def PY:ax 0 283 PX:=ay
def PZ:ar:=az "Gdcgahal3en+bUan+dLbn+dLcaNaK4dlcaebi4ejdkcbebkcbfbmvbclnd+eIboecdJ0bqad+dncprisaisb3hata,u4naaabaacaadaagaahaaeaafabgiaajaakaalaamaaiadk3wccebuccfbuvbcwud+eJbuecdJ+bzbuad+dqcwuiuaivb3hava,F4naaabaacaadaagaahaaeaafabgiaajaakaalaamaai"
def Q0:ax 0 284 PZ:=ay
def Q1:ar:=az "ucbeal3faL4dlaagfabghsgi4ejlaagkabgmmln3fao4ial3qaaVpabVrmqs3fat4i"
def Q2:ax 0 285 Q1:=ay
def Q3:ar:=az "gbbcalaN4laad+eLbdd+eKbe3daf4i"
def Q4:ax 0 286 Q3:=ay
def Q5:ar:=az "pcbeal3faL4dl3haaaK4faglmhg4deiahadfblah3gaj4l3labafKkblrcm4enl3faL4iab3pjhM3iao4l3faO4i"
def Q6:ax 0 289 Q5:=ay
def Q7:ar:=az "pbbdal3eaL4dccabbeaahbfgbhcbbbjaahbklbmHin3eao4i"
def Q8:ax 0 290 Q7:=ay
def Q9:ar:=az "jcbeal3faL4laaabd+eNcfgChK3fai4i"
def Qa:ax 0 292 Q9:=ay
def Qb:ar:=az "ibbdaln+czaaL4lbbeccKebfrcg3eah4i"
def Qc:ax 0 293 Qb:=ay
def Qd:ar:=az "jcbeal3faL4laaabd+eOcfgChK3fai4i"
def Qe:ax 0 294 Qd:=ay
def Qf:ar:=az "ibbdalnWaaL4lbbeLcKebfrcg3eah4i"
def Qg:ax 0 295 Qf:=ay
def Qh:ar:=az "gbbcalaL4laaaasde3daf4i"
def Qi:ax 0 296 Qh:=ay
def Qj:ar:=az "Zcceafal3fa3a34l3paaNo,+oR3hap4l3raaGq73iar4l3tabNs,+oR3jat4l3vabGu73kau4l3xagaiEvu3lau4l3AahaiEvuakGu7jwu3mau4l3GalNu,+oR3nau4l3IalGu73oau4l3KamagajEvujxu3nau4l3PahajEvuanjvuamGu7jwu3fau4l3XaaabEvu3gau4i"
def Qk:ax 0 299 Qj:=ay
def Ql:ar:=az "rcbeal3dnUanUbaL4lecccacbgghd+dEcfiaj5xecdcacbmgnd+dEclo5alkpL3faq4i"
def Qm:ax 0 300 Ql:=ay
def Qn:ar:=az "pcbeal3dnUanUbaL4leccecdd+eqcfgah5tcacbjgkJ+ePaccdd+efclm5alinL3fao4i"
def Qo:ax 0 302 Qn:=ay
def Qp:ar:=az "hbbccclp+dUe4laauhdDe9qebbbf3afccg4i"
def Qq:ax 0 303 Qp:=ay
def Qr:ar:=az "Wdbgal3en+b=anUb3haL4l3oeddeced+d4cno3nap3rimaimbimc3ip+dUe3afchqaras4l3veddacd+eVcvu3uau3yitaitb3lp+dUe3afck,xa,y4dc3AajouKau55alouK5alwuLau5=acgucaebuguoxu5alAuLau5+bkeckachbuKbuechaid+eWezwvu5alBuL3hau4i"
def Qs:ax 0 308 Qr:=ay
def Qt:ar:=az "Bbbeal3faL4dccabbfaahbghbibcaahbklbmHjnao5HbcaahbqrbscbbbuaahbvubuHtu5alpuL3fau4i"
def Qu:ax 0 309 Qt:=ay
def Qv:ar:=az "qcbfal3gaK4dfal3iedcaaabd+eCdhij3hak4egl3gaU4il3nedcabaad+eCdmno3map4ell3gaM4ial3gaK4i"
def Qw:ax 0 311 Qv:=ay
def Qx:ar:=az "Vdbgal3en+b=a3haL4l3neddabd+eVcmn3mao3qilailb3ip+dUe3afchpaq4l3teddacd+eVcst3sau3wirairb3kp+dUe3afcj,va,w4dc3yaiouKau51akouK5alwuLau59abguacguowu5alzuLau5+beechabhbuKbuecjachbuKbud+eWeByxu5alDuL3hau4i"
def Qy:ax 0 312 Qx:=ay
def Qz:ar:=az "wcbfal3gaK4ddc3iaabchbhibjabbchblmbnd+eEcko3hap4l3ragsqK4erlag3gas4ial3uaaabd+eFctu3gau4i"
def QA:ax 0 313 Qz:=ay
def QB:ar:=az "ucbeal3faK4l3iaad+eYbh3gai4l3kabd+eYbj3hak4dl3maf4eldlag4eml3faK4ial3faU4iadl3oag4enl3faM4iadl3paaabmop4eql3faU4iadl3saaabwrs4etl3faM4ial3faK4i"
def QC:ax 0 314 QB:=ay
def QD:ar:=az "Kcbeal3faK4dl3kaagjaK4faglmlk4demahadfblalhbjlbo3ganap4dl3rafabgrCqs4etl3faM4ial3vabafhbvubu3iau4l3zagahd+eEcvu3jau4l3CaisuK4eulai3fau4iab3FjlM3mau4dl3Gaaguabgumwu4eul3faU4ial3faK4i"
def QE:ax 0 315 QD:=ay
def QF:ar:=az "KbbcalaN4laK4dl3kaagjaK4faglmlk4demahadfblhbjlbn3gao4l3qadafgqjpr3eas4l3uadmtK4eubWj,+p53aXu4abjlM3mau4l3yadd+e1cNu3hau4dl3AaaguaK4fcglmuv4deuahcdfdlhbxvbu3jau4b3Gagaizbyvu3hau4b3Jj,BM3Cau4l3Kag3dau4i"
def QG:ax 1 318 QF:=ay
def QH:ar:=az "KbbcalaN4laK4dl3kaagjaK4faglmlk4demahadfblhbjlbn3gao4l3qadafgqjpr3eas4l3uadmtK4eubWj,+p53aXu4abjlM3mau4l3yadd+e2cNu3hau4dl3AaaguaK4fcglmuv4deuahcdfdlhbxvbu3jau4b3GagaizL+bXvu3hau4b3Jj,BM3Cau4l3Kag3dau4i"
def QI:ax 1 319 QH:=ay
def QJ:ar:=az "GbbcalaN4laN4dlaK4fagdl3iaejh5aagjmik4elahadfbl3ga14dlaK4fcgdl3pagmoP4epahcdfdb3tafETsaaaeagjvuhbxubujtu3gau4b3ragjqM3har4b3Cadafvbbuxbbwu3eau4b3naejmP3fan4l3Gad3dau4i"
def QK:ax 0 320 QJ:=ay
def QL:ar:=az "HbbcalaN4laN4dla,+q14fagdl3iaeChK4eiahadfbl3gaK4fcgdl3mafaagmmln4eoahcdfdl3saaafhbrsbtuhuju93hau4b3yadagaeuhuGwuLu,+p4ueuvbbuxbbBu3eau4b3qafjpM3gaq4b3kaeyjM3fak4l3Had3dau4i"
def QM:ax 0 321 QL:=ay
def QN:ar:=az "tcbeal3faK4dl3haaggaK4faglmih4dejahadfblai3gak4l3mabaaafhcmnecoKlbp4eqlaf3far4iab3tjiM3jas4l3faU4i"
def QO:ax 0 323 QN:=ay
def QP:ar:=az "tcbeal3faK4dl3haaggaK4faglmih4dejahadfblai3gak4l3mabaaafhLmneLoKlbp4eqlaf3far4iab3tjiM3jas4l3faU4i"
def QQ:ax 0 324 QP:=ay
def QR:ar:=az "Dbbeal3faL4dccabbfaahbghbicbcbkaahblmbnHjoap5JcacbraahbstbucbbbuaahbvubuHzu5alquL3fau4i"
def QS:ax 0 325 QR:=ay
def QT:ar:=az "Lcceccfal3dn+b=a3fp+dUeaK4dledcabghd+d0cgircj4eklqea3afcel3gaM4iadl3ncacbm4fal3qonT3pap4eol3rabcbcbrhbqsbtd+eubu3afceu3gaK4il3yonX3xau4eudc3zabFbubMacccbud+e6cwuiuaivb3afcev3gau4ial3Gabcbcbuhbwubud+etbu3afceu3gaK4i"
def QU:ax 0 331 QT:=ay
def QV:ar:=az "uebial3fn+dUa3hn+dUc3jaL4dl3leceecgd+d6ckl3kam4l3oajsnK4eolajmpK3jaq4ial3sabadmrs3jat4i"
def QW:ax 0 332 QV:=ay
def QX:ar:=az "gbbcalaL4laaaasde3daf4i"
def QY:ax 0 334 QX:=ay
def QZ:ar:=az "Bcbeal3faN4dlabmfK4egbWj,+oQ3aXh4adlabaaUjaaglykmyin3cao4l3qabwpK4eqbaaaaUstbrabtaabYbymvuaagutbwabua3bau4al3Baa3fau4i"
def R0:ax 6 337 QZ:=ay
def R1:ar:=az "Bcbeal3faN4dlabmfK4egbWj,+oQ3aXh4adlabaaUjaaglykmyin3cao4l3qabwpK4eqbaaaaUstLrabtaabYL+bXavuaagutLwabua3bau4al3Baa3fau4i"
def R2:ax 6 338 R1:=ay
end Go.Proofs.YtcfpcblgmmeioaaGreat
