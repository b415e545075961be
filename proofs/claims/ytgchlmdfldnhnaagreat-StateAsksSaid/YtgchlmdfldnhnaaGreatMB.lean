import Derived.Test.YtgchlmdfldnhnaaGreatMA
import Derived.Lib.Overlaps
import Derived.Laws.Externs
import Derived.KernelRfl
import Derived.Test.YtgchlmdfldnhnaaGreatProg
set_option linter.all false
open Option renaming some->γ,none->η
open Go.Proofs.Tryz renaming prog->δ
open Bool renaming true->ζ,false->κ
open List renaming replicate->θ,range->ψ,getElem?_eq_some_iff->Η,take_of_length_le->Λ,length->β
open Go.bw.U renaming ah->ξ,al->ο
namespace Go.bw
open Go
variable{s b8:R}{u b2:R -> U -> Prop}{l:Fr}{g w h7:U}{j B b7:ύ}{e i t I b3 e5:Nat}{v:bf}{q:Program}{e8:Value}{m j4:World}
section
variable{o:Oper}{a:Act}
def Kz(r:TypeId)(b:Operand)(x:o.op=.call {callee:=.builtin .cap,args:=#[b],argTypes:=#[r]})(E:TypeId)(y:q.underlying r=γ (.slice E))(F:aQ b=ζ)(L:bI v a l)(z:Holds v g m)(f:G ⟨q,u⟩ (.nA b) l g b2):bM q u o a m v g b2:=by
 have c:=L.ai b F;simp only[G]at f;generalize C:a.eval b=V at c;split at f
 case h_2=>trivial
 rename_i W d;unfold sx at d;split at d
 .rename_i P S h D k;rw[k]at c;obtain rfl:=Δ d;cases c with
  |ar P S h D hk T=>exact .same z (by simp[execOp,x,resolve,invoke,builtin,C,Builtin.cap_,run_underlying y,goInt]) (.v _ rfl) f
 .rename_i k;rw[k]at c;obtain rfl:=Δ d;cases c with
  |dk e h du bQ p=>simp only[Own.mw]at p;subst p;have:=bQ rfl;subst this;exact .same z (by simp[execOp,x,resolve,invoke,builtin,C,Builtin.cap_,run_underlying y,goInt]) (.v _ rfl) f
  |J i off len h D j xs du hk hlen T n s hH t p=>trivial
 .cases d
theorem KA(y k:Nat)(r p d:Option Operand)(f b c:Int)(z:(r=η/\f=0)\/∃h,valOf a r=γ (.int h f))(C:(p=η/\b=y)\/∃h,valOf a p=γ (.int h b))(G:(d=η/\c=k)\/∃h,valOf a d=γ (.int h c))
  (L:d=η\/p.isSome=ζ) (P:0<=f) (S:f<=b) (j:b<=c) (l:c<=k) (D:World):(Instr.sliceBounds ζ y k (valOf a r) (valOf a p) (valOf a d)).run q D=.ok (f.toNat,b.toNat,c.toNat) D:=by
 have m:(b.toNat)=b:=a9g ε;have n:(c.toNat)=c:=a9g ε;have T:0<=b:=ε;have s:0<=c:=ε;have V:b<=(k):=ε;have x:valOf a η=none:=rfl;rcases G with⟨rfl,rfl⟩|⟨t,hm⟩
 .rcases z with⟨rfl,rfl⟩|⟨W,E⟩<;>rcases C with⟨rfl,rfl⟩|⟨e,F⟩
  .rfl
  .simp only[Instr.sliceBounds,x,F];simp[run_sliceBound,V,T]
  .simp only[Instr.sliceBounds,x,E];simp[run_sliceBound,P,S]
  simp_all [Instr.sliceBounds,run_sliceBound]
 .have g:d≠none:=by rintro rfl;rw[x]at hm;cases hm
  have i:=L.resolve_left g;rcases C with⟨rfl,rfl⟩|⟨e,F⟩
  .simp at i
  rcases z with⟨rfl,rfl⟩|⟨W,E⟩;simp_all [Instr.sliceBounds,run_sliceBound];simp_all [Instr.sliceBounds,run_sliceBound]
def KB(k5:TypeId)(T:Operand)(y C D:Option Operand)(k7:o.op=.slice k5 T y C D)(k8:D=η\/C.isSome=ζ)(Y:TypeId)(k9:q.underlying k5=γ (.slice Y))(V:Nat)(H:(q.info? Y).map (·.size)=γ V)(l0:aQ T=ζ)(I:y.all aQ=ζ)(K:C.all aQ=ζ)(M:D.all aQ=ζ)
  (k:bI v a l) (N:Holds v g m) (W:G ⟨q,u⟩ (.mF V T y C D) l g b2):bM q u o a m v g b2:=by
 have p:=k.ai T l0;have O:∀(e)(len h:Nat)(c f d:Int),((y=η/\c=0)\/∃j,valOf a y=γ (.int j c))->((C=η/\f=len)\/∃j,valOf a C=γ (.int j f))->((D=η/\d=h)\/∃j,valOf a D=γ (.int j d))->0<=c->c<=f->f<=d->d<=h->
   a.eval T=.slice e len h->(execOp a.eval o).run q m=.ok (.value (sliced e c.toNat f.toNat d.toNat V)) m:=by
  intro e len h c f d n E F s t w r i;have k6:=KA (q:=q) len h y C D c f d n E F k8 s t w r m;simp only[valOf]at k6;cases Z:q.info? Y with
  |none=>simp[Z]at H
  |some ii=>
   have l1:ii.size=V:=by simpa[Z] using H
   simp[execOp,k7,i,Instr.sliceAt,Instr.slice,run_underlying k9,k6,sizeOf,typeInfo,Z,l1,sliced]
 simp only[G]at W;generalize i:a.eval T=l9 at p;split at W
 case h_2=>trivial
 rename_i z b;unfold sy at b;split at b
 .rename_i A len h Q L;rw[L]at p;split at b
  case h_2=>cases b
  rename_i c f d x P hm;split at b
  case isFalse=>cases b
  rename_i r;obtain⟨rfl,s,t,w,k2⟩:=r;obtain rfl:=Δ b;have n:=gJ k I x;have E:=gJ k K P;have F:=gJ k M hm;cases p with
  |ar A l2 h Q X k3=>
   have z:=O _ len h c f d (by trivial) E F s t w k2 i;refine .same N z ?_ W;cases y with
   |none=>
    simp only[dF,a7G]at x;subst x;simp only[a9t,a8x,if_false];have:sliced (γ ⟨A,0,η⟩) ((0:Nat):Int).toNat f.toNat d.toNat Q=.slice (γ ⟨A,0,η⟩) f.toNat d.toNat:=by unfold sliced;simp[Addr.add]
    rw[this];exact .ar _ _ _ _ X ε
   |some y=>
    simp only[a9V,if_true];by_cases B:c<d
    .rw[if_pos B];unfold sliced;rw[if_neg ε,a8z,hM,a7X];exact .bC _ _ _ _ _ X ε
    .rw[if_neg B];unfold sliced;have:f.toNat - c.toNat=0:=ε;rw[this];exact .dk _ _ _ (λl3=>by omega) (show d.toNat - c.toNat=0 by omega)
 .rename_i A k4 len h Q L;rw[L]at p;split at b
  case h_2=>cases b
  rename_i c f d x P hm;split at b
  case isFalse=>cases b
  rename_i r;obtain⟨rfl,s,t,w,k2⟩:=r;obtain rfl:=Δ b;have n:=gJ k I x;have E:=gJ k K P;have F:=gJ k M hm;cases p with
  |bC A k4 l2 h Q X k3=>
   have z:=O _ len h c f d (by trivial) E F s t w k2 i;refine .same N z ?_ W;by_cases B:c<d
   .rw[if_pos B];unfold sliced;rw[if_neg ε,a8z,hM];exact .bC _ _ _ _ _ X ε
   .rw[if_neg B];unfold sliced;have:f.toNat - c.toNat=0:=ε;rw[this];exact .dk _ _ _ (λl3=>by omega) (show d.toNat - c.toNat=0 by omega)
 .rename_i L;rw[L]at p;split at b
  case h_2=>cases b
  rename_i c f d x P hm;split at b
  case isFalse=>cases b
  rename_i r;obtain⟨rfl,rfl,rfl⟩:=r;obtain rfl:=Δ b;have n:=gJ k I x;have E:=gJ k K P;have F:=gJ k M hm;cases p with
  |dk e h du bQ S=>simp only[Own.mw]at S;subst S;have:=bQ rfl;subst this;have z:=O η 0 0 0 0 0 (by trivial) (by trivial) (by trivial) ε ε ε ε i;exact .same N z (.dk _ _ .nil (λ_=>rfl) rfl) W
  |J l4 k4 len h V l5 xs du H hlen k3 l6 l7 hH l8 S=>trivial
 .rename_i L;rw[L]at p;split at b
  case h_2=>cases b
  rename_i c f d x P hm;split at b
  case isFalse=>cases b
  rename_i r;obtain⟨rfl,rfl,rfl⟩:=r;obtain rfl:=Δ b;have n:=gJ k I x;have E:=gJ k K P;have F:=gJ k M hm;cases p with
  |dk e h du bQ S=>simp only[Own.mw]at S;subst S;have z:=O e 0 0 0 0 0 (by trivial) (by trivial) (by trivial) ε ε ε ε i;refine .same N z ?_ W;unfold sliced;exact .dk _ _ .zero (λ_=>rfl) rfl
  |J l4 k4 len h V l5 xs du H hlen k3 l6 l7 hH l8 S=>trivial
 .cases b
theorem xb{b:Array Value}(h:b.size=e)(E:∀c∈b.toList,c.oneCell'=ζ)(z:0<e)(d:Nat):bp v (Builtin.zeroCells b d) (θ d (b.toList.map dt)).flatten/\(∀p∈(θ d (b.toList.map dt)).flatten,p.one=ζ):=by
 have r:(b.toList.map dt).length=e:=by simp[h]
 refine⟨bp.ee.2 ⟨by simp[size_zeroCells],λx c F f C=>?_⟩,λp k=>?_⟩
 .have y:x<d*e:=by grind[Η,lL]
  rw[x7 _ _ _ (by rw[r];exact y),r,a7Z]at C;rw[a9h]at f;have G:x%e<b.size:=by rw[h];exact a9w _ z
  simp only[Builtin.zeroCells,h]at f;rw[Array.getElem?_map]at f;simp only[abz,y,if_true,a8z,a7G]at f;grind[Array.getElem?_eq_getElem,Option.some.injEq,aW.dt]
 .obtain⟨L,D,k⟩:=ab7.1 k;obtain rfl:=(List.mem_replicate.1 D).2;obtain⟨c,_,rfl⟩:=a7M.1 k;exact oE c
theorem KC(L:TypeId)(f:Operand)(z:o.op=.call {callee:=.builtin .clear,args:=#[f],argTypes:=#[L]})(P:TypeId)(C:q.underlying L=γ (.slice P))(k:TypeInfo)(w:q.info? P=γ k)(c:Value)(A:k.zero=γ c)(S:c.cells.size=k.size)(V:∀f∈c.cells.toList,f.oneCell'=ζ)(W:0<k.size)
  (B:aQ f=ζ) (H:bI v a l) (e:Holds v g m) (y:G ⟨q,u⟩ (.nB k.size (c.cells.toList.map dt) f) l g b2):bM q u o a m v g b2:=by
 have p:=H.ai f B;simp only[G]at y;generalize D:a.eval f=k6 at p;split at y
 case h_2=>trivial
 rename_i k7 d;unfold lJ at d;split at d
 .rename_i r h b E I F;rw[F]at p;split at d
  case h_2=>cases d
  rename_i k8 K;split at d
  case isFalse=>cases d
  rename_i M;obtain⟨rfl,N⟩:=M;obtain rfl:=Δ d;obtain⟨i,j⟩:=xb (v:=v) S V W b;have n:(θ b (c.cells.toList.map dt)).flatten.length=b*k.size:=by rw[lL];simp[S]
  obtain⟨x,T,s,k9,O⟩:=Step.store e K h _ _ i j (by rw[n];exact N);refine .value (v:=.tuple #[]) ?_ O (.undef _) y;have t:=run_storeCells_at q r h T (Builtin.zeroCells c.cells b).toList 0 x m s (by have:=i.1;simp only[aaS];omega) (BA V b);simp only[a9A]at t;have Q:(storeCells ⟨r,h,η⟩ (Builtin.zeroCells c.cells b).toList).run q m=.ok () (m.setRow r (dm x h (Builtin.zeroCells c.cells b).toList)):=by rw[t];rfl
  cases p with
  |bC r h b E I l0 X=>
   cases b with
   |zero=>
    have Y:(Builtin.zeroCells c.cells 0).toList=[]:=a7y (by simp[size_zeroCells]);have Z:dm x h []=x:=by simp[dm]
    rw[Y,Z];have k2:=setRow_self m r x T (0,0) s;simp[execOp,z,resolve,invoke,builtin,D,Builtin.clear_,run_underlying C,k2]
   |succ b=>simp[execOp,z,resolve,invoke,builtin,D,Builtin.clear_,run_underlying C,zeroValue,w,A,typeInfo,Q]
 .rename_i l1 F;rw[F]at p;obtain rfl:=Δ d;have k3:(execOp a.eval o).run q m=.ok (.value (.tuple #[])) m:=by
   cases p with
   |dk k4 E du bQ k5=>cases k4<;>simp[execOp,z,resolve,invoke,builtin,D,Builtin.clear_,run_underlying C]
   |J l2 h len E l3 l4 xs du W n X l5 j hH l6 k5=>simp_all [execOp,resolve,invoke,builtin,Builtin.clear_,run_underlying]
  exact .same e k3 (.undef _) y
 .cases d
theorem KD(F:aW v e8 s)(K:Holds v g m)(c:c8 g e s=γ (i,j))(x:Program)(b:Nat)(r:b<=i):
  ∃y:List Value,(Builtin.firstCells e b e8).run x m=.ok y.toArray m/\bp v y.toArray (j.take (b*e))/\(j.take (b*e)).length=b*e:=by
 have G:∀(L)(P)(S),aW v L P->c8 g e P=γ (b,S)->S=j.take (b*e)->(Builtin.firstCells e b L).run x m=(Builtin.firstCells e b e8).run x m->
   ∃y:List Value,(Builtin.firstCells e b e8).run x m=.ok y.toArray m/\bp v y.toArray (j.take (b*e))/\(j.take (b*e)).length=b*e:=by
  intro L P S M T t N;obtain⟨O,u,Q,k7,_⟩:=x6 M K T x;refine⟨O,by rw[<-N];exact u.cells,?_,by rw[<-t,<-Q];exact u.size⟩;rw[<-t];refine bp.ee.2 ⟨by trivial,λz k8 V k9 l0=>?_⟩;grind
 have l1:=c;unfold c8 at c;split at c
 .rename_i k w;split at c
  case isFalse=>cases c
  rename_i l2;simp only[a7G,a8Q]at c;obtain⟨rfl,rfl⟩:=c;have l3:∀C∈k,β C.cells=e:=by simp_all
  cases F with
  |dk X d w bQ Y=>simp only[a7E,Nat.le_zero]at r;subst r;exact⟨[],by cases X<;>simp[Builtin.firstCells,loadCells,loadCellsFrom],⟨σ,λz V c=>by simp at c⟩,σ⟩
  |J A p len d W Z k w hk hlen B H l4 hH l5 Y=>
   subst hlen;have k2:∀C∈k.take b,β C.cells=W:=λC k3=>H C (a7J k3);have k4:=((gx b H).2).symm;by_cases I:k=[]
   .subst I;simp only[a7E,Nat.le_zero]at r;subst r;exact⟨[],by simp[Builtin.firstCells,loadCells,loadCellsFrom],⟨σ,λz V c=>by simp at c⟩,σ⟩
   obtain rfl:W=e:=by
    match k,I with
    |l6::l7,_=>simp_all
   refine G (.slice (γ ⟨A,p,η⟩) b d) (.J (k.take b) .any) (flat (k.take b)) (.J A p b d W Z (k.take b) .any hk Ι ε k2 (λl8 E=>?_) (λz k5=>hH z (a8F k5 (a7N _ r))) (λz V l9=>?_) trivial) ?_ k4 rfl;grind;grind
   .unfold c8;simp_all
 .rename_i h D d f;split at c
  case h_2=>cases c
  rename_i l n;split at c
  case isFalse=>cases c
  rename_i E;simp only[a7G,a8Q]at c;obtain⟨rfl,rfl⟩:=c;obtain⟨rfl,k6⟩:=E;have T:b*f<=D*f:=a7N _ r;cases F with
  |ar h D d f q B=>refine G (.slice (γ ⟨h,0,η⟩) b d) (.ar h b d f) (l.take (b*f)) (.ar h b d f q ε) ?_ (by grind) rfl;simp only[c8,n];grind
 .rename_i h p D d f;split at c
  case h_2=>cases c
  rename_i l n;split at c
  case isFalse=>cases c
  rename_i E;simp only[a7G,a8Q]at c;obtain⟨rfl,rfl⟩:=c;obtain⟨rfl,k6⟩:=E;have T:b*f<=D*f:=a7N _ r;cases F with
  |bC h p D d f q B=>refine G (.slice (γ ⟨h,p,η⟩) b d) (.bC h p b d f) ((l.drop p).take (b*f)) (.bC h p b d f q ε) ?_ (by grind) rfl;simp only[c8,n];grind
 .cases c
theorem KE(M k5:TypeId)(C D:Operand)(i:o.op=.call {callee:=.builtin .copy,args:=#[C,D],argTypes:=#[M,k5]})(j:TypeId)(n:q.underlying M=γ (.slice j))(d:Nat)(k6:(q.info? j).map (·.size)=γ d)
  (k7:aQ C=ζ) (k8:aQ D=ζ) (N:bI v a l) (S:Holds v g m) (s:G ⟨q,u⟩ (.nC d C D) l g b2):bM q u o a m v g b2:=by
 have x:=N.ai C k7;have O:=N.ai D k8;simp only[G]at s;generalize V:a.eval C=k9 at x;split at s
 case h_2=>trivial
 rename_i n2 n3 c;unfold mG at c;split at c
 case h_2=>cases c
 rename_i k y Q;obtain⟨n4,W,n5,n9,l0⟩:=x6 O S Q q;have a00:=W.size;have a01:β y=k*d:=ε;have X:∀b,∃p:Array Value,(Builtin.firstCells d (min k b) (a.eval D)).run q m=.ok p m/\bp v p (y.take (b*d))/\(y.take (b*d)).length=min k b*d:=by intro b;obtain⟨p,a02,a03,a04⟩:=KD O S Q q (min k b) ε;grind[min,Nat.mul_le_mul_right,Nat.min_eq_left,Λ,Nat.min_eq_right]
 have l1:∃t,q.info? j=γ t/\t.size=d:=by simp_all
 obtain⟨t,w,A⟩:=l1;have a05:∀(f h b r)(z),k9=.slice (γ ⟨f,h,η⟩) b r->g f=γ (.cells z)->h+b*d<=β z->
   b2 (.v (.int .i64 (min k b:Nat))) (g.set f (.cells (putAt z h (y.take (b*d)))))->bM q u o a m v g b2:=by
  intro f h b r z l2 B Y l3;obtain⟨p,E,F,e⟩:=X b;have H:∀I∈y.take (b*d),I.one=true:=λI L=>l0 I (a7J L);have a06:min k b*d<=b*d:=a7N _ ε;obtain⟨Z,T,l4,a07,l5⟩:=Step.store S B h (y.take (b*d)) p F H ε;refine .value ?_ l5 (.v _ rfl) l3;have k2:=run_storeCells_at q f h T p.toList 0 Z m l4 (by have:=F.1;simp;omega) (F.oA H);simp only[a9A]at k2;have l6:(storeCells ⟨f,h,η⟩ p.toList).run q m=.ok () (m.setRow f (dm Z h p.toList)):=by rw[k2];rfl
  have k3:Nat.min k b=min k b:=rfl;rw[l2]at V;simp[execOp,i,resolve,invoke,builtin,V,Builtin.copy_,run_underlying n,W.len,sizeOf,typeInfo,w,A,E,l6,goInt]
 split at c
 .rename_i f h b r K P;rw[P]at x;split at c
  case h_2=>cases c
  rename_i z B;split at c
  case isFalse=>cases c
  rename_i L;obtain⟨rfl,Y⟩:=L;simp only[a7G,a8Q]at c;obtain⟨rfl,rfl⟩:=c;cases x with
  |bC f h b r K l7 k4=>grind
 .rename_i f b r K P;rw[P]at x;split at c
  case h_2=>cases c
  rename_i z B;split at c
  case isFalse=>cases c
  rename_i L;obtain⟨rfl,Y⟩:=L;simp only[a7G,a8Q]at c;obtain⟨rfl,rfl⟩:=c;cases x with
  |ar f b r K l7 k4=>simp_all
 .rename_i a08 P;rw[P]at x;simp only[a7G,a8Q]at c;obtain⟨rfl,rfl⟩:=c;have c:(execOp a.eval o).run q m=.ok (.value (.int .i64 0)) m:=by
   obtain⟨p,E,F,e⟩:=X 0;have k3:Nat.min k 0=0:=Nat.min_zero k;rw[Nat.min_zero]at E;have l8:=aaN (by have:=F.1;simp at this;simpa using this);subst l8;cases x with
   |dk l9 r du bQ n0=>cases l9<;>simp[execOp,i,resolve,invoke,builtin,V,Builtin.copy_,run_underlying n,W.len,sizeOf,typeInfo,w,A,k3,E,goInt,storeCells]
   |J a09 h len r d a10 xs du k6 e k4 a11 H hH a13 n0=>simp at e;subst e;simp[execOp,i,resolve,invoke,builtin,V,Builtin.copy_,run_underlying n,W.len,sizeOf,typeInfo,w,A,E,goInt,storeCells]
  exact .same S c (.v _ rfl) s
 .cases c
def KF(k:FuncId)(c:Func)(d f h:Operand)(S:Array TypeId)(T:o.op=.call {callee:=.value (.func k),args:=#[d,f,h],argTypes:=S})(V:q.funcs[k]?=γ c) (W:(c.name== "runtime.NumGoroutine")=κ) (e:c.body.isNone=ζ) (i:Extern.findNext c=η)
  (j:Extern.find c=γ add64Entry) (n:aQ d=ζ) (s:aQ f=ζ) (t:aQ h=ζ) (y:bI v a l) (w:Holds v g m) (z:G ⟨q,u⟩ (.pE d f h) l g b2):bM q u o a m v g b2:=by
 have C:=y.ai d n;have D:=y.ai f s;have E:=y.ai h t;simp only[G]at z;generalize A:a.eval d=k2 at C;generalize B:a.eval f=k3 at D;generalize H:a.eval h=k4 at E;split at z
 case h_2=>trivial
 rename_i k5 b;unfold sz at b;split at b
 case h_2=>cases b
 rename_i p r x I K M;split at b
 case isFalse=>cases b
 rename_i N;obtain⟨O,Q,X,Y⟩:=N;obtain rfl:=Δ b;rw[I]at C;rw[K]at D;rw[M]at E;cases C;cases D;cases E;have F:=run_callFunc_extern V W e i j #[.int .u64 p,.int .u64 r,.int .u64 x] m;rw[run_add64 p r x O Q X Y]at F;simp only[Result.andThen_ok]at F;have Z:a.eval (.func k)=.func (.func k) #[] #[]:=rfl;refine .same w (v:=.tuple #[.int .u64 ((p+r+x)%18446744073709551616),.int .u64 ((p+r+x)/18446744073709551616)]) ?_ (.aJ _ _ rfl (λP k6 L=>?_)) z
 .simp[execOp,T,resolve,Z,Deferred.ofValue,invoke,A,B,H,F]
 .match P with
  |0=>obtain rfl:=Δ L;exact .v _ rfl
  |1=>obtain rfl:=Δ L;exact .v _ rfl
  |P+2=>simp at L
theorem KG(x:FuncId)(f:Func)(h k:Operand)(M:Array TypeId)(N:o.op=.call {callee:=.value (.func x),args:=#[h,k],argTypes:=M})(O:q.funcs[x]?=γ f) (Q:(f.name== "runtime.NumGoroutine")=κ) (X:f.body.isNone=ζ) (Y:Extern.findNext f=η)
  (c:TypeId) (z:Array TypeId) (Z:Extern.find f=γ (Extern.SlicesOverlaps.overlaps #[c,c] z)) (p:TypeId) (k2:q.underlying c=γ (.slice p)) (C:Nat) (k3:(q.info? p).map (·.size)=γ C)
  (k4:aQ h=ζ) (k5:aQ k=ζ) (w:bI v a l) (A:Holds v g m) (D:G ⟨q,u⟩ (.nE h k) l g b2):bM q u o a m v g b2:=by
 have B:=w.ai h k4;have H:=w.ai k k5;simp only[G]at D;generalize k6:a.eval h=a03 at B;generalize k7:a.eval k=a04 at H;split at D
 case h_2=>trivial
 rename_i a05 d;unfold lK at d;split at d
 case h_2=>cases d
 rename_i E F k8 k9;split at d
 case isFalse=>cases d
 rename_i l0;obtain⟨l1,l2,l3⟩:=l0;obtain rfl:=Δ d;have I:∀(L:R)(P:Value)(b:Nat),c5 L=γ b->aW v P L->∃l4 l5 l6,P=.slice (γ ⟨b,l4,η⟩) l5 l6:=by
  intro L P b r S;cases S<;>simp only[c5,a7G,reduceCtorEq]at r
  .subst r;simp
  .subst r;simp
 have K:∀b,kO g b=ζ->∃y T,m.heap[b]?=γ (.cells y T (0,0))/\y.size≠0:=by
  intro b V;unfold kO at V;split at V
  .rename_i a06 a07 l7;obtain⟨_,y,T,r,S,_⟩:=A.dN b _ l7;exact⟨y,T,r,by rw[S.1];simp⟩
  .cases V
 obtain⟨W,e,i,rfl⟩:=I _ _ _ k8 B;obtain⟨j,n,c2,rfl⟩:=I _ _ _ k9 H;obtain⟨l8,l9,s,a08⟩:=K _ l2;obtain⟨n0,n2,n3,n4⟩:=K _ l3;have n5:∀m,(Go.sizeOf p).run q m=.ok C m:=by
  intro m;cases n9:q.info? p with
  |none=>simp[n9]at k3
  |some ii=>simp_all [sizeOf,typeInfo]
 have a00:=Lib.run_overlaps_apart m c (z.getD 0 0) p k2 C n5 ⟨E,W,η⟩ ⟨F,j,η⟩ e i n c2 l1 l9 n2 l8.size n0.size (by simp[World.shape?,s]) (by simp[World.shape?,n3]) n4 (by simp[World.frozen?,s]) (by simp[World.frozen?,s]);have a01:(Extern.SlicesOverlaps.overlaps #[c,c] z #[.slice (γ ⟨E,W,η⟩) e i,.slice (γ ⟨F,j,η⟩) n c2]).run q m=.ok (.bool κ) m:=a00;have t:=run_callFunc_extern O Q X Y Z #[.slice (γ ⟨E,W,η⟩) e i,.slice (γ ⟨F,j,η⟩) n c2] m;rw[a01]at t;simp only[Result.andThen_ok]at t;refine .same A ?_ (.v _ rfl) D;have a02:a.eval (.func x)=.func (.func x) #[] #[]:=rfl;simp[execOp,N,resolve,a02,Deferred.ofValue,invoke,k6,k7,t]
def BH(f:World)(r x D k:TypeId)(d:TypeInfo)(p:Value)(E:IntKind)(F:q.underlying r=γ (.slice k))(G:q.underlying x=γ (.int E))
  (L:q.info? k=γ d) (P:d.zero=γ p) (y:Option Addr) (c h:Nat) (z:List Value) (u:0<d.size)
  (S:(Builtin.firstCells d.size c (.slice y c h)).run q f.drew=.ok z.toArray f.drew)
  (b:Nat) (v:0<b) (T:h<c+b) (w:((c+b:Nat):Int)<=9223372036854775807) (V:(c+b)*d.bytes<=140737488355328):
  (Builtin.append_ #[r,x] D #[.slice y c h,.int .i64 b]).run q f=
   .ok (.slice (γ ⟨f.heap.size,0,η⟩) (c+b) (grownCap f (c+b) h k))
    (f.drew.alloc (.cells (z.toArray++Builtin.zeroCells p.cells b++Builtin.zeroCells p.cells (grownCap f (c+b) h k -(c+b))) k)):=by
 have W:¬(c+b<=h):=ε;have e:¬(9223372036854775807<((c)+(b:Int))):=ε;have g:¬(281474976710656<Builtin.nextslicecap (c+b) h*d.bytes):=by have:=growslice_fits T V;omega
 have i:IntKind.i64.wrap (b)=b:=by rw[IntKind.wrap_i64];omega
 have j:¬((b:Int)<0):=ε;have A:b*d.bytes<=(c+b)*d.bytes:=a7N _ ε;have l:¬(281474976710656<(b)*(d.bytes:Int)):=by rw[<-Int.natCast_mul];omega
 have C:b≠0:=ε;have m:¬(b*d.size=0):=Nat.mul_ne_zero C ε;have n:=λs=>run_underlying G s;have t:¬(d.size=0):=ε;simp[Builtin.append_,run_underlying F,n,sizeOf,typeInfo,zeroValue,L,P,asInt,asIntOf,i,j,W,m,C,t,e,g,l,Question.forced,S,newRow,grownCap]
theorem KH{C:bf}(p r:Operand)(y z:TypeId)(t:IntKind)(k3:q.underlying z=γ (.int t))(k4:o.op=.call {callee:=.builtin .append,args:=#[p,r],argTypes:=#[y,z]})(h:TypeId)(k5:q.underlying y=γ (.slice h))(d:TypeInfo)(k6:q.info? h=γ d)(k:Value)(k7:d.zero=γ k)
  (w:k.cells.size=d.size) (k8:∀p∈k.cells.toList,p.oneCell'=ζ) (x:0<d.size) (l6:aQ p=ζ) (l7:aQ r=ζ) (k9:bI C a l) (P:Holds C g m) (S:G ⟨q,u⟩ (.nD d.size d.bytes (k.cells.toList.map dt) p r) l g b2):bM q u o a m C g b2:=by
 have D:=k9.ai p l6;have V:=k9.ai r l7;simp only[G]at S;generalize l0:a.eval p=l8 at D;generalize l1:a.eval r=a05 at V;have newRow:∀(A:List Value)(b c f)(e),bp C A.toArray e->(∀W∈e,W.one=ζ)->b+c<=f->
   ∃E:ύ,β E=(f -(b+c))*d.size/\Step C g m C (g.set m.heap.size (.cells (e++(θ c (k.cells.toList.map dt)).flatten++E))) (m.drew.alloc (.cells (A.toArray++Builtin.zeroCells k.cells c++Builtin.zeroCells k.cells (f -(b+c))) h)):=by
  intro A b c f e B H I;obtain⟨l9,a06⟩:=xb w k8 x c;obtain⟨n0,a07⟩:=xb w k8 x (f -(b+c));refine⟨(θ (f -(b+c)) (k.cells.toList.map dt)).flatten,by rw[lL];simp[w],?_⟩;refine(Step.drew P).trans (Step.new P.drew _ h _ (λW i=>?_) (bp.append (bp.append B l9) n0));grind
 split at S
 .rename_i j b f a08 c K M;rw[K]at D;rw[M]at V;obtain rfl:=V.dy;split at S
  case h_2=>trivial
  rename_i N n2;obtain⟨rfl,n3,l2,n4,O,n5,Q⟩:=S;obtain⟨H,X,T,a09,a10,l3⟩:=P.read n2;have a11:=l3.1;have Y:=a9g l2;cases D with
  |ar j b f n9 a13 I=>
   have a14:b*d.size<=β N:=by rw[n3];exact a7N _ I
   have a00:(X.toList.take (b*d.size)).length=b*d.size:=Ι;have a01:(Builtin.firstCells d.size b (.slice (γ ⟨j,0,η⟩) b f)).run q m.drew=.ok (X.toList.take (b*d.size)).toArray m.drew:=by
    refine run_firstCells_some m.drew d.size b ⟨j,0,η⟩ b f _ a00 (λl4 v D=>?_);have a15:l4<b*d.size:=by grind
    rw[hM,a7X];show m.cell? _= _;grind[cell_of_row,List.getElem?_take_of_lt]
   have F:=BH m y z o.type h d k t k5 k3 k6 k7 (γ ⟨j,0,η⟩) b f _ x a01 c.toNat ε n4 ε O;rw[Y]at F;have L:=grownCap_ge m (b+c.toNat) f h;have Z:=grownCap_le_maxLen m (b+c.toNat) f h (by unfold maxLen;omega);have B:bp C (X.toList.take (b*d.size)).toArray (N.take (b*d.size)):=by rw[bp.ee]at l3|-;grind
   obtain⟨E,n,s⟩:=newRow _ b c.toNat (grownCap m (b+c.toNat) f h) (N.take (b*d.size)) B (λW i=>H W (a7J i)) L;exact .value (jm p r y z k4 (by rw[l0,l1];exact F)) s (.ar _ _ _ _ x L) (Q _ _ E P.eD L Z n)
 .rename_i a02 l5 c K M;rw[K]at D;rw[M]at V;obtain rfl:=V.dy;obtain⟨rfl,rfl,l2,O,n5,Q⟩:=S;have Y:((c.toNat))=c:=a9g ε;have a03:l8=.slice η 0 0:=by
   cases D with
   |dk a16 f l5 bQ k2=>simp only[Own.mw]at k2;subst k2;rw[bQ rfl]
   |J a18 off len f n9 a19 a02 l5 x hlen I a27 H hH a29 k2=>trivial
  subst a03;have F:=BH m y z o.type h d k t k5 k3 k6 k7 η 0 0 [] x abY c.toNat ε ε ε (by simpa using O);rw[Y]at F;simp only[a7X]at F;have L:=grownCap_ge m c.toNat 0 h;have Z:=grownCap_le_maxLen m c.toNat 0 h (by unfold maxLen;omega);obtain⟨E,n,s⟩:=newRow [] 0 c.toNat (grownCap m c.toNat 0 h) [] ⟨rfl,λl4 a30 a04=>by simp at a04⟩ (λW i=>by simp at i) ε;simp only[a7X,a7T]at s n;exact .value (jm p r y z k4 (by rw[l0,l1];exact F)) s (.ar _ _ _ _ x L) (Q _ _ E P.eD L Z n)
 .trivial
end
def kd(a:Program)(b:TypeId):Option Nat:=(a.info? b).map (·.size)
def placeOf(a:Program)(f:TypeId)(b:Nat):Option (Nat×Nat):=
 match a.underlying f with
 |some (.struct h)=>(h.toList.mapM (λc=>(a.info? c.type).map λk=>(c.offset,k.size))).bind λo=>o[b]?
 |some (.array _ p)=>(a.info? p).map λd=>(b*d.size,d.size)
 |_=>η
def xc(a:Program)(c:TypeId):Bool:=
 match a.underlying c with
 |some (.struct d)=>(d.toList.mapM (λb=>(a.info? b.type).map λf=>(b.offset,f.size))).isSome
 |some (.array _ h)=>(a.info? h).isSome
 |_=>κ
def sD(b:Program)(c:TypeId):Option (Array Value):=
 match b.info? c with
 |some d=>match d.zero with
  |some a=>if a.cells.toList.all (·.oneCell')then γ a.cells else η
  |none=>η
 |none=>η
def BI(b:Program)(c:TypeId)(a:Nat×Operand):Option (Nat×Nat×Operand):=
 match placeOf b c a.1 with
 |some (off,ch)=>if 0<ch/\aQ a.2=ζ then γ (off,ch,a.2)else η
 |none=>η
def sE(a:Program)(b:TypeId):List (Nat×Operand)->Option (List (Nat×Nat×Operand))
 |[]=>γ []
 |c::d=>match BI a b c,sE a b d with
  |some f,γ h=>γ (f::h)
  |_,_=>η
def sF:Nat->List (Nat×Operand)->Option (List Operand)
 |_,[]=>γ []
 |a,(c,b)::d=>if a=c/\aQ b=ζ then(sF (a+1) d).map (b:: ·)else η
def BJ(a:Program)(b:TypeId)(c:Operand):Option cg:=
 match a.underlying b,kd a b with
 |some d,γ f=>if aQ c=ζ/\(d.isRow=ζ\/f=1)then γ (.load d.isRow f c)else η
 |_,_=>η
structure Env where
 jZ:ϋ
 BK:ϋ
 wr:ϋ
 ui:ϋ
 ty:Bool
 mI:Bool
 pins:ϋ:=[]
 BL:Bool:=κ
 xd:Bool:=κ
def Env.KI(a:Env):Operand->Bool
 |.tmp b=>a.BK.contains b
 |_=>κ
def Env.fW(a:Env):Option Nat->Bool
 |some b=> !a.wr.contains b
 |none=>ζ
def Env.mut(a:Env):Option Nat->Bool
 |some b=>a.ui.contains b
 |none=>κ
def Env.box(a:Env):Option Nat->Bool
 |some b=>a.jZ.contains b
 |none=>κ
def xe(f:Program)(k:Env)(p:Option Nat)(r:TypeId)(a:Operand)(c d x:Option Operand):Option cg:=
 if aQ a=ζ/\c.all aQ=ζ/\d.all aQ=ζ then
  match f.underlying r,x with
  |some (.slice h),η=>match kd f h with
   |some b=>γ (.pC b a c d)
   |none=>η
  |some (.array o h),η=>match kd f h with
   |some b=>if 0<b then γ (if k.KI a=ζ then .kI b o a c d else .mA b o a c d (k.fW p))else η
   |none=>η
  |_,_=>η
 else η
def KJ:Operand->Bool
 |.const (.pointer η)=>ζ
 |_=>κ
def uj(b:Program)(c:Bool)(f:TypeId)(d a:Operand):Option cg:=
 match b.underlying f with
 |some .bool=>γ (.qO c d a)
 |some (.slice _)=>match a with
  |.const (.slice η 0 0)=>γ (.nx c d)
  |_=>η
 |some (.pointer h)=>match b.info? h with
  |some k=>if k.size≠0 then γ (if KJ a=ζ then .qN c d a else .nv c d a)else η
  |none=>η
 |some (.int _)=>γ (.bin (if c then .neq else .eql) d a)
 |some .string=>γ (.bin (if c then .neq else .eql) d a)
 |some o=>match flatK b 20 f with
  |some bF=>if b.cellsOf f=β bF/\(b.info? f).isSome=ζ/\o.isRow=ζ/\b.eqGuardType b.depth f=κ then γ (.eqv c (nG bF) d a)else η
  |none=>η
 |none=>η
def xf(d:Program)(r:Env)(x:Option Nat)(h:Call):Option cg:=
 match h.callee,h.args.toList,h.argTypes.toList with
 |.value (.func o),args,_=>if gw d o=ζ/\args.all aQ=ζ then γ (.gv o args)else η
 |.builtin .len,[a],[f]=>match d.underlying f with
  |some (.slice _)=>if aQ a=ζ then γ (.len a)else η
  |some .string=>if aQ a=ζ then γ (.qM a)else η
  |some (.map _ _)=>if aQ a=ζ then γ (.pD a)else η
  |_=>η
 |.builtin .append,[a,b],[f,y]=>match d.underlying f with
  |some (.slice k)=>match d.info? k with
   |some c=>match c.zero with
    |some p=>if f=y/\p.cells.size=c.size/\0<c.size/\aQ a=ζ/\aQ b=ζ then(if r.mut x=ζ then(if p.cells.toList.all (·.oneCell')=ζ then γ (.mC c.size c.bytes a b)else η)else γ (.app c.size c.bytes a b))else η
    |none=>η
   |none=>η
  |_=>η
 |.builtin .max,[a,b],_=>if aQ a=ζ/\aQ b=ζ then γ (.mB ζ .i64 a b)else η
 |.builtin .min,[a,b],_=>if aQ a=ζ/\aQ b=ζ then γ (.mB κ .i64 a b)else η
 |.builtin .copy,[a,b],[f,_]=>match d.underlying f with
  |some (.slice k)=>match kd d k with
   |some z=>if aQ a=ζ/\aQ b=ζ then γ (.nw z a b)else η
   |none=>η
  |_=>η
 |_,_,_=>η
def xg(b:Program)(y:Env)(r:Oper):Option cg:=
 match r.op with
 |.move a|.assign a=>if aQ a=ζ then γ (.dP a)else η
 |.pick z a h=>if aQ z=ζ/\aQ a=ζ/\aQ h=ζ then γ (.pick z a h)else η
 |.alloc T=>match sD b T with
  |some k=>γ (.alloc T (k.toList.map dt))
  |none=>η
 |.box T a=>if aQ a=ζ then γ (if y.box r.dst=ζ then .lG T a else .box T a)else η
 |.load d a=>BJ b d a
 |.store d a h=>match kd b d with
  |some o=>if 0<o/\aQ a=ζ/\aQ h=ζ then γ (.store o a h)else η
  |none=>η
 |.nilCheck a=>if aQ a=ζ then γ (.qJ a)else η
 |.fieldAddr d a c=>match b.underlying d with
  |some (.struct C)=>match C[c]? with
   |some fd=>match kd b fd.type with
    |some o=>if o≠0/\aQ a=ζ then γ (.lH fd.offset a)else η
    |none=>η
   |none=>η
  |_=>η
 |.indexAddr d a c=>if aQ a=ζ/\aQ c=ζ then
   match b.underlying d with
   |some (.array len f)=>match kd b f with
    |some p=>γ (.qK p len a c)
    |none=>η
   |some (.slice f)=>match kd b f with
    |some p=>γ (.dZ p a c)
    |none=>η
   |_=>η
  else η
 |.field d a c=>match b.underlying d with
  |some (.struct C)=>match C[c]? with
   |some fd=>match b.underlying fd.type,kd b fd.type with
    |some x,γ o=>if aQ a=ζ/\(x.isRow=ζ\/o=1)then γ (.ss x.isRow fd.offset o a)else η
    |_,_=>η
   |none=>η
  |_=>η
 |.index d a c=>if aQ a=ζ/\aQ c=ζ then
   match b.underlying d with
   |some (.array len f)=>match b.underlying f,kd b f with
    |some x,γ p=>if x.isRow=ζ\/p=1 then γ (.qL x.isRow p len a c)else η
    |_,_=>η
   |some .string=>γ (.my a c)
   |_=>η
  else η
 |.build d parts=>match sD b d,sE b d parts.toList with
  |some k,γ res=>if xc b d=ζ then γ (.mz (k.toList.map dt) res)else η
  |_,_=>η
 |.buildSlice d o parts=>match b.underlying d,sF 0 parts.toList with
  |some (.slice f),γ xs=>match b.info? f with
   |some c=>match c.zero with
    |some k=>if k.cells.size=c.size/\k.cells.toList.all (·.oneCell')=ζ/\0<c.size/\o*c.size<=2^24/\β xs=o then γ (if y.mut r.dst=ζ then .kK c.size xs else .kH c.size xs)else η
    |none=>η
   |none=>η
  |_,_=>η
 |.slice d a az aE ho=>xe b y r.dst d a az aE ho
 |.binOp op d a h _=>if aQ a=ζ/\aQ h=ζ then
   match op with
   |.eql=>uj b κ d a h
   |.neq=>uj b ζ d a h
   |op=>γ (.bin op a h)
  else η
 |.unOp op _ a=>if aQ a=ζ then γ (.un op a)else η
 |.convert st D a=>match b.underlying st,b.underlying D with
  |some (.int _),γ (.int p)=>if aQ a=ζ then γ (.jk p a)else η
  |some (.slice f),γ .string=>match b.underlying f with
   |some (.int .u8)=>if aQ a=ζ then γ (.qP a)else η
   |_=>η
  |some .string,γ (.slice f)=>match b.underlying f with
   |some (.int .u8)=>if aQ a=ζ then γ (.su a)else η
   |_=>η
  |_,_=>η
 |.makeSlice d a h=>match b.underlying d with
  |some (.slice f)=>match b.info? f with
   |some c=>match c.zero with
    |some k=>if k.cells.size=c.size/\k.cells.toList.all (·.oneCell')=ζ/\0<c.size/\aQ a=ζ/\aQ h=ζ then γ (.kJ c.size c.bytes (k.cells.toList.map dt) a h)else η
    |none=>η
   |none=>η
  |_=>η
 |.extract a c=>if aQ a=ζ then γ (.ext a c)else η
 |.call z=>xf b y r.dst z
 |_=>η
variable{e6:cg}{M:Bool}{a8 e9:Operand}{K:Type}{b6:TypeId}
section
variable{o:Oper}{a:Act}
def uk{b:TypeDesc}(c:b.isRow=ζ\/e=1):b.isRow=κ->e=1:=λd=>c.resolve_left (by simp[d])
theorem xh{b:Array Value}(d:sD q b6=γ b):∃c v,q.info? b6=γ c/\c.zero=γ v/\v.cells=b/\∀f∈b.toList,f.oneCell'=true:=by unfold sD at d;grind
theorem KK{b:Array Value}(d:sD q b6=γ b)(f:xc q b6=ζ)(c:List (Nat×Value)):q.built b6 c=Instr.fill (placeOf q b6) b c:=by obtain⟨h,v,k,p,rfl,_⟩:=xh d;unfold xc at f;unfold Program.built placeOf;grind[Option.isSome_iff_exists]
theorem BM{r:TypeId}:∀ {p:List (Nat×Operand)}{res:List (Nat×Nat×Operand)},sE q r p=γ res->β p=β res/\
  ∀(d:Nat)(f:Nat×Operand)(b:Nat×Nat×Operand),p[d]?=γ f->res[d]?=γ b->placeOf q r f.1=γ (b.1,b.2.1)/\f.2=b.2.2/\aQ f.2=ζ/\0<b.2.1
 |[],res,c=>by
  simp only[sE,a7G]at c;simp_all
 |f::p,res,c=>by
  simp only[sE]at c;split at c
  case h_2=>cases c
  rename_i b C x y;obtain rfl:=Δ c;obtain⟨z,D⟩:=BM y;refine⟨by simp[z],λd E F h k=>?_⟩
  match d,h,k with
  |0,h,k=>simp only[aad,a7G]at h k;subst h;subst k;unfold BI at x;grind
  |d+1,h,k=>grind
theorem BN:∀ {d:Nat}{f:List (Nat×Operand)}{c:List Operand},sF d f=γ c->f=(c.zipIdx d).map (λh=>(h.2,h.1))/\∀k∈c,aQ k=ζ
 |d,[],c,b=>by
  simp only[sF,a7G]at b;simp_all
 |d,(r,k)::x,c,b=>by
  simp only[sF]at b;split at b
  case isFalse=>cases b
  rename_i y;obtain⟨z,p,rfl⟩:=aai.1 b;obtain⟨C,D⟩:=BN p;simp_all
def qT{b:Array K}{c:K}(d:b.toList=[c]):b=#[c]:=aaH.1 d
def jn{b:Array K}{c d:K}(f:b.toList=[c,d]):b=#[c,d]:=aaH.1 f
theorem KL{L:Env}{P:Option Nat}{d f D:Option Operand}(y:o.op=.slice b6 a8 d f D)(b:xe q L P b6 a8 d f D=γ e6)(z:bI v a l)(C:Holds v g m)(h:G ⟨q,u⟩ e6 l g b2):bM q u o a m v g b2:=by
 unfold xe at b;split at b
 case isFalse=>cases b
 rename_i c;split at b
 .rename_i k p;split at b
  case h_2=>cases b
  rename_i r x;obtain rfl:=Δ b;exact K4 b6 a8 d f y k p r x c.1 c.2.1 c.2.2 z C h
 .rename_i E k p;split at b
  case h_2=>cases b
  rename_i r x;split at b
  case isFalse=>cases b
  rename_i F;obtain rfl:=Δ b;split at h
  .exact Kb b6 a8 d f y E k p r x F c.1 c.2.1 c.2.2 z C h
  .exact Bu b6 a8 d f y E k p r x F _ c.1 c.2.1 c.2.2 z C h
 .cases b
theorem BO{c:TypeId}(f:o.op=.binOp (if M then .neq else .eql) b6 a8 e9 c)(h:aQ a8=ζ)(x:aQ e9=ζ)(b:uj q M b6 a8 e9=γ e6)(k:bI v a l)(p:Holds v g m)(r:G ⟨q,u⟩ e6 l g b2):bM q u o a m v g b2:=by
 unfold uj at b;split at b
 .rename_i d;obtain rfl:=Δ b;exact K1 M b6 a8 e9 c f d h x k p r
 .rename_i y d;split at b
  .obtain rfl:=Δ b;exact Kf M b6 a8 c f y d h k p r
  .cases b
 .rename_i y d;split at b
  .rename_i C D;split at b
   .rename_i z;split at b
    .obtain rfl:=Δ b;exact K2 M b6 a8 e9 c f y d C D z h x k p r
    .obtain rfl:=Δ b;exact Kk M b6 a8 e9 c f y d C D z h x k p r
   .cases b
  .cases b
 .obtain rfl:=Δ b;exact x3 _ b6 a8 e9 c f h x k p r
 .obtain rfl:=Δ b;exact x3 _ b6 a8 e9 c f h x k p r
 .rename_i E _ _ _ _ _ d;split at b
  case h_2=>cases b
  rename_i F L;split at b
  case isFalse=>cases b
  rename_i z;obtain rfl:=Δ b;grind[K0]
 .cases b
theorem KM{T:Env}{V:Option Nat}{L:Call}(z:o.op=.call L)(b:xf q T V L=γ e6)(C:bI v a l)(D:Holds v g m)(E:G ⟨q,u⟩ e6 l g b2):bM q u o a m v g b2:=by
 obtain⟨H,I,K⟩:=L;unfold xf at b;split at b
 .rename_i M c;simp only at c;subst c;split at b
  case isFalse=>cases b
  rename_i d;obtain rfl:=Δ b;obtain⟨x,P⟩:=d;unfold gw at x;split at x
  case h_2=>cases x
  rename_i N O;simp only[Κ,bne_iff_ne,ne_eq]at x;grind[K3,List.all_eq_true]
 .rename_i k p c f r;simp only at c f r;subst c;obtain rfl:=qT f;obtain rfl:=qT r;split at b
  .rename_i y h;split at b
   case isFalse=>cases b
   rename_i d;obtain rfl:=Δ b;exact JU p k z y h d C D E
  .rename_i h;split at b
   case isFalse=>cases b
   rename_i d;obtain rfl:=Δ b;exact JV p k z h d C D E
  .rename_i W e h;split at b
   case isFalse=>cases b
   rename_i d;obtain rfl:=Δ b;exact Kw p k z W e h d C D E
  .cases b
 .rename_i k F p S c f r;simp only at c f r;subst c;obtain rfl:=jn f;obtain rfl:=jn r;split at b
  case h_2=>cases b
  rename_i y h;split at b
  case h_2=>cases b
  rename_i i j;split at b
  case h_2=>cases b
  rename_i n s;split at b
  case isFalse=>cases b
  rename_i d;obtain⟨rfl,x,P,t,w⟩:=d;split at b
  .split at b
   case isFalse=>cases b
   rename_i Q;obtain rfl:=Δ b;exact BB k F p p _ h (.inl ⟨y,rfl⟩) z y h i j n s x (by grind) P t w C D E
  .obtain rfl:=Δ b;grind[K8]
 .rename_i k F c f;simp only at c f;subst c;obtain rfl:=jn f;split at b
  case isFalse=>cases b
  rename_i d;obtain rfl:=Δ b;grind[BC]
 .rename_i k F c f;simp only at c f;subst c;obtain rfl:=jn f;split at b
  case isFalse=>cases b
  rename_i d;obtain rfl:=Δ b;grind[BC]
 .rename_i k F p S c f r;simp only at c f r;subst c;obtain rfl:=jn f;obtain rfl:=jn r;split at b
  case h_2=>cases b
  rename_i y h;split at b
  case h_2=>cases b
  rename_i A B;split at b
  case isFalse=>cases b
  rename_i d;obtain rfl:=Δ b;exact Ke p S k F z y h A B d.1 d.2 C D E
 .cases b
theorem KN{I:bf}{O:Env}(b:xg q O o=γ e6)(r:bI I a l)(k:Holds I g m)(p:G ⟨q,u⟩ e6 l g b2):bM q u o a m I g b2:=by
 unfold xg at b;split at b
 case h_1 d c=>split at b;(rename_i x;obtain rfl:=Δ b;exact Bp d (.inl c) x r k p);(cases b)
 case h_2 d c=>split at b;(rename_i x;obtain rfl:=Δ b;exact Bp d (.inr c) x r k p);(cases b)
 case h_3 Q d S c=>split at b;(rename_i x;obtain rfl:=Δ b;grind[JL]);(cases b)
 case h_4 T c=>
  split at b
  .rename_i j P;obtain rfl:=Δ b;obtain⟨y,v,i,K,rfl,n⟩:=xh P;exact JJ T c y i v K n k p
  .cases b
 case h_5 T d c=>
  split at b
  .rename_i x;obtain rfl:=Δ b;grind[Ka,JK]
  .cases b
 case h_6 h d c=>
  unfold BJ at b;split at b
  .rename_i V E z F;split at b
   .rename_i f;obtain rfl:=Δ b;exact JG h d c V z E F (uk f.2) f.1 r k p
   .cases b
  .cases b
 case h_7 h d S c=>
  split at b
  .rename_i E F;split at b
   .rename_i f;obtain rfl:=Δ b;exact JI h d S c E F f.1 f.2.1 f.2.2 r k p
   .cases b
  .cases b
 case h_8 d c=>split at b;(rename_i x;obtain rfl:=Δ b;exact JM d c x r k p);(cases b)
 case h_9 h d y c=>
  split at b
  .rename_i s z;split at b
   .rename_i t w;split at b
    .rename_i E F;split at b
     .rename_i f;obtain rfl:=Δ b;exact JN h d y c s z t w E F f.1 f.2 r k p
     .cases b
    .cases b
   .cases b
  .cases b
 case h_10 h d y c=>
  split at b
  case isFalse=>cases b
  rename_i f;split at b
  .rename_i len C z;split at b
   .rename_i L W;obtain rfl:=Δ b;exact JO h d y c len C z L W f.1 f.2 r k p
   .cases b
  .rename_i C z;split at b
   .rename_i L W;obtain rfl:=Δ b;exact JP h d y c C z L W f.1 f.2 r k p
   .cases b
  .cases b
 case h_11 h d y c=>
  split at b
  .rename_i s z;split at b
   .rename_i t w;split at b
    .rename_i V E D F;split at b
     .rename_i f;obtain rfl:=Δ b;exact JQ h d y c s z t w V D E F (uk f.2) f.1 r k p
     .cases b
    .cases b
   .cases b
  .cases b
 case h_12 h d y c=>
  split at b
  case isFalse=>cases b
  rename_i f;split at b
  .rename_i len C z;split at b
   .rename_i V L D W;split at b
    .rename_i X;obtain rfl:=Δ b;exact JR h d y c len C z V D L W (uk X) f.1 f.2 r k p
    .cases b
   .cases b
  .rename_i z;obtain rfl:=Δ b;exact JS h d y c z f.1 f.2 r k p
  .cases b
 case h_13 h M c=>
  split at b
  .rename_i j res P Y;split at b
   .rename_i Z;obtain rfl:=Δ b;obtain⟨y,v,i,K,rfl,n⟩:=xh P;obtain⟨k2,k3⟩:=BM Y;exact K6 h M c (placeOf q h) _ res (KK P Z) n k2 k3 r k p
   .cases b
  .cases b
 case h_14 h E M c=>
  split at b
  .rename_i C k7 z k4;split at b
   .rename_i y i;split at b
    .rename_i j P;split at b
     .rename_i f;obtain rfl:=Δ b;obtain⟨k8,k9⟩:=BN k4;grind[K7,List.all_eq_true,Bz]
     .cases b
    .cases b
   .cases b
  .cases b
 grind[KL]
 case h_16 N h d S k5 c=>
  split at b
  case isFalse=>cases b
  rename_i f;split at b;grind[BO];grind[BO]
  .obtain rfl:=Δ b;exact x3 _ h d S k5 c f.1 f.2 r k p
 case h_17 N h d c=>split at b;(rename_i x;obtain rfl:=Δ b;exact JY N h d c x r k p);(cases b)
 case h_18 A B d c=>
  split at b
  .rename_i k6 L e D;split at b
   .rename_i x;obtain rfl:=Δ b;exact JZ A B d c L k6 e D x r k p
   .cases b
  .rename_i C e D;split at b
   .rename_i H;split at b
    .rename_i x;obtain rfl:=Δ b;exact Kc A B d c C e H D x r k p
    .cases b
   .cases b
  .rename_i C e D;split at b
   .rename_i H;split at b
    .rename_i x;obtain rfl:=Δ b;exact Kg A B d c C e D H x r k p
    .cases b
   .cases b
  .cases b
 case h_19 h d S c=>
  split at b
  case h_2=>cases b
  rename_i C z;split at b
  case h_2=>cases b
  rename_i y i;split at b
  case h_2=>cases b
  rename_i j P;split at b
  case isFalse=>cases b
  rename_i f;obtain rfl:=Δ b;grind[Kd,List.all_eq_true]
 case h_20 d y c=>split at b;(rename_i x;obtain rfl:=Δ b;exact JT d y c x r k p);(cases b)
 case h_21 Q c=>exact KM c b r k p
 .cases b
end
def BP(a:Program)(b:TypeId):Bool:=
 match a.underlying b with
 |some (.slice _)=>ζ
 |some .string=>ζ
 |_=>κ
def xi(b:Program)(o:Env)(p:Option Nat)(c d:Operand)(f h:TypeId):Option cg:=
 match b.underlying f with
 |some (.slice r)=>match b.info? r with
  |some a=>match a.zero with
   |some k=>if BP b h=ζ/\k.cells.size=a.size/\k.cells.toList.all (·.oneCell')=ζ/\0<a.size/\aQ c=ζ/\aQ d=ζ then
     (if f≠h/\o.mut p=ζ then γ (.mC a.size a.bytes c d)else η)else η
   |none=>η
  |none=>η
 |_=>η
def xj(b:Program)(c:Env)(d:Option Nat)(a:Call):Option cg:=
 match a.callee,a.args.toList,a.argTypes.toList with
 |.value (.tmp f),args,_=>if args.all aQ=ζ then γ (.jl (.tmp f) args)else η
 |.builtin .append,[h,k],[o,p]=>xi b c d h k o p
 |_,_,_=>η
def BQ:TypeDesc->Bool
 |.interface _=>ζ
 |_=>κ
def KO{a:TypeDesc}(c:BQ a=κ):∀b,a≠.interface b:=λb hm=>by subst hm;cases c
def sG(a:Program)(b:TypeId)(c:List bZ):Bool:=
 decide (a.cellsOf b=β c)&&(a.info? b).isSome&&(match a.underlying b with|some (.array _ _)|some (.struct _)=>ζ|_=>κ)
theorem BR{a:List bZ}(c:flatK q 20 b6=γ a)(b:sG q b6 a=ζ):nH q b6 (nG a):=by simp only[sG,Κ,decide_eq_true_eq]at b;obtain⟨⟨d,f⟩,h⟩:=b;refine⟨⟨20,ε,by rw[uh];exact c⟩,by rw[uh];exact d,f,?_⟩;grind
def xk(a:Program)(h:Op):Option cg:=
 match h with
 |.makeMap _ η=>γ .kM
 |.lookup mt b c ok=>match a.underlying mt with
  |some (.map d k)=>match flatK a 20 d,a.info? k with
   |some bF,γ o=>match o.zero with
    |some f=>if sG a d bF=ζ/\sn f=ζ/\aQ b=ζ/\aQ c=ζ then γ (.mD ok (nG bF) (ofConst f) b c)else η
    |none=>η
   |_,_=>η
  |_=>η
 |.mapUpdate mt b c v|.insert mt b c v=>match a.underlying mt with
  |some (.map d _)=>match flatK a 20 d with
   |some bF=>if sG a d bF=ζ/\aQ b=ζ/\aQ c=ζ/\aQ v=ζ then γ (.mE (nG bF) b c v)else η
   |none=>η
  |_=>η
 |_=>η
def xl(c:Program)(f:Env)(d:Oper):Option cg:=
 match d.op with
 |.makeFunc (.func h) first cap=>if first.toList.all aQ=ζ/\cap.toList.all aQ=ζ then γ (.bG h first.toList cap.toList)else η
 |.makeInterface b a=>match c.underlying b with
  |some k=>if BQ k=κ/\aQ a=ζ then γ (.qQ b a)else η
  |none=>η
 |.panic a=>if aQ a=ζ then γ (.ny a)else η
 |.range b a=>match c.underlying b with
  |some .string=>if aQ a=ζ then γ (.kL a)else η
  |_=>η
 |.next a ζ=>if aQ a=ζ then γ (.nz a)else η
 |.call o=>xj c f d.dst o
 |_=>η
def BS(a:Program)(c:FuncId):Bool:=
  match a.funcs[c]? with
  |some fn=>fn.origin== "slices.overlaps" &&fn.body.isNone&& !(fn.name== "runtime.NumGoroutine")&&(Extern.allNextRows.lookup fn.name).isNone&&(Extern.allGenericRows.lookup fn.name).isNone&&(Extern.allTypedRows.lookup fn.name).isNone&&(Extern.allRows.lookup fn.name).isNone&&
    (match fn.params.toList with
     |[b,d]=>b==d&&(match a.underlying b with|some (.slice f)=>(a.info? f).isSome|_=>κ)
     |_=>κ)
  |none=>κ
def BT(a:Program)(b:FuncId):Bool:=
 match a.funcs[b]? with
 |some fn=>fn.body.isNone&&fn.name== "math/bits.Add64" &&(Extern.findNext fn).isNone
 |none=>κ
def xm(c:Program)(r:Env)(k:Call):Option cg:=
 match k.callee,k.args.toList,k.argTypes.toList with
 |.builtin .cap,[a],[f]=>match c.underlying f with
  |some (.slice _)=>if aQ a=ζ then γ (.nA a)else η
  |_=>η
 |.builtin .clear,[a],[f]=>match c.underlying f with
  |some (.slice o)=>match c.info? o with
   |some d=>match d.zero with
    |some h=>if h.cells.size=d.size/\h.cells.toList.all (·.oneCell')=ζ/\0<d.size/\aQ a=ζ then γ (.nB d.size (h.cells.toList.map dt) a)else η
    |none=>η
   |none=>η
  |_=>η
 |.builtin .copy,[a,b],[f,_]=>if r.xd=ζ then(match c.underlying f with
  |some (.slice o)=>match kd c o with
   |some x=>if aQ a=ζ/\aQ b=ζ then γ (.nC x a b)else η
   |none=>η
  |_=>η)else η
 |.builtin .append,[a,b],[f,y]=>match c.underlying y with
  |some (.int _)=>match c.underlying f with
   |some (.slice o)=>match c.info? o with
    |some d=>match d.zero with
     |some h=>if h.cells.size=d.size/\h.cells.toList.all (·.oneCell')=ζ/\0<d.size/\aQ a=ζ/\aQ b=ζ then γ (.nD d.size d.bytes (h.cells.toList.map dt) a b)else η
     |none=>η
    |none=>η
   |_=>η
  |_=>η
 |.value (.func p),[a,b,k],_=>if BT c p=ζ/\aQ a=ζ/\aQ b=ζ/\aQ k=ζ then γ (.pE a b k)else η
 |.value (.func p),[a,b],_=>if BS c p=ζ/\aQ a=ζ/\aQ b=ζ then γ (.nE a b)else η
 |_,_,_=>η
def xn(a:Program)(b:Env)(d:Oper):Option cg:=
 match d.op with
 |.slice f c az aE ho=>if b.xd=ζ then(match a.underlying f with
  |some (.slice h)=>match kd a h with
   |some k=>if aQ c=ζ/\az.all aQ=ζ/\aE.all aQ=ζ/\ho.all aQ=ζ/\(ho=η\/aE.isSome=ζ)then γ (.mF k c az aE ho)else η
   |none=>η
  |_=>η)else η
 |.call o=>xm a b o
 |_=>η
def xo(b:Program)(d:Env)(c:Oper):Option cg:=
 match xn b d c with
 |some a=>γ a
 |none=>match xk b c.op with
 |some a=>γ a
 |none=>match xl b d c with
 |some a=>γ a
 |none=>xg b d c
def KP:Extern.allGenericRows.lookup "math/bits.Add64" =none:=by rfl
def KQ:Extern.allTypedRows.lookup "math/bits.Add64" =none:=by rfl
def KR:Extern.allRows.lookup "math/bits.Add64" =γ add64Entry:=by rfl
def KS:Extern.allNextRows.lookup "slices.overlaps" =none:=by rfl
def KT:Extern.allGenericRows.lookup "slices.overlaps" =none:=by rfl
def KU:Extern.allTypedRows.lookup "slices.overlaps" =γ Extern.SlicesOverlaps.overlaps:=by rfl
section
variable{o:Oper}{a:Act}
theorem KV{f:Env}{h:Option Nat}{d:TypeId}(x:o.op=.call {callee:=.builtin .append,args:=#[a8,e9],argTypes:=#[d,b6]})(b:xi q f h a8 e9 d b6=γ e6)(y:bI v a l)(z:Holds v g m)(C:G ⟨q,u⟩ e6 l g b2):bM q u o a m v g b2:=by
 unfold xi at b;split at b
 case h_2=>cases b
 rename_i D E;split at b
 case h_2=>cases b
 rename_i F L;split at b
 case h_2=>cases b
 rename_i P S;split at b
 case isFalse=>cases b
 rename_i k;obtain⟨p,T,V,W,e,i⟩:=k;obtain⟨c,j,n⟩:∃c,q.underlying b6=γ c/\((∃r,c=.slice r)\/c=.string):=by unfold BP at p;grind
 split at b
 case isFalse=>cases b
 obtain rfl:=Δ b;grind[BB,List.all_eq_true]
theorem KW{y:Env}{z:Option Nat}{d:Call}(f:o.op=.call d)(b:xj q y z d=γ e6)(h:bI v a l)(k:Holds v g m)(p:G ⟨q,u⟩ e6 l g b2):bM q u o a m v g b2:=by
 obtain⟨F,C,D⟩:=d;unfold xj at b;split at b
 .rename_i E c;simp only at c;subst c;split at b
  case isFalse=>cases b
  rename_i L;obtain rfl:=Δ b;exact Ki (.tmp E) C D f rfl (by grind) h k p
 .rename_i P S T V c r x;simp only at c r x;subst c;obtain rfl:=jn r;obtain rfl:=jn x;exact KV f b h k p
 .cases b
theorem KX{y:Env}(b:xl q y o=γ e6)(h:bI v a l)(k:Holds v g m)(p:G ⟨q,u⟩ e6 l g b2):bM q u o a m v g b2:=by
 unfold xl at b;split at b
 .rename_i C first D c
  split at b
  case isFalse=>cases b
  rename_i d;obtain rfl:=Δ b;grind[Kh,List.all_eq_true]
 .rename_i r f c;split at b
  case h_2=>cases b
  rename_i z x;split at b
  case isFalse=>cases b
  rename_i d;obtain rfl:=Δ b;exact Kj r f c z x (KO d.1) d.2 h k p
 .rename_i f c;split at b
  case isFalse=>cases b
  rename_i d;obtain rfl:=Δ b;exact Kl f c d h k p
 .rename_i r f c;split at b
  case h_2=>cases b
  rename_i x;split at b
  case isFalse=>cases b
  rename_i d;obtain rfl:=Δ b;exact Km r f c x d h k p
 .rename_i f c;split at b
  case isFalse=>cases b
  rename_i d;obtain rfl:=Δ b;exact Kn f c d h k p
 .rename_i E c;exact KW c b h k p
 .cases b
theorem KY{k:bf}(b:xk q o.op=γ e6)(C:bI k a l)(r:Holds k g m)(x:G ⟨q,u⟩ e6 l g b2):bM q u o a m k g b2:=by
 have mx:∀mt d f v,(o.op=.mapUpdate mt d f v\/o.op=.insert mt d f v)->(match q.underlying mt with
  |some (.map h _)=>match flatK q 20 h with
   |some p=>if sG q h p=ζ/\aQ d=ζ/\aQ f=ζ/\aQ v=ζ then γ (.mE (nG p) d f v)else η
   |none=>η
  |_=>η)=γ e6->bM q u o a m k g b2:=by
  intro mt d f v E b;split at b
  case h_2=>cases b
  rename_i h y hm;split at b
  case h_2=>cases b
  rename_i p z;split at b
  case isFalse=>cases b
  rename_i c;obtain rfl:=Δ b;exact Ky mt h y d f v E hm (BR z c.1) c.2.1 c.2.2.1 c.2.2.2 C r x
 generalize D:o.op=S at b;unfold xk at b;split at b
 .obtain rfl:=Δ b;exact Kv _ D r x
 .split at b
  case h_2=>cases b
  rename_i h y hm;split at b
  case h_2=>cases b
  rename_i p T z F;split at b
  case h_2=>cases b
  rename_i L P;split at b
  case isFalse=>cases b
  rename_i c;obtain rfl:=Δ b;exact Kx _ h y _ _ _ D hm (BR z c.1) F P (aW.ofConst k L c.2.1) c.2.2.1 c.2.2.2 C r x
 .simp_all
 .simp_all
 .cases b
theorem KZ{A:Env}{C:Call}(E:o.op=.call C)(b:xm q A C=γ e6)(F:bI v a l)(L:Holds v g m)(P:G ⟨q,u⟩ e6 l g b2):bM q u o a m v g b2:=by
 obtain⟨k8,k9,t⟩:=C;unfold xm at b;split at b
 .rename_i k r c d f;simp only at c d f;subst c;obtain rfl:=qT d;obtain rfl:=qT f;split at b
  case h_2=>cases b
  rename_i x y;split at b
  case isFalse=>cases b
  rename_i p;obtain rfl:=Δ b;exact Kz r k E x y p F L P
 .rename_i k r c d f;simp only at c d f;subst c;obtain rfl:=qT d;obtain rfl:=qT f;split at b
  case h_2=>cases b
  rename_i x y;split at b
  case h_2=>cases b
  rename_i B H;split at b
  case h_2=>cases b
  rename_i I K;split at b
  case isFalse=>cases b
  rename_i p;obtain rfl:=Δ b;grind[KC,List.all_eq_true]
 .rename_i k z r w c d f;simp only at c d f;subst c;obtain rfl:=jn d;obtain rfl:=jn f;split at b
  case isFalse=>cases b
  split at b
  case h_2=>cases b
  rename_i x y;split at b
  case h_2=>cases b
  rename_i M N;split at b
  case isFalse=>cases b
  rename_i p;obtain rfl:=Δ b;exact KE r w k z E x y M N p.1 p.2 F L P
 .rename_i k z r l0 c d f;simp only at c d f;subst c;obtain rfl:=jn d;obtain rfl:=jn f;split at b
  case h_2=>cases b
  rename_i l1 l2;split at b
  case h_2=>cases b
  rename_i x y;split at b
  case h_2=>cases b
  rename_i B H;split at b
  case h_2=>cases b
  rename_i I K;split at b
  case isFalse=>cases b
  rename_i p;obtain rfl:=Δ b;grind[KH,List.all_eq_true]
 .rename_i W k z C c d;simp only at c d;subst c;obtain rfl:=aaH.1 (d: _=#[k,z,C].toList);split at b
  case isFalse=>cases b
  rename_i p;obtain rfl:=Δ b;obtain⟨h,e,i,O⟩:=p;unfold BT at h;split at h
  case h_2=>cases h
  rename_i D j;simp only[Κ,beq_iff_eq,ab5]at h;obtain⟨⟨S,T⟩,n⟩:=h;exact KF W D k z C t E j (by rw[T];rfl) (by rw[S];rfl) n (by simp[Extern.find,T,KP,KQ,KR]) e i O F L P
 .rename_i W k z c d;simp only at c d;subst c;obtain rfl:=jn d;split at b
  case isFalse=>cases b
  rename_i p;obtain rfl:=Δ b;obtain⟨h,e,i⟩:=p;unfold BS at h;split at h
  case h_2=>cases h
  rename_i D j;simp only[Κ,beq_iff_eq,ab5,a8V]at h;obtain⟨⟨⟨⟨⟨⟨⟨S,T⟩,n⟩,Q⟩,X⟩,Y⟩,Z⟩,V⟩:=h;split at V
  case h_2=>cases V
  rename_i r w k2;simp only[Κ,beq_iff_eq]at V;obtain⟨rfl,s⟩:=V;split at s
  case h_2=>cases s
  rename_i x y;obtain⟨k3,k4⟩:=a8i.1 s;have k5:=jn k2;have k6:Extern.findNext D=none:=by simp[Extern.findNext,S,Q,KS]
  have k7:Extern.find D=γ (Extern.SlicesOverlaps.overlaps #[r,r] D.resultTypes):=by simp[Extern.find,S,X,Y,Z,KT,KU,k5]
  exact KG W D k z t E j n (by rw[T];rfl) k6 r _ k7 x y k3.size (by rw[k4];rfl) e i F L P
 .cases b
def L0{p:Env}(b:xn q p o=γ e6)(f:bI v a l)(h:Holds v g m)(k:G ⟨q,u⟩ e6 l g b2):bM q u o a m v g b2:=by
 unfold xn at b;split at b
 .rename_i r x y z C d;split at b
  case isFalse=>cases b
  split at b
  case h_2=>cases b
  rename_i D E;split at b
  case h_2=>cases b
  rename_i F L;split at b
  case isFalse=>cases b
  rename_i c;obtain rfl:=Δ b;exact KB r x y z C d c.2.2.2.2 D E F L c.1 c.2.1 c.2.2.1 c.2.2.2.1 f h k
 .rename_i P d;exact KZ d b f h k
 .cases b
def L1{p:Env}(b:xo q p o=γ e6)(d:bI v a l)(f:Holds v g m)(h:G ⟨q,u⟩ e6 l g b2):bM q u o a m v g b2:=by
 unfold xo at b;split at b
 .rename_i k c;obtain rfl:=Δ b;exact L0 c d f h
 split at b
 .rename_i k c;obtain rfl:=Δ b;exact KY c d f h
 .split at b
  .rename_i k c;obtain rfl:=Δ b;exact KX c d f h
  .exact KN b d f h
end
structure c6 where
 dst:Option Nat
 op:cg
 guard:Option (Nat×Bool)
def E(f:Ctx)(c:c6)(d:Fr)(a:U)(b:R->U->Prop):Prop:=
 match c.guard with
 |none=>G f c.op d a b
 |some (h,want)=>match d h with
  |.v (.bool k)=>if k=want then G f c.op d a b else b (.aJ []) a
  |.aJ []=>b (.aJ []) a
  |_=>False
def T(c:Ctx)(a:c6)(d:Fr->U->Prop)(b:Fr)(f:U):Prop:=E c a b f λh k=>d (ds b a.dst h) k
def jo(b:Ctx):List c6->(Fr->U->Prop)->Fr->U->Prop
 |[],a=>a
 |c::d,a=>T b c (jo b d a)
variable{X:Ctx}
theorem nI{b:c6}(c:∀d f,u d f->b2 d f)(a:E X b l g u):E X b l g b2:=by
 unfold E at*;cases h:b.guard with
 |none=>rw[h]at a;exact Bm c a
 |some ke=>
  obtain⟨o,p⟩:=ke;rw[h]at a;simp only at a|-;split at a
  .split at a
   .next k=>rw[if_pos k];exact Bm c a
   simp_all
  .exact c _ _ a
  .omega
def sH{b:c6}{c d:Fr->U->Prop}(h:∀l f,c l f->d l f)(a:T X b c l g):T X b d l g:=nI (λ_ _ a=>h _ _ a) a
def tmpsOf(a:List Operand):ϋ:=a.filterMap λ|.tmp b=>γ b|_=>η
def cg.operands:cg->List Operand
 |.dP a|.qQ _ a|.ny a|.kL a|.nz a|.box _ a|.lG _ a|.qP a|.su a|.nx _ a|.load _ _ a|.qJ a|.lH _ a|.ss _ _ _ a|.len a|.qM a|.pD a|.un _ a|.jk _ a|.ext a _|.nA a|.nB _ _ a=>[a]
 |.pick d f h|.pE d f h=>[d,f,h]
 |.alloc _ _|.kM=>[]
 |.mD _ _ _ a c=>[a,c]
 |.mE _ a c v=>[a,c,v]
 |.bG _ first cap=>first++cap
 |.jl a args=>a::args
 |.store _ a b|.nv _ a b|.qO _ a b|.qK _ _ a b|.dZ _ a b|.qL _ _ _ a b|.my a b|.bin _ a b|.eqv _ _ a b|.qN _ a b|.app _ _ a b|.mC _ _ a b|.mB _ _ a b|.kJ _ _ _ a b|.nw _ a b|.nC _ a b|.nD _ _ _ a b|.nE a b=>[a,b]
 |.mz _ k=>k.map λo=>o.2.2
 |.kH _ xs=>xs
 |.kK _ xs=>xs
 |.pC _ a az aE|.mA _ _ a az aE _|.kI _ _ a az aE=>a::(az.toList++aE.toList)
 |.mF _ a az aE ho=>a::(az.toList++(aE.toList++ho.toList))
 |.gv _ args=>args
def c6.reads(a:c6):ϋ:=tmpsOf a.op.operands++(match a.guard with|some (b,_)=>[b]|none=>[])
def L2{a:Fr}{b:List Operand}(d:∀c∈tmpsOf b,l c=a c)(f:a8∈b):ai l a8=ai a a8:=by
 cases a8<;>first
  |rfl
  |exact d _ (aaX.2 ⟨_,f,rfl⟩)
def BU{b c:Fr}{h:ύ->Prop}:∀(d:List (Nat×Nat×Operand))(f:ύ),(∀a∈d,ai b a.2.2=ai c a.2.2)->(kN b f d h↔kN c f d h)
 |[],_,_=>a9S
 |(off,ch,k)::p,f,o=>by
  have r:ai b k=ai c k:=o _ (a8X);simp only[kN,r];rw[BU p _ (λa x=>o a (a9l _ x))]
theorem pI{c:Fr}{a:Option Operand}(f:∀b∈a.toList,ai l b=ai c b)(d:Nat):dF l a d=dF c a d:=by
 cases a with
 |none=>rfl
 |some b=>simp only[dF,f b σ]
theorem BV{h:Fr}(y:∀p∈tmpsOf e6.operands,l p=h p)(r:U)(x:R->U->Prop):G X e6 l r x↔G X e6 h r x:=by
 have a:∀d∈e6.operands,ai l d=ai h d:=λd z=>L2 y z;cases e6<;>simp only[cg.operands,a7S,a8f,or_false,forall_eq_or_imp,forall_eq,Ψ]at a<;>simp only[G]
 case mz C D=>exact BU D C (λE F=>a _ (a7M.2 ⟨E,F,rfl⟩))
 case kH f L=>rw[a8I a]
 case kK f L=>rw[a8I a]
 case gv P S=>rw[a8I a]
 case jl d S=>rw[a.1,a8I a.2]
 case bG P first V=>grind[List.map_congr_left]
 case pC f d k o=>simp only[a.1,pI (λb c=>a.2 b (.inl c)),pI (λb c=>a.2 b (.inr c))]
 case mF f d k o W=>simp only[sy,a.1,pI (λb c=>a.2 b (.inl c)),pI (λb c=>a.2 b (.inr (.inl c))),pI (λb c=>a.2 b (.inr (.inr c)))]
 case mA f T d k o e=>grind[pI]
 case kI f T d k o=>grind[pI]
 all_goals simp_all
def L3{a:c6}{f:Fr}(h:∀b∈a.reads,l b=f b)(c:U)(d:R->U->Prop):E X a l c d↔E X a f c d:=by
 have k:=λb o=>h b (a9x _ o);unfold E;cases p:a.guard with
 |none=>exact BV k c d
 |some ke=>
  obtain⟨r,y⟩:=ke;have x:=h r (a9G _ (by simp[p]));simp only[x];split
  .split
   .exact BV k c d
   .rfl
  .rfl
  .rfl
def L4(c:Fr)(a:Nat)(b:R):(ds c (γ a) b) a=b:=by simp[ds,mx]
theorem um(c:Fr)(a:Option Nat)(d:R)(b:Nat)(f:a≠γ b):(ds c a d) b=c b:=by
 cases a with
 |none=>rfl
 |some a=>simp[ds,mx,Θ (λh=>f (by rw[h]):a≠b)]
theorem qU(d:Fr)(a b:Option Nat)(f h:R)(k:∀c,a=γ c->b≠γ c):ds (ds d a f) b h=ds (ds d b h) a f:=by
 cases a with
 |none=>rfl
 |some a=>
  cases b with
  |none=>rfl
  |some b=>have p:a≠b:=λo=>k a rfl (by rw[o]);funext c;simp only[ds,mx];grind
theorem lM{b:c6}(c:Option Nat)(o:∀a,c=γ a->a∉b.reads)(d:Fr)(k:R)(f:U)(h:R->U->Prop):E X b (ds d c k) f h↔E X b d f h:=
 L3 (λa p=>um d c k a (λr=>o a r p)) f h
theorem U.er(a:U)(d:e≠i)(b c:bq):(a.set e b).set i c=(a.set i c).set e b:=by grind[U.set]
theorem U.L5(a:U)(c:e≠i)(b:bq):(a.set e b).del i=(a.del i).set e b:=by grind[U.set,U.del]
theorem U.uo(a:U)(b:Nat)(c:bq)(d:a b=η):a.join (U.emp.set b c)=a.set b c:=by grind[U.join,U.set,U.emp]
theorem qV(c:U)(b:Nat)(d:bq):c.oC (U.emp.set b d)↔c b=none:=by
 constructor
 .intro a;rcases a b with a|a
  .exact a
  .simp[U.set]at a
 .intro a f;grind[U.set,U.emp]
def sI(b:Nat)(c:bq)(d:R->U->Prop):R->U->Prop:=λf h=>∃a,d f a/\a b=η/\h=a.set b c
theorem sJ(a:U)(c:bq)(d:a e=η)(b:a.read i=γ j):(a.set e c).read i=γ j:=by
 have f:i≠e:=by rintro rfl;simp[U.read,d]at b
 simpa[U.read,ο _ _ f] using b
theorem BW(a:U)(d:bq)(f:a e=η){b:Nat×ύ}(c:c8 a i s=γ b):c8 (a.set e d) i s=γ b:=by
 unfold c8 at c|-;split
 .exact c
 grind[sJ];grind[sJ];simp_all
theorem L6(a:U)(c:bq)(f:a e=η){d:Nat×ύ}(b:nF a i s=γ d):nF (a.set e c) i s=γ d:=by
 unfold nF at b|-;split
 .exact b
 .rename_i h;split at b
  .simp_all
  .exact BW a c f b
theorem L7(b:U)(c:bq)(f:b e=η)(a:lJ i j s b=γ g):lJ i j s (b.set e c)=γ (g.set e c)/\g e=none:=by
 unfold lJ at a|-;split at a
 .rename_i h k o p r;split at a
  case h_2=>cases a
  rename_i x d;have y:h≠e:=by rintro rfl;rw[f]at d;cases d
  split at a
  case isFalse=>cases a
  rename_i z;obtain rfl:=Δ a;simp_all [ο,U.er,Θ]
 simp_all
 .cases a
theorem L8(c:U)(d:bq)(f:c e=η){k:R}(a:mG i s b8 c=γ (k,g)):mG i s b8 (c.set e d)=γ (k,g.set e d)/\g e=none:=by
 unfold mG at a|-;split at a
 case h_2=>cases a
 rename_i D E o;rw[BW c d f o];simp only;split at a
 .rename_i h F p r x;split at a
  case h_2=>cases a
  rename_i y b;have z:h≠e:=by rintro rfl;rw[f]at b;cases b
  split at a
  case isFalse=>cases a
  rename_i C;simp only[a7G,a8Q]at a;obtain⟨rfl,rfl⟩:=a;simp_all [ο,U.er,Θ]
 .rename_i h p r x;split at a
  case h_2=>cases a
  rename_i y b;have z:h≠e:=by rintro rfl;rw[f]at b;cases b
  split at a
  case isFalse=>cases a
  rename_i C;simp only[a7G,a8Q]at a;obtain⟨rfl,rfl⟩:=a;simp_all [ο,U.er,Θ]
 simp_all
 .cases a
theorem L9(a:U)(c:bq)(f:a e=η){d:R}(h:lK s b8 a=γ d):lK s b8 (a.set e c)=γ d:=by
 have o:∀b,kO a b=ζ->kO (a.set e c) b=true:=λb k=>by
  have p:b≠e:=by rintro rfl;simp[kO,f]at k
  grind[kO,ο]
 unfold lK at h|-;grind
variable{b0:bq}
theorem BX(d:g e=η)(a:G X e6 l g u):G X e6 l (g.set e b0) (sI e b0 u):=by
 have x:∀y,u y g->sI e b0 u y (g.set e b0):=λy W=>⟨g,W,d,rfl⟩;have n0:∀(c)(E)(y),(g.set e b0) c=η->(g c=η->u y (g.set c E))->sI e b0 u y ((g.set e b0).set c E):=λc E y P F=>by
  have b:e≠c:=by rintro rfl;simp[U.set]at P
  rw[ο _ _ (Θ b)]at P;exact⟨_,F P,by rw[ο _ _ b];exact d,U.er g b b0 E⟩
 cases e6<;>simp only[G]at a|-
 case gv n2 Y=>
  have:=ik.frame a ((qV g e b0).2 d);rw[U.uo g e b0 d]at this;refine this.mono (λy Z ⟨p,i,S,j⟩=>⟨p,i,(qV p e b0).1 S,?_⟩) (λ_ _ a=>a);rw[j,U.uo p e b0 ((qV p e b0).1 S)]
 case jl h Y=>
  split at a
  case h_2=>omega
  refine⟨a.1,?_⟩;have:=ik.frame a.2 ((qV g e b0).2 d);rw[U.uo g e b0 d]at this;refine this.mono (λy Z ⟨p,i,S,j⟩=>⟨p,i,(qV p e b0).1 S,?_⟩) (λ_ _ a=>a);rw[j,U.uo p e b0 ((qV p e b0).1 S)]
 case nA h=>grind
 case mF=>grind
 case nB r m h=>
  split at a
  case h_2=>exact a.elim
  rename_i p n;obtain⟨q,s⟩:=L7 g b0 d n;rw[q];exact⟨p,a,s,rfl⟩
 case nC r h C=>
  split at a
  case h_2=>exact a.elim
  rename_i y p n;obtain⟨q,s⟩:=L8 g b0 d n;rw[q];exact⟨p,a,s,rfl⟩
 case nE h C=>
  grind[L9]
 case nD r bytes m h C=>
  grind[sJ]
 case kM=>grind
 case pD h=>
  split at a
  case h_2=>omega
  next c z=>
  split at a
  case h_2=>exact a.elim
  next I K o=>
  have b:c≠e:=by rintro rfl;rw[d]at o;cases o
  rw[ο _ _ b,o];exact x _ a
 case mD n3 k2 m h r=>
  split at a
  case h_2=>omega
  next c D z k3=>
  split at a
  case h_2=>exact a.elim
  next I K o=>
  have b:c≠e:=by rintro rfl;rw[d]at o;cases o
  grind[ο,dT]
 case mE k2 h r v=>
  split at a
  case h_2=>omega
  next c D z k3=>
  split at a
  case h_2=>exact a.elim
  next I K o=>
  have b:c≠e:=by rintro rfl;rw[d]at o;cases o
  rw[ο _ _ b,o];exact⟨a.1,a.2.1,_,a.2.2,by rw[ο _ _ (Θ b)];exact d,U.er g (Θ b) b0 _⟩
 case kL h=>grind
 case ny h=>
  split at a
  case h_2=>omega
  obtain⟨k4,P,F⟩:=a;refine⟨k4,λc E k5=>?_,F⟩;have:=P c E k5;have b:c≠e:=by grind
  rw[ο _ _ b];exact this
 case nz h=>
  split at a
  case h_2=>omega
  next c V z=>
  refine⟨a.1,?_⟩;have F:=a.2;split at F
  case h_2=>trivial
  next n4 n5 o=>
  have b:c≠e:=by rintro rfl;rw[d]at o;cases o
  rw[ο _ _ b,o];simp only;split
  .next k6=>rw[if_pos k6]at F;exact⟨_,F,by rw[ο _ _ (Θ b)];exact d,U.er g (Θ b) b0 _⟩
  simp_all
 case mz k7 n9=>exact wY (λD f=>x _ f) _ _ a
 case alloc T k7=>grind
 case box T h=>simp_all
 case lG T h=>simp_all
 case kJ r bytes m h C=>grind
 case mB=>grind
 case nx k8 h=>
  grind
 case kK r M=>
  grind
 case mC r bytes h C=>
  split at a
  case h_2=>exact a.elim
  rename_i a00 t k9;rw[L6 g b0 d k9];simp only;split at a;grind
  .next c L w A z=>
   split at a
   case h_3=>exact a.elim
   all_goals
   rename_i D f;have b:c≠e:=by rintro rfl;rw[d]at f;cases f
   rw[ο _ _ b,f];refine⟨a.1,a.2.1,a.2.2.1,a.2.2.2.1,?_⟩;have k:=a.2.2.2.2;split
   .next B=>rw[if_pos B]at k;exact⟨_,k,by rw[ο _ _ (Θ b)];exact d,U.er g (Θ b) b0 _⟩
   simp_all
  .next c V L w A z=>
   split at a
   case h_2=>exact a.elim
   rename_i D f;have b:c≠e:=by rintro rfl;rw[d]at f;cases f
   rw[ο _ _ b,f];refine⟨a.1,a.2.1,a.2.2.1,a.2.2.2.1,?_⟩;have k:=a.2.2.2.2;split
   .next B=>rw[if_pos B]at k;exact⟨_,k,by rw[ο _ _ (Θ b)];exact d,U.er g (Θ b) b0 _⟩
   simp_all
  .omega
 case nv k8 h C=>
  have N:∀c,lI g c=ζ->lI (g.set e b0) c=true:=λc a=>by
   have b:c≠e:=by rintro rfl;simp[lI,d]at a
   unfold lI at a|-;rw[ο _ _ b];exact a
  split at a
  .exact x _ a
  .exact x _ a
  .exact x _ a
  .exact⟨⟨N _ a.1.1,N _ a.1.2⟩,x _ a.2⟩
  .exact a.elim
 case kI r L h l0 l1=>
  split at a
  .next c V z=>
   split at a
   .refine⟨a.1,a.2.1,a.2.2.1,?_⟩;have k:=a.2.2.2;split at k
    .next D f=>
     have b:c≠e:=by rintro rfl;rw[d]at f;cases f
     grind[ο]
    .trivial
   .omega
  .omega
 case nw r h C=>
  split at a
  .next c V L w A t l2 z l3=>
   refine⟨a.1,a.2.1,?_⟩;have k:=a.2.2;split at k
   .next D f=>
    have b:c≠e:=by rintro rfl;rw[d]at f;cases f
    rw[ο _ _ b,f];exact⟨k.1,_,k.2,by rw[ο _ _ (Θ b)];exact d,U.er g (Θ b) b0 _⟩
   .trivial
  .next c L w A t l2 z l3=>
   refine⟨a.1,a.2.1,?_⟩;have k:=a.2.2;split at k
   .next D f=>
    have b:c≠e:=by rintro rfl;rw[d]at f;cases f
    rw[ο _ _ b,f];exact⟨k.1,_,k.2,by rw[ο _ _ (Θ b)];exact d,U.er g (Θ b) b0 _⟩
   .trivial
  .omega
 case kH r M=>
  grind
 case load a01 L h=>
  grind[sJ]
 case store L h C=>
  split at a
  .next c V z=>
   split at a
   case h_2=>exact a.elim
   next f=>
    have b:c≠e:=by rintro rfl;rw[d]at f;cases f
    rw[ο _ _ b,f];exact⟨a.1,a.2.1,_,a.2.2,by rw[ο _ _ (Θ b)];exact d,U.er g (Θ b) b0 _⟩
  .omega
 case mA r L h l0 l1 a02=>
  split at a
  .next c V z=>
   split at a
   .refine⟨a.1,a.2.1,a.2.2.1,?_⟩;have k:=a.2.2.2;split at k
    .next D f=>
     have b:c≠e:=by rintro rfl;simp[U.read,d]at f
     rw[sJ g b0 d f];refine⟨k.1,?_⟩;have O:=k.2;split
     .next W=>rw[if_pos W]at O;exact⟨_,O,by rw[ο _ _ (Θ b)];exact d,U.er g (Θ b) b0 _⟩
     simp_all
    .trivial
   .omega
  .omega
 case app r bytes h C=>
  split at a<;>try exact a.elim
  rename_i M l4 t E _ _;refine⟨a.1,a.2.1,a.2.2.1,a.2.2.2.1,?_⟩;have k:=a.2.2.2.2;cases l4<;>simp only at k|-;grind;grind
  case buf l5 a03 _=>
   have b:l5≠e:=by rintro rfl;rw[d]at k;cases k.1
   refine⟨by rw[ο _ _ b];exact k.1,λQ l6 l7=>?_⟩;have H:Q≠e:=by rintro rfl;grind[ξ]
   have l8:=l7.imp id (λa=>by rwa[ο _ _ H]at a);refine⟨_,k.2 Q l6 l8,by rw[ο _ _ (Θ H),U.eX _ (Θ b)];exact d,?_⟩;rw[U.L5 g (Θ b) b0,U.er _ (Θ H) b0]
 case pick=>grind
 case dZ r h l9=>
  grind
 case my h l9=>
  grind
 all_goals
  (repeat' split at a)<;>first
   |exact a.elim
   |exact x _ a
   |exact⟨a.1,x _ a.2⟩
   |exact⟨a.1,a.2.1,x _ a.2.2⟩
   |exact⟨a.1,a.2.1,a.2.2.1,x _ a.2.2.2⟩
   |exact⟨a.1,a.2.1,a.2.2.1,a.2.2.2.1,x _ a.2.2.2.2⟩
   |exact⟨a.1,a.2.1,a.2.2.1,a.2.2.2.1,a.2.2.2.2.1,x _ a.2.2.2.2.2⟩
theorem xp{b:c6}(c:g e=η)(a:E X b l g u):E X b l (g.set e b0) (sI e b0 u):=by
 have h:∀d,u d g->sI e b0 u d (g.set e b0):=λd k=>⟨g,k,c,rfl⟩;unfold E at*;cases f:b.guard with
 |none=>rw[f]at a;exact BX c a
 |some ke=>
  obtain⟨p,r⟩:=ke;rw[f]at a;simp only at a|-;split at a
  .split at a
   .next o=>rw[if_pos o];exact BX c a
   simp_all
  .exact h _ a
  .omega
def nJ:cg->Bool
 |.nB _ _ _|.nC _ _ _|.nD _ _ _ _ _|.nE _ _|.alloc _ _|.kM|.pD _|.mD _ _ _ _ _|.mE _ _ _ _|.kL _|.nz _|.ny _|.jl _ _|.box _ _|.lG _ _|.load _ _ _|.store _ _ _|.kH _ _|.mA _ _ _ _ _ _|.kI _ _ _ _ _|.app _ _ _ _|.gv _ _|.kJ _ _ _ _ _|.nw _ _ _|.nx _ _|.nv _ _ _|.kK _ _|.mC _ _ _ _=>κ
 |_=>ζ
def oJ:cg->Bool
 |.load _ _ _|.kI _ _ _ _ _|.nv _ _ _=>ζ
 |_=>κ
def lN:cg->Bool
 |.alloc _ _|.kM|.kL _|.box _ _|.lG _ _|.kH _ _|.kK _ _|.kJ _ _ _ _ _=>ζ
 |_=>κ
def BY{h:Fr}:∀(k:List (Nat×Nat×Operand))(b:ύ) {p:ύ->Prop},kN h b k p->∃c,∀a:ύ->Prop,kN h b k a↔a c
 |[],b,_,_=>⟨b,λa=>a9S⟩
 |(off,ch,x)::c,b,_,d=>by
  obtain⟨r,o⟩:=BY c _ d.2.2;exact⟨r,λa=>⟨λf=>(o a).1 f.2.2,λf=>⟨d.1,d.2.1,(o a).2 f⟩⟩⟩
def BZ(a:nJ e6=ζ)(b:G X e6 l g u):∃h,∀(c:U)(d:R->U->Prop),G X e6 l c d↔d h c:=by
 cases e6<;>simp only[nJ,a8x]at a<;>simp only[G]at b|-
 case pick=>split at b;(exact⟨_,λc d=>a9S⟩);trivial
 case nA=>split at b;(exact⟨_,λc d=>a9S⟩);trivial
 case mF=>split at b;(exact⟨_,λc d=>a9S⟩);trivial
 case mz r x=>
  obtain⟨h,k⟩:=BY _ _ b;exact⟨.agg h,λc d=>k _⟩
 case mB=>split at b;(exact⟨_,λc d=>⟨λa=>a.2,λa=>⟨b.1,a⟩⟩⟩);trivial
 case dZ y o p=>
  split at b
  .have f:=b.2;split at f
   .exact⟨_,λc d=>⟨λa=>a.2.2,λa=>⟨b.1,f.1,a⟩⟩⟩
   .trivial
  .exact⟨_,λc d=>⟨λa=>a.2.2.2,λa=>⟨b.1,b.2.1,b.2.2.1,a⟩⟩⟩
  .exact⟨_,λc d=>⟨λa=>a.2.2.2,λa=>⟨b.1,b.2.1,b.2.2.1,a⟩⟩⟩
  .trivial
 case my o p=>
  split at b
  .have f:=b.2;split at f
   .exact⟨_,λc d=>⟨λa=>a.2,λa=>⟨b.1,a⟩⟩⟩
   .trivial
  .trivial
 all_goals
  (repeat' split at b)<;>first
   |exact b.elim
   |exact⟨_,λc d=>a9S⟩
   |exact⟨_,λc d=>⟨λa=>a.2,λa=>⟨b.1,a⟩⟩⟩
   |exact⟨_,λc d=>⟨λa=>a.2.2,λa=>⟨b.1,b.2.1,a⟩⟩⟩
   |exact⟨_,λc d=>⟨λa=>a.2.2.2,λa=>⟨b.1,b.2.1,b.2.2.1,a⟩⟩⟩
   |exact⟨_,λc d=>⟨λa=>a.2.2.2.2,λa=>⟨b.1,b.2.1,b.2.2.1,b.2.2.2.1,a⟩⟩⟩
   |exact⟨_,λc d=>⟨λa=>a.2.2.2.2.2,λa=>⟨b.1,b.2.1,b.2.2.1,b.2.2.2.1,b.2.2.2.2.1,a⟩⟩⟩
def C0(a:oJ e6=ζ)(b:G X e6 l g u):∃f,∀(c:R->U->Prop),G X e6 l g c↔c f g:=by
 cases e6<;>simp only[oJ,a8x]at a<;>simp only[G]at b|-
 case load=>
  split at b
  .split at b
   .exact⟨_,λc=>⟨λa=>a.2,λa=>⟨b.1,a⟩⟩⟩
   .trivial
  .exact⟨_,λc=>⟨λa=>a.2,λa=>⟨b.1,a⟩⟩⟩
  .trivial
 case kI=>
  split at b
  .split at b
   .have d:=b.2.2.2;split at d
    .exact⟨_,λc=>⟨λa=>a.2.2.2.2,λa=>⟨b.1,b.2.1,b.2.2.1,d.1,a⟩⟩⟩
    .trivial
   .trivial
  .trivial
 case nv=>
  (repeat' split at b)<;>first
   |exact b.elim
   |exact⟨_,λc=>a9S⟩
   |exact⟨_,λc=>⟨λa=>a.2,λa=>⟨b.1,a⟩⟩⟩
def C1(a:lN e6=ζ)(b:G X e6 l U.emp λ_ _=>True):
  (∃x,∀(c:U)(d:R->U->Prop),G X e6 l c d↔d x c)\/∃(y:Nat->R)(z:Nat->bq),∀(c:U)(d:R->U->Prop),G X e6 l c d↔ ∀p,c p=η->d (y p) (c.set p (z p)):=by
 cases e6<;>simp only[lN,a8x]at a<;>simp only[G]at b|-
 case alloc T C=>exact .inr ⟨_,_,λc d=>a9S⟩
 case kM=>exact .inr ⟨_,λ_=> _,λc d=>a9S⟩
 case kL r=>split at b;(exact .inr ⟨_,λ_=> _,λc d=>a9S⟩);trivial
 case box T r=>exact .inr ⟨_,λ_=> _,λc d=>⟨λa=>a.2,λa=>⟨b.1,a⟩⟩⟩
 case lG T r=>exact .inr ⟨_,λ_=> _,λc d=>⟨λa=>a.2,λa=>⟨b.1,a⟩⟩⟩
 case kJ h bytes D r E=>split at b;(exact .inr ⟨λk=>.ar k _ _ h,λ_=> _,λc d=>⟨λa=>a.2.2.2.2,λa=>⟨b.1,b.2.1,b.2.2.1,b.2.2.2.1,a⟩⟩⟩);trivial
 case kH h f=>
  by_cases o:β f=0
  .simp only[if_pos o]at b|-;exact .inl ⟨_,λc d=>⟨λa=>a.2,λa=>⟨b.1,a⟩⟩⟩
  .simp only[if_neg o]at b|-;exact .inr ⟨λk=>.J (f.map (ai l)) (.buf k (β f)),λ_=>.buf h (β f) (β f),λc d=>⟨λa=>a.2,λa=>⟨b.1,a⟩⟩⟩
 case kK h f=>
  by_cases o:β f=0
  .simp only[if_pos o]at b|-;exact .inl ⟨_,λc d=>⟨λa=>a.2,λa=>⟨b.1,a⟩⟩⟩
  .simp only[if_neg o]at b|-;exact .inr ⟨λk=>.ar k (β f) (β f) h,λ_=>.cells (flat (f.map (ai l))),λc d=>⟨λa=>a.2,λa=>⟨b.1,a⟩⟩⟩
theorem C2(a:lN e6=ζ)(b:G X e6 l g u):G X e6 l U.emp λ_ _=>True:=by
 cases e6<;>simp only[lN,a8x]at a<;>simp only[G]at b|-;simp
 case kM=>simp
 case kL c=>grind
 simp_all;simp_all
 case kJ=>grind
 simp_all;simp_all
def Def(a:Ctx)(b:c6)(c:Fr):Prop:=E a b c U.emp λ_ _=>True
def xq{b:c6}(h:nJ b.op=ζ)(a:E X b l g u):∃o,∀(c:U)(d:R->U->Prop),E X b l c d↔d o c:=by
 unfold E at*;cases k:b.guard with
 |none=>rw[k]at a;exact BZ h a
 |some ke=>
  obtain⟨p,r⟩:=ke;rw[k]at a;simp only at a|-;split at a
  .split at a
   .next f=>simp only[if_pos f];exact BZ h a
   .next f=>simp only[if_neg f];exact⟨_,λc d=>a9S⟩
  .exact⟨_,λc d=>a9S⟩
  .trivial
theorem uq{b:c6}(f:oJ b.op=ζ)(a:E X b l g u):∃k,∀(c:R->U->Prop),E X b l g c↔c k g:=by
 unfold E at*;cases h:b.guard with
 |none=>rw[h]at a;exact C0 f a
 |some ke=>
  obtain⟨o,p⟩:=ke;rw[h]at a;simp only at a|-;split at a
  .split at a
   .next d=>simp only[if_pos d];exact C0 f a
   .next d=>simp only[if_neg d];exact⟨_,λc=>a9S⟩
  .exact⟨_,λc=>a9S⟩
  .trivial
theorem La{b:c6}(c:lN b.op=ζ)(a:E X b l g u):Def X b l:=by
 unfold Def;unfold E at*;cases d:b.guard with
 |none=>rw[d]at a;exact C2 c a
 |some ke=>
  obtain⟨h,k⟩:=ke;rw[d]at a;simp only at a|-;split at a
  .split at a
   .next f=>rw[if_pos f];exact C2 c a
   .simp_all
  .trivial
  .trivial
def C3{d:c6}(k:lN d.op=ζ)(a:Def X d l):
  (∃p,∀(b:U)(c:R->U->Prop),E X d l b c↔c p b)\/∃(r:Nat->R)(x:Nat->bq),∀(b:U)(c:R->U->Prop),E X d l b c↔ ∀f,b f=η->c (r f) (b.set f (x f)):=by
 unfold Def at a;unfold E at*;cases o:d.guard with
 |none=>rw[o]at a;exact C1 k a
 |some ke=>
  obtain⟨y,z⟩:=ke;rw[o]at a;simp only at a|-;split at a
  .split at a
   .next h=>simp only[if_pos h];exact C1 k a
   .next h=>simp only[if_neg h];exact .inl ⟨_,λb c=>a9S⟩
  .exact .inl ⟨_,λb c=>a9S⟩
  .trivial
structure dn where
 i:Nat
 pre:ϋ
 kf:ϋ
variable{j7:ϋ}
section
variable(P:Ctx)(xs:Nat->c6)
def hP(a:Nat)(b:Fr)(c:U):Prop:=
 match(xs a).dst with
 |some d=>E P (xs a) b c λf _=>f=b d
 |none=>True
def can(c:Fr->U->Prop):List dn->Fr->U->Prop
 |[]=>c
 |a::k=>λd o=>(∀b∈a.pre,Def P (xs b) d)/\T P (xs a.i) (λf h=>(∀b∈a.kf,hP P xs b f h)/\can c k f h) d o
def clear(a:Option Nat)(b:ϋ):Bool:=match a with|some c=> !b.contains c|none=>ζ
def mJ(a b:Option Nat):Bool:=match a,b with|some c,γ d=>c !=d|_,_=>ζ
def indep(a b:dn)(d:ϋ):Bool:=
  clear (xs a.i).dst (xs b.i).reads&&clear (xs b.i).dst (xs a.i).reads&&mJ (xs a.i).dst (xs b.i).dst&&
  b.kf.all (λc=>c==a.i||d.contains c||(clear (xs a.i).dst (xs c).reads&&mJ (xs a.i).dst (xs c).dst))&&
  ((a.pre.isEmpty&&a.kf.isEmpty&&(nJ (xs a.i).op||(oJ (xs a.i).op&&((nJ (xs b.i).op||oJ (xs b.i).op||lN (xs b.i).op)||(b.kf.contains a.i&&clear (xs a.i).dst (xs a.i).reads&&(xs a.i).dst.isSome)))))||
   (b.kf.isEmpty&&(nJ (xs b.i).op||lN (xs b.i).op)&&a.pre.contains b.i&&a.pre.all (λc=>clear (xs b.i).dst (xs c).reads)&&
     a.kf.all (λc=>clear (xs b.i).dst (xs c).reads&&mJ (xs b.i).dst (xs c).dst)))
variable{P xs}
theorem sK{b:Option Nat}(c:clear b j7=ζ):∀a,b=γ a->a∉j7:=by intro a d;subst d;simpa[clear] using c
theorem C4{a b:Option Nat}(d:mJ a b=ζ):∀c,a=γ c->b≠γ c:=by grind[mJ]
theorem C5{a:Option Nat}(f:clear a (xs e).reads=ζ)(h:mJ a (xs e).dst=ζ)(b:Fr)(d:R)(c:U):hP P xs e (ds b a d) c↔hP P xs e b c:=by
 unfold hP;cases k:(xs e).dst with
 |none=>rfl
 |some o=>grind[lM,sK,um,C4]
theorem Lb(b:g i=η)(a:hP P xs e l g):hP P xs e l (g.set i b0):=by
 unfold hP at*;cases c:(xs e).dst with
 |none=>trivial
 |some f=>rw[c]at a;exact nI (λh k ⟨o,d,_,_⟩=>d) (xp b a)
def Pass(a:Nat->c6)(b:dn):List dn->Prop
 |[]=>True
 |d::c=>indep a d b (c.map (·.i))=ζ/\Pass a b c
theorem C6{z:Fr->U->Prop}(f:dn)(W:List dn):∀(o:List dn),Pass xs f o->(o.map (·.i)).Nodup->∀(h:Fr)(k:U),can P xs z (o++f::W) h k->
  T P (xs f.i) (λL d=>(∀a∈f.kf,a∉o.map (·.i)->hP P xs a L d)/\can P xs z (o++W) L d) h k
 |[],_,_,h,k,q=>sH (λL d C=>⟨λa x _=>C.1 a x,C.2⟩) q.2
 |p::o,hk,a00,h,k,q=>by
  have A:=hk.1;have Z:(o.map (·.i)).Nodup:=by simp_all
  have k2:p.i∉o.map (·.i):=by simp_all
  have ih:=C6 (z:=z) f W o hk.2 Z;obtain⟨k3,B⟩:=q;simp only[indep,Κ]at A;obtain⟨⟨⟨⟨k4,k5⟩,a3⟩,a4⟩,H⟩:=A;have i:=sK k4;have c2:=sK k5;have aD:=C4 a3;have a01:∀a∈f.kf,a≠p.i->a∉o.map (·.i)->clear (xs p.i).dst (xs a).reads=ζ/\mJ (xs p.i).dst (xs a).dst=true:=λa x a02 a03=>by
   grind
  have V:T P (xs p.i) (λL d=>(∀a∈p.kf,hP P xs a L d)/\T P (xs f.i) (λI K=>(∀a∈f.kf,a∉o.map (·.i)->hP P xs a I K)/\can P xs z (o++W) I K) L d) h k:=
   sH (λL d C=>⟨C.1,ih L d C.2⟩) B
  clear B ih;simp only[a8Y,Κ]at H;rcases H with⟨⟨k6,k7⟩,k8⟩|⟨⟨⟨⟨k9,l0⟩,l1⟩,a04⟩,a05⟩
  .
   have l2:=ab8.1 k6;have a06:=ab8.1 k7;have j:∀(r:R)(b:R)(d:U),(∀F,E P (xs p.i) h d F↔F r d)->
     ((∀a∈f.kf,a∉o.map (·.i)->hP P xs a (ds (ds h (xs p.i).dst r) (xs f.i).dst b) d)/\can P xs z (o++W) (ds (ds h (xs p.i).dst r) (xs f.i).dst b) d)->
     (∀a∈f.kf,a∉(p::o).map (·.i)->hP P xs a (ds h (xs f.i).dst b) d)/\can P xs z (p::o++W) (ds h (xs f.i).dst b) d:=λr b d S g=>by
    rw[qU h _ _ r b aD]at g;refine⟨λa x l3=>?_,?_⟩
    .simp only[a7O,a7S,not_or]at l3;grind[C5]
    .refine⟨by rw[l2];simp,?_⟩;simp_all [T,lM]
   rcases k8 with l4|⟨l5,l6⟩
   .obtain⟨r,S⟩:=xq l4 V;have s:=(S k _).1 V;have c:=s.2;unfold T at c|-;rw[lM _ i]at c;exact nI (λb d g=>j r b d (λF=>S d F) g) c
   .obtain⟨r,S⟩:=uq l5 V;have s:=(S _).1 V;have c:=s.2;unfold T at c|-;rw[lM _ i]at c;rcases l6 with t|⟨⟨l7,l8⟩,l9⟩
    .rcases t with t|M
     case inr=>
      rcases C3 M (La M c)with⟨b,y⟩|⟨e,l,y⟩
      .rw[y]at c|-;exact j r b k S c
      .rw[y]at c|-;intro D m;refine j r (e D) _ ?_ (c D m);have n0:E P (xs p.i) h k λu _=>u=r:=(S _).2 rfl;have a07:=nI (λ_ _ ⟨_,C,_,_⟩=>C) (xp (b0:=l D) m n0);grind[uq]
     have G:∃b,∀F:R->U->Prop,E P (xs f.i) h k F↔F b k:=by
      rcases t with G|G
      .obtain⟨b,y⟩:=xq G c;exact⟨b,λF=>y k F⟩
      .exact uq G c
     obtain⟨b,y⟩:=G;rw[y]at c|-;exact j r b k S c
    .refine nI (λb d g=>?_) c;have n2:=g.1 p.i (by simpa using l7) k2;obtain⟨a08,N⟩:=a8i.1 l9;have a09:E P (xs p.i) h d λu _=>u=r:=by have:=n2;rw[qU h _ _ r b aD]at this;unfold hP at this;rw[N]at this;simp only at this;rw[L4,<-N,lM _ (sK l8),lM _ c2]at this;exact this
     grind[uq]
  .
   have O:=ab8.1 k9;have Q:=k3 f.i (by simpa using l1);have n3:(∃r,∀(k:U)(z:R->U->Prop),E P (xs f.i) h k z↔z r k)\/∃(e:Nat->R)(l:Nat->bq),∀(k:U)(z:R->U->Prop),E P (xs f.i) h k z↔ ∀D,k D=η->z (e D) (k.set D (l D)):=by
    rcases l0 with G|G
    .exact .inl (xq G Q)
    .exact C3 G Q
   have X:∀b,∀a∈p.pre,Def P (xs a) (ds h (xs f.i).dst b):=λb a x=>by
    grind[Def,lM,sK,List.all_eq_true]
   have a10:∀a∈p.kf,∀(w)(b)(n),hP P xs a w n->hP P xs a (ds w (xs f.i).dst b) n:=λa x w b n C=>by
    simp_all [Κ,C5]
   unfold T at V;rcases n3 with⟨b,y⟩|⟨e,l,y⟩
   .unfold T;rw[y];refine⟨λa x=>(by rw[O]at x;cases x),X b,?_⟩;unfold T;rw[lM _ c2];refine nI (λv n4 C=>?_) V;have c:=C.2;rw[lM _ i,y,qU h _ _ v b aD]at c;refine⟨λa x=>?_,c.2⟩;grind[qU]
   .unfold T;rw[y];intro D m;refine⟨λa x=>(by rw[O]at x;cases x),X (e D),?_⟩;unfold T;rw[lM _ c2];refine nI (λv n n5=>?_) (xp m V);obtain⟨n4,C,n9,rfl⟩:=n5;have c:=C.2;rw[lM _ i,y]at c;have Y:=c D n9;rw[qU h _ _ v (e D) aD]at Y;refine⟨λa x=>?_,Y.2⟩;grind[qU,Lb]
def ur(a:Nat->ϋ):Nat->ϋ->Nat->ϋ
 |0,acc,_=>acc
 |d+1,acc,b=>ur a d (acc++[(a b).foldl (λf c=>f|||2^c|||acc.getD c 0) 0]) (b+1)
def dep(a:ϋ)(b c:Nat):Bool:=(a.getD c 0).testBit b
def kP(c:Nat->c6)(d:ϋ)(a:dn):ϋ->List dn->Bool
 |_,[]=>ζ
 |f,b::h=>(dep d a.i b.i||indep c a b f)&&kP c d a (f++[b.i]) h
def nK(a:Nat->c6)(b:ϋ):List dn->Bool
 |[]=>ζ
 |d::c=>kP a b d [] c&&nK a b c
def jq(a:Array Oper)(b:Nat):ϋ:=
 match a[b]? with
 |some c=>(c.after.toList.filter λd=>Region.binds .any d).map (·.on)
 |none=>[]
def uu(h:Ctx)(k:Nat->c6)(b:Array Oper)(f:Fr->U->Prop):Nat->Array Bool->Fr->U->Prop
 |0,a,c,d=>Region.ready .any b a=[]/\f c d
 |fuel+1,a,c,d=>(Region.ready .any b a=[]->f c d)/\∀o∈Region.ready .any b a,T h (k o) (uu h k b f fuel (a.setIfInBounds o ζ)) c d
def C7(b:Array Oper)(c:Array Bool):Prop:=∀a,a<b.size->c.getD a ζ=ζ->∀d∈jq b a,c.getD d κ=ζ
theorem xr{a:Array Oper}:i∈jq a e↔ ∃b,a[e]?=γ b/\∃c∈b.after,Region.binds .any c=ζ/\c.on=i:=by unfold jq;grind
theorem xt{a:Array Oper}{b:Array Bool}:e∈Region.ready .any a b↔b.getD e ζ=κ/\e<a.size/\∀d∈jq a e,b.getD d κ=true:=by
 rw[mem_ready];constructor
 .rintro⟨c,y,r,f⟩;refine⟨c,(a8L.1 r).1,λd x=>?_⟩;obtain⟨z,C,h,k,o,rfl⟩:=xr.1 x;simp_all
 .rintro⟨c,p,f⟩;exact⟨c,a[e],a9I p,λh k o=>f _ (xr.2 ⟨_,a9I p,h,k,o,rfl⟩)⟩
theorem Lc(c:ϋ)(f:ϋ)(d:Nat):∀a,(c.foldl (λa b=>a|||2^b|||f.getD b 0) a).testBit d=ζ->a.testBit d=ζ\/∃b∈c,d=b\/(f.getD b 0).testBit d=true:=by
 induction c with
 |nil=>intro a h;exact .inl h
 |cons k c ih=>grind
def Bits(f:Nat->ϋ)(d:ϋ):Prop:=∀a b,dep d b a=ζ->∃c∈f a,b=c\/(dep d b c=ζ/\c<a)
theorem C8{f:Nat->ϋ}(E:∀b a,a∈f b->a<b):∀(r:Nat)(c:ϋ)(d:Nat),β c=d->Bits f c->Bits f (ur f r c d)
 |0,c,d,_,x=>x
 |r+1,c,d,y,x=>by
  refine C8 E r _ (d+1) (by simp[y]) λb F h=>?_;have z:∀b,b<d->(c++[(f d).foldl (λk a=>k|||2^a|||c.getD a 0) 0]).getD b 0=c.getD b 0:=λb o=>by
   grind
  unfold dep at h|-;rcases aak b d with o|o|o
  .rw[z b o]at h;obtain⟨a,C,p⟩:=x b F h;refine⟨a,C,p.imp id λD=>⟨?_,D.2⟩⟩;rw[z a ε];exact D.1
  .subst o;have G:(c++[(f b).foldl (λk a=>k|||2^a|||c.getD a 0) 0]).getD b 0=(f b).foldl (λk a=>k|||2^a|||c.getD a 0) 0:=by rw[<-y];simp
   rw[G]at h;rcases Lc _ _ _ _ h with p|⟨a,C,p⟩
   .simp at p
   grind
  grind
theorem Ld{f:Array Oper}{d:Array Bool}(r:Bits (jq f) j7)(x:C7 f d)(F:d.size=f.size):∀(h a b:Nat),b<=h->dep j7 a b=ζ->(∀c∈jq f b,d.getD c κ=ζ)->d.getD a κ=true:=by
 intro h
 induction h with
 |zero=>
  intro a b y p k;obtain⟨c,o,rfl|⟨_,z⟩⟩:=r b a p
  .exact k _ o
  .omega
 |succ h ih=>
  intro a b y p k;obtain⟨c,o,rfl|⟨C,z⟩⟩:=r b a p
  .exact k _ o
  .have D:=k c o;have E:c<d.size:=by grind
   refine ih a c ε C (x c ε ?_);simpa[E] using D
def C9{h:ϋ}{c d:dn}{k:List dn}:∀ {f:List dn}{b:ϋ},kP xs h c b (f++d::k)=ζ->dep h c.i d.i=ζ\/indep xs c d (b++f.map (·.i))=ζ
 |[],b,a=>by
  simp only[a7T,kP,Κ,a8Y]at a;simpa using a.1
 |o::f,b,a=>by
  simp only[a8K,kP,Κ]at a;have:=C9 a.2;simpa using this
theorem Ca{d:ϋ}{b:dn}{h:List dn}:∀ {a:List dn},nK xs d (a++b::h)=ζ->(∀f∈a,dep d f.i b.i=κ)->Pass xs b a
 |[],_,_=>trivial
 |f::a,c,k=>by
  simp only[a8K,nK,Κ]at c;refine⟨?_,Ca c.2 (λo p=>k o (a9l _ p))⟩;have:=C9 c.1;simp_all
theorem Le{a c:dn}{d:ϋ}(f:indep xs a c j7=ζ)(h:∀b,b∈j7->b∈d\/(clear (xs a.i).dst (xs b).reads=ζ/\mJ (xs a.i).dst (xs b).dst=ζ)):indep xs a c d=true:=by simp only[indep,Κ]at f|-;grind
theorem Cb{k:ϋ}{c:dn}:∀ {d:List dn}{f h:ϋ},kP xs k c f d=ζ->(∀a,a∈f->a∈h\/(clear (xs c.i).dst (xs a).reads=ζ/\mJ (xs c.i).dst (xs a).dst=ζ))->kP xs k c h d=ζ
 |[],_,_,_,_=>rfl
 |o::d,f,h,b,hm=>by
  simp only[kP,Κ,a8Y]at b|-;refine⟨b.1.imp id (λb=>Le b hm),Cb b.2 λa p=>?_⟩;grind
theorem Cc{h:ϋ}{b d:dn}{k:List dn}(o:clear (xs b.i).dst (xs d.i).reads=ζ/\mJ (xs b.i).dst (xs d.i).dst=ζ):∀ {f:List dn}{c:ϋ},kP xs h b c (f++d::k)=ζ->kP xs h b c (f++k)=ζ
 |[],c,a=>by
  simp only[a7T,kP,Κ]at a|-;refine Cb a.2 λp r=>?_;grind
 |p::f,c,a=>by
  simp only[a8K,kP,Κ]at a|-;exact⟨a.1,Cc o a.2⟩
def Cd{d:ϋ}{f:dn}{h:List dn}:∀ {b:List dn},nK xs d (b++f::h)=ζ->Pass xs f b->nK xs d (b++h)=ζ
 |[],a,_=>by simp only[a7T,nK,Κ]at a|-;exact a.2
 |o::b,a,k=>by
  simp only[a8K,nK,Κ]at a|-;have c:=k.1;simp only[indep,Κ]at c;exact⟨Cc ⟨c.1.1.1.1,c.1.1.2⟩ a.1,Cd a.2 k.2⟩
theorem Lf{h:Array Oper}{e:Fr->U->Prop}(q:Bits (jq h) j7)(s:∀a c,c∈jq h a->c<a):∀(x:Nat)(b:Array Bool)(d:List dn),b.size=h.size->β d<=x->
  (∀a,a∈d.map (·.i)↔(a<h.size/\b.getD a ζ=κ))->(d.map (·.i)).Nodup->nK xs j7 d=ζ->C7 h b->∀y z,can P xs e d y z->uu P xs h e x b y z:=by
 have t:∀(b:Array Bool)(d:List dn),b.size=h.size->(∀a,a∈d.map (·.i)↔(a<h.size/\b.getD a ζ=κ))->Region.ready .any h b=[]->d=[]:=λb d C p T=>by
  cases d with
  |nil=>rfl
  |cons f X=>
   exfalso;have u:∀F a,a<=F->a<h.size->b.getD a ζ=κ->∃c,c∈Region.ready .any h b:=by
    intro F
    induction F with
    |zero=>intro a V k o;refine⟨a,xt.2 ⟨o,k,λc r=>?_⟩⟩;have:=s a c r;omega
    |succ F ih=>
     intro a V k o;by_cases v:∀c∈jq h a,b.getD c κ=ζ
     .exact⟨a,xt.2 ⟨o,k,v⟩⟩
     grind
   obtain⟨k,o⟩:=(p f.i).1 σ;obtain⟨c,r⟩:=u f.i f.i (Χ _) k o;rw[T]at r;cases r
 intro x
 induction x with
 |zero=>intro b d C g p _ _ _ y z G;have:d=[]:=a7y ε;subst this;refine⟨?_,G⟩;simp_all [Region.ready]
 |succ x ih=>
  intro b d C g p w i j y z G;refine⟨λT=>?_,λa V=>?_⟩
  .have:=t b d C p T;subst this;exact G
  .obtain⟨k,o,l⟩:=xt.1 V;have A:=(p a).2 ⟨o,k⟩;obtain⟨f,B,rfl⟩:=a7M.1 A;obtain⟨D,L,rfl⟩:=aaf B;have H:(D.map (·.i)++f.i::L.map (·.i)).Nodup:=by simpa using w
   have I:(D.map (·.i)).Nodup:=(List.nodup_append.1 H).1;have m:=Ca i λE W=>by
    cases K:dep j7 E.i f.i with
    |false=>rfl
    |true=>exfalso;have Y:=Ld q j C f.i E.i f.i (Χ _) K l;grind
   have M:=C6 f L D m I y z G;refine sH (λN O Q=>?_) M;refine ih (b.setIfInBounds f.i ζ) (D++L) (by simp[C]) (by simp at g|-;omega) (λc=>?_) ?_ (Cd i m) ?_ N O Q.2
   .have Z:f.i∉(D++L).map (·.i):=by grind
    by_cases S:f.i=c;simp_all
    .rw[getD_set_ne ζ S,<-p c];grind
   grind
   .intro c r n E W;by_cases S:f.i=c
    .subst S;exact getD_set_true (l E W)
    .rw[getD_set_ne ζ S]at n;exact getD_set_true (j c r n E W)
end
inductive gK where
 |norm
 |exit (id:Nat)
 |ret
inductive dv where
 |skip
 |plain (ops:List c6)
 |draw (ops:List c6) (order:List dn)
 |seq (a b:dv)
 |cond (c:Operand) (a b:dv)
 |block (id:Nat) (a:dv)
 |loop (a:dv)
 |exit (id:Nat)
 |ret
 |refuse
def nth(a:List c6)(b:Nat):c6:=a.getD b {dst:=η,op:=.dP (.const (.bool ζ)),guard:=η}
def fj(a:Fr->U->Prop)(b:gK->Fr->U->Prop):gK->Fr->U->Prop
 |.norm=>a
 |c=>b c
def lO(id:Nat)(a:gK->Fr->U->Prop):gK->Fr->U->Prop
 |.exit b=>if b=id then a .norm else a (.exit b)
 |c=>a c
def bR(c:Ctx):dv->(gK->Fr->U->Prop)->Fr->U->Prop
 |.skip,a=>a .norm
 |.plain ops,a=>jo c ops (a .norm)
 |.draw ops order,a=>can c (nth ops) (a .norm) order
 |.seq f h,a=>bR c f (fj (bR c h a) a)
 |.cond y f h,a=>λb d=>match ai b y with
  |.v (.bool o)=>(o=ζ->bR c f a b d)/\(o=κ->bR c h a b d)
  |_=>False
 |.block id f,a=>bR c f (lO id a)
 |.loop f,a=>λb d=>∃(k:Fr->U->Prop)(p:Fr->U->Nat),k b d/\∀b d,k b d->bR c f (fj (λr x=>k r x/\p r x<p b d) a) b d
 |.exit id,a=>a (.exit id)
 |.ret,a=>a .ret
 |.refuse,_=>λ_ _=>False
def xu(a:Array Oper)(b:Oper):Option (Option (Nat×Bool)):=
 match b.guard with
 |none=>γ η
 |some (c,want)=>match(a[c]?).bind (·.dst)with
  |some d=>γ (γ (d,want))
  |none=>η
def Ce(a:Nat):Option Nat->Bool
 |some b=>decide (b<a)
 |none=>ζ
def xv(a:ϋ):Option Nat->Bool
 |some b=> !a.contains b
 |none=>ζ
def qW(c:Program)(b:Env)(d:Nat)(f:Array Oper)(a:Oper):Option c6:=
 match xo c b a,xu f a with
 |some h,γ k=>if Ce d a.dst=ζ/\xv b.pins a.dst=ζ then γ {dst:=a.dst,op:=h,guard:=k}else η
 |_,_=>η
def fL{a b:Type}(c:a->Option b):List a->Option (List b)
 |[]=>γ []
 |d::f=>match c d,fL c f with
  |some h,γ k=>γ (h::k)
  |_,_=>η
def xw(b:Nat->ϋ)(c:ϋ)(d:Nat->Bool)(left:ϋ):Option Nat:=left.find? λa=>(b a).all (λf=>c.contains f)&&d a
def Cf(b:Nat->ϋ)(c:Nat->c6):Nat->ϋ->ϋ->ϋ
 |0,_,_=>[]
 |fuel+1,done,left=>
  match(xw b done (λa=>nJ (c a).op||oJ (c a).op) left).or ((xw b done (λa=> !lN (c a).op) left).or (xw b done (λ_=>ζ) left))with
  |some a=>a::Cf b c fuel (a::done) (left.filter (·!=a))
  |none=>[]
def Cg(a:c6):Bool:=nJ a.op||oJ a.op
def marks(a:Nat->c6)(d:Nat->Nat->Bool):ϋ->ϋ->List dn
 |_,[]=>[]
 |ahead,b::f=>
  let h:=if Cg (a b)then []else f.filter λc=>(lN (a c).op||nJ (a c).op)&& !d b c
  let k:=if Cg (a b)||lN (a b).op then []else ahead.filter λc=>oJ (a c).op&& !d c b
  ⟨b,h,k⟩::marks a d (ahead++[b]) f
def Ch(a:Array Oper)(b:Nat->c6):List dn:=
 marks b (dep (ur (jq a) a.size [] 0)) [] (Cf (jq a) b a.size [] (ψ a.size))
def xx(a:Array Oper)(d:Nat->c6)(b:List dn):Bool:=
 (ψ a.size).all (λc=>(jq a c).all (λf=>decide (f<c)))&&decide (β b<=a.size)&&(ψ a.size).all (λc=>(b.map (·.i)).contains c)&&b.all (λh=>decide (h.i<a.size))&&
  decide ((b.map (·.i)).Nodup)&&nK d (ur (jq a) a.size [] 0) b
def uv:Code->List Oper
 |.region _ ops _=>ops.toList
 |.seq a b|.cond _ a b=>uv a++uv b
 |.block _ a|.loop a=>uv a
 |_=>[]
def sL(a:ϋ):Operand->Bool
 |.tmp b=>a.contains b
 |_=>κ
def derive(a:ϋ):List Oper->ϋ
 |[]=>a
 |d::f=>match d.op,d.dst with
  |.fieldAddr _ b _,γ c|.indexAddr _ b _,γ c|.nilCheck b,γ c=>derive (if sL a b then c::a else a) f
  |_,_=>derive a f
def Lg(a:ϋ)(b:Oper):Bool:=
 match b.op with
 |.fieldAddr _ _ _|.indexAddr _ _ _|.nilCheck _|.load _ _|.slice _ _ _ _ _=>κ
 |op=>op.operands.toList.any (sL a)
def Lh(a:ϋ)(b:Oper):Bool:=
 match b.op with
 |.slice _ c _ _ _=>sL a c
 |_=>κ
def Li(a:ϋ)(f:Oper):ϋ:=
 let o (a:ϋ) (b:Operand):ϋ:=match b with|.tmp h=>if a.contains h then a else h::a|_=>a
 let c (b:Operand):ϋ:=match f.dst with
  |some d=>if a.contains d then o a b else if sL a b then(if a.contains d then a else d::a)else a
  |none=>a
 match f.op with
 |.move b|.assign b=>c b
 |.slice _ b _ _ _=>c b
 |.call k=>match k.callee,k.args.toList with
  |.builtin .append,[b,_]=>c b
  |_,_=>a
 |_=>a
def xy(b:List Oper):Nat->ϋ->ϋ
 |0,a=>a
 |d+1,a=>let c:=b.foldl Li a;if β c=β a then a else xy b d c
def Ci(c:Program)(a:List Oper):ϋ:=
 a.filterMap λb=>match b.op,b.dst with
  |.indexAddr d (.tmp f) _,γ h=>if !(match c.underlying d with|some (.slice _)=>ζ|_=>κ)then η else let k:=derive [h] a;if a.any (λo=>match o.op with|.store _ p _=>sL k p|_=>κ)then γ f else η
  |_,_=>η
def Lj(b:Program)(c:ϋ)(a:Oper):Bool:=
 match a.op,a.dst with
 |.convert st _ _,γ d=>(match b.underlying st with|some .string=>ζ|_=>κ)&&c.contains d
 |_,_=>κ
def Lk(d:Program)(b:Code):Env:=
 let a:=uv b
 let f:=(a.filterMap λc=>match c.op with|.box _ _=>c.dst|_=>η).filter λk=>let h:=derive [k] a;a.any (Lh h)&& !a.any (Lg h)
 {jZ:=f,BK:=derive f a,wr:=a.filterMap λc=>match c.op with|.call b=>(match b.callee,b.args.toList with|.builtin .copy,.tmp o:: _=>γ o|_,_=>η)|_=>η,ui:=xy a 40 (Ci d a),ty:=κ,mI:=a.any (Lj d (xy a 40 (Ci d a)))}
def hp(b:Program)(a:Env)(c:Nat):Code->Option dv
 |.skip=>γ .skip
 |.region _ ops κ=>match fL (qW b a c ops) ops.toList with
  |some xs=>γ (.plain xs)
  |none=>if a.BL=ζ then γ .refuse else η
 |.region _ ops ζ=>match fL (qW b a c ops) ops.toList with
  |some xs=>if xx ops (nth xs) (Ch ops (nth xs))=ζ then γ (.draw xs (Ch ops (nth xs)))else η
  |none=>η
 |.seq d f=>match hp b a c d,hp b a c f with
  |some h,γ k=>γ (.seq h k)
  |_,_=>η
 |.cond o d f=>match hp b a c d,hp b a c f with
  |some h,γ k=>if aQ o=ζ then γ (.cond o h k)else η
  |_,_=>η
 |.block id d=>(hp b a c d).map (.block id)
 |.loop d=>(hp b a c d).map .loop
 |.exit id=>γ (.exit id)
 |.ret=>γ .ret
 |.refuse _=>γ .refuse
 |_=>η
def pJ(a:List Deferred×List (Nat×Value))(b:Act):Prop:=b.defers=a.1/\∀c∈a.2,b.tmps.getD c.1 undef=c.2
theorem pJ.put{d:List Deferred×List (Nat×Value)}{a:Act}(f:pJ d a){b:Option Nat}{v:Value}{h:ϋ}(o:∀c∈d.2,c.1∈h)(p:xv h b=ζ):pJ d (a.put b v):=by
 refine⟨by rw[<-f.1];cases b<;>rfl,λc k=>?_⟩;cases b with
 |none=>exact f.2 c k
 |some b=>
  have r:c.1≠b:=by rintro rfl;grind[xv,Bool.not_eq_true',decide_eq_false_iff_not]
  rw[<-f.2 c k];simp_all [Act.put,Θ]
def il(c:List Deferred×List (Nat×Value))(d:Nat)(f:bf)(h:U)(k:World)(o:Fr)(p:U)(a:Act)(r:World):Prop:=
 a.tmps.size=d/\pJ c a/\∃b,bI b a o/\Step f h k b p r
def post(f:List Deferred×List (Nat×Value))(C:R->U->Prop)(p:Nat)(h:bf)(k:U)(o:World)(r:gK->Fr->U->Prop):Exit->Act->World->Prop
 |.normal,b,d=>∃a c,il f p h k o a c b d/\r .norm a c
 |.exit id,b,d=>∃a c,il f p h k o a c b d/\r (.exit id) a c
 |.ret,b,d=>∃a c,il f p h k o a c b d/\r .ret a c
 |.panic D,b,d=>pJ f b/\∃v y x z,D=[{v,recovered:=κ}]/\Step h k o x z d/\aW x v y/\up C y z/\∃a,bI x b a
 |_,_,_=>False
variable{b9:FuncId}
section
variable{env:Env}{D:List Deferred×List (Nat×Value)}
def size_put(a:Act)(b:Option Nat)(v:Value):(a.put b v).tmps.size=a.tmps.size:=by cases b<;>simp[Act.put]
theorem Cj{c k:Type}{o:c->Option k}:∀ {d:List c}{b:List k},fL o d=γ b->β d=β b/\∀(p:Nat)(f:c),d[p]?=γ f->∃h,b[p]?=γ h/\o f=γ h
 |[],b,a=>by simp only[fL,a7G]at a;simp_all
 |f::x,b,a=>by
  simp only[fL]at a;split at a
  case h_2=>cases a
  rename_i h y z r;obtain rfl:=Δ a;obtain⟨C,E⟩:=Cj r;grind
theorem Ll{f:Array Oper}{k:Oper}{y:Option (Nat×Bool)}(c:xu f k=γ y){a:Act}(C:bI v a l):
  match y with
  |none=>Region.wanted k (yielded f a.tmps)=ζ
  |some (b,z)=>(∀o,l b=.v (.bool o)->Region.wanted k (yielded f a.tmps)=(o==z))/\(l b=.aJ []->Region.wanted k (yielded f a.tmps)=κ):=by
 unfold xu at c;split at c
 .rename_i r;obtain rfl:=Δ c;simp[Region.wanted,r]
 .rename_i E z r;split at c
  case h_2=>cases c
  rename_i b F;obtain rfl:=Δ c;have d:=C b;refine⟨λo x=>?_,λx=>?_⟩
  .rw[x]at d;have h:=d.dy;have P:a.tmps[b]?=γ (.bool o):=by
    rw[a8s]at h;cases p:a.tmps[b]? with
    |none=>rw[p]at h;cases h
    |some G=>rw[p]at h;simpa using h
   grind[yielded,Region.wanted]
  .rw[x]at d;have L:yielded f a.tmps E=none:=by
    unfold yielded;rw[F];simp only[Option.bind_some];cases p:a.tmps[b]? with
    |none=>rfl
    |some G=>rw[a8s,p]at d;simp only[a9u]at d;cases d;rfl
   simp[Region.wanted,r,L]
theorem Ck{r:bf}(P:∀B∈D.2,B.1∈env.pins){S:Array Oper}{b:Oper}{V:c6}(p:qW q env e S b=γ V){d:Act}(H:il D e r g m l w d j4){k:Fr->U->Prop}(I:T ⟨q,u⟩ V k l w)(y:Exit->Act->World->Prop)(K:∀v h o a f,(∃l,bI o d l)->Step r g m o a f->aW o v h->up u h a->y (.panic [{v,recovered:=κ}]) d f):
  if Region.wanted b (yielded S d.tmps)then b.wp q d j4 (λz f=>∃c a,il D e r g m c a z f/\k c a) y else∃c a,il D e r g m c a (d.put b.dst undef) j4/\k c a:=by
 obtain⟨W,i,j,x,C⟩:=H;unfold qW at p;split at p
 case h_2=>cases p
 rename_i M k3 N O;split at p
 case isFalse=>cases p
 rename_i n;obtain rfl:=Δ p;have s:∀F,b.dst=γ F->F<d.tmps.size:=λF k4=>by grind[Ce]
 have k5:=Ll O x;have k6:G ⟨q,u⟩ M l w (λh a=>k (ds l b.dst h) a)->b.wp q d j4 (λz f=>∃c a,il D e r g m c a z f/\k c a) y:=λQ=>by
  have:=L1 N x C.holds Q y (λv h o a f t X Y=>K v h o a f ⟨l,x.mono t.le⟩ (C.trans t) X Y);refine Oper.wp_mono (λz f Z=>?_) this;obtain⟨v,o,a,h,rfl,A,k2,L⟩:=Z;exact⟨ds l b.dst h,a,⟨by rw[size_put];exact W,i.put P n.2,o,(x.mono A.le).put b.dst s k2,C.trans A⟩,L⟩
 have k7:k (ds l b.dst (.aJ [])) w->∃c a,il D e r g m c a (d.put b.dst undef) j4/\k c a:=λL=>
  ⟨ds l b.dst (.aJ []),w,⟨by rw[size_put];exact W,i.put P n.2,j,x.put b.dst s (aW.undef j),C⟩,L⟩
 unfold T E at I;grind
theorem Cl{P:bf}(E:∀T∈D.2,T.1∈env.pins){F:Array Oper}{k:Exit->Act->World->Prop}{G:Fr->U->Prop}(L:∀b c a d,il D e P g m b c a d->G b c->k .normal a d)(S:∀a v o h p r,(pJ D a/\∃b,bI h a b)->Step P g m h p r->aW h v o->up u o p->k (.panic [{v,recovered:=κ}]) a r):∀(x:List Oper)(y:List c6),fL (qW q env e F) x=γ y->
  ∀(b:Fr)(c:U)(a:Act)(d:World),il D e P g m b c a d->jo ⟨q,u⟩ y G b c->wpList q F k x a d
 |[],y,f,b,c,a,d,z,C=>by
  simp only[fL,a7G]at f;subst f;exact L b c a d z C
 |n::x,y,f,b,c,a,d,z,C=>by
  simp only[fL]at f;split at f
  case h_2=>cases f
  rename_i s V W i;obtain rfl:=Δ f;have ih:=Cl E L S x V i;have:=Ck E W z C k (λv o h p r j=>S a v o h p r ⟨z.2.1,j⟩);simp only[wpList];split
  .rename_i l;rw[if_pos l]at this;grind[Oper.wp_mono]
  grind
def xz{l:bf}(F:∀w∈D.2,w.1∈env.pins){x:Array Oper}{y:Exit->Act->World->Prop}{j:Fr->U->Prop}(z:∀b d a c,il D e l g m b d a c->j b d->y .normal a c)(G:∀a v C k f h,(pJ D a/\∃b,bI k a b)->Step l g m k f h->aW k v C->up u C f->y (.panic [{v,recovered:=κ}]) a h){L:List c6}(P:fL (qW q env e x) x.toList=γ L):
  ∀(o:Nat)(E:Array Bool)(b:Fr)(d:U)(a:Act)(c:World),il D e l g m b d a c->uu ⟨q,u⟩ (nth L) x j o E b d->wpAny q .any x y o E a c
 |0,E,b,d,a,c,p,r=>⟨r.1,z b d a c p r.2⟩
 |o+1,E,b,d,a,c,p,r=>by
  refine⟨λA=>z b d a c p (r.1 A),λS n=>?_⟩;have s:=r.2 S n;obtain⟨_,B,t,_⟩:=mem_ready.1 n;obtain⟨H,I,K⟩:=(Cj P).2 S B (by simpa using t);have M:nth L S=H:=by simp[nth,I]
  rw[M]at s;have:=Ck F K p s y (λv C k f h N=>G a v C k f h ⟨p.2.1,N⟩);unfold wpOp;simp only[t];split
  .rename_i T;rw[if_pos T]at this;exact .inl (Oper.wp_mono (λO h ⟨V,f,W,i⟩=>xz F z G P o _ V f O h W i) this)
  .rename_i T;rw[if_neg T]at this;obtain⟨V,f,W,i⟩:=this;exact xz F z G P o _ V f _ c W i
theorem Lm{a:Array Oper}{d:Nat->c6}{f:List dn}(c:xx a d f=ζ){o:Fr->U->Prop}(p:can X d o f l g):uu X d a o a.size (Array.replicate a.size κ) l g:=by
 simp only[xx,Κ,a7L,decide_eq_true_eq,a8B]at c;obtain⟨⟨⟨⟨⟨E,F⟩,G⟩,L⟩,x⟩,y⟩:=c;have r:∀b h,h∈jq a b->h<b:=λb h P=>by
  grind[xr,Array.getElem?_eq_some_iff]
 refine Lf (C8 r a.size [] 0 rfl (λb z c=>by simp[dep]at c)) r a.size _ f σ ε (λb=>?_) x y (λb k C=>?_) l g p
 .constructor
  .intro k;obtain⟨z,p,rfl⟩:=a7M.1 k;simp_all
  simp_all
 .simp[k]at C
def pK{l:bf}(G:q.follows .mixedOrders=ζ)(F:∀k5∈D.2,k5.1∈env.pins):∀(p:Code)(r:dv),hp q env e p=γ r->∀(o:gK->Fr->U->Prop)(b:Fr)(c:U)(d:Act)(h:World),il D e l g m b c d h->bR ⟨q,u⟩ r o b c->p.wp q (post D u e l g m o) d h
 |.skip,r,a,o,b,c,d,h,f,bQ=>by
  simp only[hp,a7G]at a;subst a;exact wp_skip ⟨b,c,f,bQ⟩
 |.region id ops k6,r,a,o,b,c,d,h,f,bQ=>by
  cases k6 with
  |false=>
   simp only[hp]at a;split at a
   case h_2=>
    split at a
    .obtain rfl:=Δ a;trivial
    .cases a
   rename_i Y n;obtain rfl:=Δ a;refine wp_region_list ?_;exact Cl F (λb c d h f x=>⟨b,c,f,x⟩) (λd v s t y C E L w A=>⟨E.1,v,s,t,y,rfl,L,w,A,E.2⟩) ops.toList Y n b c d h f bQ
  |true=>
   simp only[hp]at a;split at a
   case h_2=>cases a
   rename_i Y n;split at a
   case isFalse=>cases a
   rename_i k7;obtain rfl:=Δ a;refine wp_region_any G ?_;obtain⟨k8,k9,l0,l1,Z⟩:=f;exact xz F (λb c d h f x=>⟨b,c,f,x⟩) (λd v s t y C E L w A=>⟨E.1,v,s,t,y,rfl,L,w,A,E.2⟩) n ops.size _ b c d _ ⟨k8,k9,l0,l1,Z.trans (Step.drew Z.holds)⟩ (Lm k7 bQ)
 |.seq c1 c2,r,a,o,b,c,d,h,f,bQ=>by
  simp only[hp]at a;split at a
  case h_2=>cases a
  rename_i c3 bS E L;obtain rfl:=Δ a;refine wp_seq (wp_mono (pK G F c1 c3 E _ b c d h f bQ) λz P C k=>?_);cases z with
  |normal=>obtain⟨S,y,T,x⟩:=k;exact pK G F c2 bS L o S y P C T x
  |exit id=>exact k
  |ret=>exact k
  |goto k2=>exact k
  |panic B=>exact k
  |outgrown=>exact k
 |.cond p c1 c2,r,a,o,b,c,d,h,f,bQ=>by
  simp only[hp]at a;split at a
  case h_2=>cases a
  rename_i c3 bS E L;split at a
  case isFalse=>cases a
  rename_i l2;obtain rfl:=Δ a;simp only[bR]at bQ;split at bQ
  case h_2=>trivial
  rename_i n9 l3;have k3:=(f.2.2.choose_spec.1).ai p l2;rw[l3]at k3;refine wp_cond_split k3.dy (λH=>?_) (λH=>?_)
  .exact pK G F c1 c3 E o b c d h f (bQ.1 H)
  .exact pK G F c2 bS L o b c d h f (bQ.2 H)
 |.block id p,r,a,o,b,c,d,h,f,bQ=>by
  simp only[hp]at a;obtain⟨I,K,rfl⟩:=aai.1 a;refine wp_block (wp_mono (pK G F p I K _ b c d h f bQ) λz P C k=>?_);cases z with
  |normal=>exact k
  |exit a00=>
   obtain⟨S,y,T,x⟩:=k;simp only[Exit.inBlock];simp only[lO]at x;split
   .rename_i M;rw[if_pos M]at x;exact⟨S,y,T,x⟩
   .rename_i M;rw[if_neg M]at x;exact⟨S,y,T,x⟩
  |ret=>exact k
  |goto k2=>exact k
  |panic B=>exact k
  |outgrown=>exact k
 |.loop p,r,a,o,b,c,d,h,f,bQ=>by
  simp only[hp]at a;obtain⟨I,K,rfl⟩:=aai.1 a;obtain⟨l4,k4,N,l5⟩:=bQ;intro O Q X;have l6:∀W b c d h,k4 b c=W->l4 b c->il D e l g m b c d h->
    ∃z P C,post D u e l g m o z P C/\Arrives q (lone (O.at d (.code p::.inLoop p::Q)) X h) O Q X z P C:=by
   intro W
   induction W using Nat.strongRecOn with
   |_ W ih=>
    intro b c d h l7 N f;obtain⟨z,i,j,k,V⟩:=pK G F p I K _ b c d h f (l5 b c N) O (.inLoop p::Q) X;cases z with
    |normal=>obtain⟨S,y,T,l8,l9⟩:=k;obtain⟨n0,n2,n3,n4,n5⟩:=ih (k4 S y) (l7▸l9) S y i j rfl l8 T;exact⟨n0,n2,n3,n4,.of_steps (Steps.trans V (.one step_inLoop)) n5⟩
    |exit id=>exact⟨.exit id,i,j,k,.pass rfl (λ_ _=>.inl σ) V⟩
    |goto k2=>trivial
    |ret=>exact⟨.ret,i,j,k,.pass rfl (λ_ _=>.inl σ) V⟩
    |panic B=>exact⟨.panic B,i,j,k,.pass rfl (λ_ _=>.inl σ) V⟩
    |outgrown=>trivial
  obtain⟨z,P,C,k,V⟩:=l6 _ b c d h rfl N f;exact⟨z,P,C,k,.of_steps (.one step_loop) V⟩
 |.exit id,r,a,o,b,c,d,h,f,bQ=>by
  simp only[hp,a7G]at a;subst a;exact wp_exit ⟨b,c,f,bQ⟩
 |.ret,r,a,o,b,c,d,h,f,bQ=>by
  simp only[hp,a7G]at a;subst a;exact wp_ret ⟨b,c,f,bQ⟩
 |.refuse a01,r,a,o,b,c,d,h,f,bQ=>by
  simp only[hp,a7G]at a;subst a;trivial
structure au where
 ntmps:Nat
 nparams:Nat
 code:dv
 results:List (Nat×Option (Bool×Nat))
def qX(b:Program):ResultVar->Option (Nat×Option (Bool×Nat))
 |.tmp a=>γ (a,η)
 |.cell d a=>match b.underlying a,kd b a with
  |some c,γ e=>if c.isRow=ζ\/e=1 then γ (d,γ (c.isRow,e))else η
  |_,_=>η
def Env.all(a:Env)(c:Nat)(b:Nat):Env:=
 match c with
 |1=> {a with ui:=ψ b}
 |2=> {a with ty:=ζ}
 |5=> {a with BL:=ζ}
 |6=> {a with ui:=ψ b,xd:=ζ}
 |_=>a
def cu(a:Program)(c:Nat)(d:FuncId):Option au:=
 match a.funcs[d]? with
 |some fn=>match fn.body with
  |some b=>match hp a ((Lk a b).all c fn.ntmps) fn.ntmps b,fL (qX a) fn.results.toList with
   |some f,γ rs=>if fn.params.size<=fn.ntmps then γ ⟨fn.ntmps,fn.params.size,f,rs⟩else η
   |_,_=>η
  |none=>η
 |none=>η
def gL(b:Fr)(c:U):Nat×Option (Bool×Nat)->Option R
 |(a,η)=>γ (b a)
 |(a,γ (agg,e))=>match b a with
  |.ptr d off=>match c.read d with
   |some cs=>if off+e<=β cs then γ (aX agg e (cs.drop off))else η
   |none=>η
  |_=>η
def jr(a:Fr)(b:U)(c:List (Nat×Option (Bool×Nat))):Option R:=
 match fL (gL a b) c with
 |some [d]=>γ d
 |some f=>γ (.aJ f)
 |none=>η
def qY(d:au)(f:R->U->Prop):gK->Fr->U->Prop
 |.exit _,_,_=>False
 |_,h,a=>∃b c,jr h a d.results=γ b/\c.sub a/\f b c
def mK(a:ύ):Fr:=λb=>a.getD b (.aJ [])
def sM(b:Array Value):ResultVar->Sem Value
 |.tmp a=>pure (b.getD a undef)
 |.cell c a=>do loadVar a (<-asAddr (b.getD c undef))
theorem Ln{h:bf}{o:Act}{p:ResultVar}{k:Nat×Option (Bool×Nat)}(z:aW h (o.tmps.getD k.1 undef) (l k.1))(P:Holds h g m)(d:qX q p=γ k)(b:gL l g k=γ s):
  ∃v,(sM o.tmps p).run q m=.ok v m/\aW h v s:=by
 cases p with
 |tmp r=>simp only[qX,a7G]at d;subst d;simp only[gL,a7G]at b;subst b;exact⟨_,rfl,z⟩
 |cell C r=>
  simp only[qX]at d;split at d
  case h_2=>cases d
  rename_i x e E S;split at d
  case isFalse=>cases d
  rename_i V;obtain rfl:=Δ d;simp only[gL]at b;split at b
  case h_2=>cases b
  rename_i f a W;split at b
  case h_2=>cases b
  rename_i I i;split at b
  case isFalse=>cases b
  rename_i j;obtain rfl:=Δ b;have F:aW h (o.tmps.getD C undef) (l C):=z;rw[W]at F;have n:=F.kc;obtain⟨t,c,T,K,u,G⟩:=P.read i;have M:=G.1;cases y:x.isRow with
  |true=>
   have w:m.rangeAt f a ((c.toList.drop a).take e):=by intro N v O;grind[cell_of_row]
   have A:((c.toList.drop a).take e).length=e:=Ι;have L:=run_loadVar_mid m f a r ((c.toList.drop a).take e) x w E y (by rw[A];exact S);refine⟨.agg ((c.toList.drop a).take e).toArray,by simp only[sM,Sem.run_bind,n,asAddr,Sem.run_pure,Result.andThen_ok,L],?_⟩;rw[show((c.toList.drop a).take e).toArray=c.extract a (a+e) by grind];exact aW.aX G t a e j
  |false=>
   obtain rfl:=uk V y;have B:a<c.size:=ε;have H:m.cell? ⟨f,a,η⟩=γ (c.getD a undef):=by rw[cell_of_row m f a c T _ u];simp[B]
   have L:=x1 m r x ⟨f,a,η⟩ _ E y H;grind[undef,sM,Sem.run_bind,asAddr,Sem.run_pure,Result.andThen_ok,aW.x0]
theorem Cm{o:bf}{C:Fr}{E:U}{F:Act}{p:World}(G:Holds o E p):∀(h:List ResultVar)(c:List (Nat×Option (Bool×Nat)))(d:ύ),(∀k∈c,aW o (F.tmps.getD k.1 undef) (C k.1))->fL (qX q) h=γ c->fL (gL C E) c=γ d->
  ∃f:List Value,(h.mapM (sM F.tmps)).run q p=.ok f p/\β f=β d/\∀(r:Nat)(x:Value)(y:R),f[r]?=γ x->d[r]?=γ y->aW o x y
 |[],c,d,z,a,b=>by
  simp only[fL,a7G]at a;subst a;simp only[fL,a7G]at b;simp_all
 |j::h,c,d,z,a,b=>by
  simp only[fL]at a;split at a
  case h_2=>cases a
  rename_i k L P S;obtain rfl:=Δ a;simp only[fL]at b;split at b
  case h_2=>cases b
  rename_i l T V W;obtain rfl:=Δ b;obtain⟨v,m,n⟩:=Ln (z k σ) G P V;obtain⟨f,s,e,t⟩:=Cm G h L T (λg i=>z g (by simp[i])) S W;refine⟨v::f,?_,by simp[e],λr x y u w=>?_⟩;simp_all;grind
theorem Lo{r:bf}{h:Act}{c:Func}{k:List (Nat×Option (Bool×Nat))}(L:∀F∈k,aW r (h.tmps.getD F.1 undef) (l F.1))(P:Holds r g m)(S:fL (qX q) c.results.toList=γ k)(o:jr l g k=γ s):
  ∃v,(results c h.tmps).run q m=.ok v m/\aW r v s:=by
 unfold jr at o;have G:∀d,fL (gL l g) k=γ d->∃a:Array Value,(results c h.tmps).run q m=.ok (if T:a.size=1 then a[0]else .tuple a) m/\β a.toList=β d/\∀(x)(y)(z),a.toList[x]?=γ y->d[x]?=γ z->aW r y z:=λd p=>by
  obtain⟨a,b,C,f⟩:=Cm P c.results.toList k d L S p;refine⟨a.toArray,?_,by trivial,λx y z e V=>f x y z (by trivial) V⟩;have W:results c h.tmps=(do let a <-c.results.mapM (sM h.tmps);pure (if T:a.size=1 then a[0]else .tuple a)):=rfl;rw[W,Sem.run_bind,Array.mapM_eq_mapM_toList,Sem.run_map];rw[b];rfl
 split at o
 .rename_i i p;obtain rfl:=Δ o;obtain⟨a,b,C,f⟩:=G _ p;have E:a.size=1:=by trivial
  rw[dif_pos E]at b;refine⟨_,b,f 0 _ _ ?_ rfl⟩;simp
 .rename_i d j p;obtain rfl:=Δ o;obtain⟨a,b,C,f⟩:=G _ p;have E:a.size≠1:=by grind[List.length_eq_one_iff]
  rw[dif_neg E]at b;exact⟨_,b,.aJ _ _ (bp.ee.2 ⟨C,f⟩).1 (bp.ee.2 ⟨C,f⟩).2⟩
 .cases o
theorem Lp(A:q.follows .mixedOrders=ζ){z:au}(b:cu q e b9=γ z)(B:β j<=z.ntmps)(n:bR ⟨q,b2⟩ z.code (qY z u) (mK j) g):ik q b9 j g u (up b2):=by
 intro f p k s H;unfold cu at b;split at b
 case h_2=>cases b
 rename_i o I;split at b
 case h_2=>cases b
 rename_i K M;split at b
 case h_2=>cases b
 rename_i N O Q X;split at b
 case isFalse=>cases b
 rename_i k6;obtain rfl:=Δ b;simp only at B n;refine calls_of_wp I M ?_;have t:=s.1;have Y:il ([],[]) o.ntmps k g p (mK j) g {tmps:=f++Array.replicate (o.ntmps - f.size) undef,defers:=[]} p:=by
  refine⟨Ι,⟨rfl,λP S=>by simp at S⟩,k,λc=>?_,.refl H⟩;by_cases C:c<β j
  .have T:mK j c=j[c]:=by simp[mK,C]
   rw[T];have:=s.2 c j[c] (Τ C);have V:(f++Array.replicate (o.ntmps - f.size) undef).getD c undef=f.getD c undef:=by simp[abu,t,C]
   rw[V];exact this
  .have T:mK j c=.aJ []:=by simp[mK,C]
   rw[T];have V:(f++Array.replicate (o.ntmps - f.size) undef).getD c undef=undef:=by simp only[a8s,abu,t];grind
   rw[V];exact aW.undef k
 refine wp_mono (pK A (λP S=>by simp at S) K N Q _ _ _ _ _ Y n) λZ W r E=>?_;have w:(∃F x,il ([],[]) o.ntmps k g p F x W r/\∃a G,jr F x O=γ a/\G.sub x/\u a G)->
   W.defers=[]/\∃v,(results o W.tmps).run q r=.ok v r/\((∃y a d h,Ending.returned v=.returned y/\Step k g p d h r/\aW d y a/\u a h)\/(∃y a d h,Ending.returned v=.panicked [{v:=y,recovered:=κ}]/\Step k g p d h r/\aW d y a/\up b2 a h)):=by
  rintro⟨F,x,⟨_,i,d,k2,L⟩,a,G,k3,k4,l⟩;obtain⟨v,k5,m⟩:=Lo (λP _=>k2 P.1) L.holds X k3;exact⟨i.1,v,k5,.inl ⟨v,a,d,G,rfl,L.drop k4,m,l⟩⟩
 cases Z with
 |normal=>exact w E
 |ret=>exact w E
 |exit id=>obtain⟨F,x,_,k7⟩:=E;trivial
 |goto k8=>trivial
 |panic k9=>obtain⟨i,v,a,d,h,rfl,L,m,l,_⟩:=E;exact⟨i.1,.inr ⟨v,a,d,h,rfl,L,m,l⟩⟩
 |outgrown=>trivial
def Lq(b:q.follows .mixedOrders=ζ){a:au}(c:cu q e b9=γ a)(d:β j<=a.ntmps)(f:bR (Ctx.of q) a.code (qY a u) (mK j) g):AC q b9 j g u:=
 (Lp b c d f).Ju
end
abbrev aI(a:Nat):Operand:=.tmp a
abbrev mL(a:Int):Operand:=.const (.int .i64 a)
abbrev qZ:Operand:=.const (.bool κ)
abbrev Lr:Operand:=.const (.slice η 0 0)
abbrev bx(a:Nat)(b:cg):c6:=⟨γ a,b,η⟩
abbrev on(a:cg):c6:=⟨η,a,η⟩
abbrev fs(a:Nat)(b:Bool)(c:Nat)(d:cg):c6:=⟨γ c,d,γ (a,b)⟩
abbrev aC(a b:Nat):c6:=⟨γ a,.dP (.tmp b),η⟩
abbrev cG(a:Nat)(b:BinOp)(c d:Nat):c6:=⟨γ a,.bin b (.tmp c) (.tmp d),η⟩
abbrev fM(a:Nat)(b:BinOp)(c:Nat)(d:Int):c6:=⟨γ a,.bin b (.tmp c) (.const (.int .i64 d)),η⟩
abbrev pL(a b:Nat):c6:=⟨γ a,.len (.tmp b),η⟩
abbrev bc(a:Nat):dn:=⟨a,[],[]⟩
end Go.bw
set_option maxRecDepth 100000
namespace Go.Proofs.YtgchlmdfldnhnaaGreat
open Go Go.bw
theorem hm:δ.follows .mixedOrders=true:=Φ
abbrev iJ:=ύ
def Ls:Nat->Operand
 |0=>(.const (.int .i64 0))
 |1=>(.const (.bool κ))
 |2=>(.const (.int .i64 1))
 |3=>(.const (.slice η 0 0))
 |4=>(.const (.bool ζ))
 |5=>(.const (.pointer η))
 |6=>(.const (.int .i64 8))
 |_=>(.const (.int .i64 4))
def Lt:Nat->Operand
 |0=>(.const (.int .u64 0))
 |1=>(.const (.int .i64 2))
 |2=>(.const (.int .i64 3))
 |3=>(.const (.int .u8 2))
 |4=>(.const (.int .i64 (-1)))
 |5=>(.const (.int .u8 3))
 |6=>(.const (.int .u8 1))
 |_=>(.const (.int .u8 0))
def Lu:Nat->Operand
 |0=>(.const (.int .i64 21))
 |1=>(.const (.string ⟨#[116]⟩))
 |2=>(.const (.int .i64 9))
 |3=>(.const (.int .i64 64))
 |4=>(.const (.int .i64 6))
 |5=>(.const (.int .u64 32))
 |6=>(.const (.int .u64 4294967296))
 |_=>(.const (.int .u64 8))
def Lv:Nat->Operand
 |0=>(.const (.int .i64 10))
 |1=>(.const (.int .i64 1048576))
 |2=>(.const (.int .u64 9223372036854775808))
 |3=>(.const (.int .i64 7))
 |4=>(.const (.int .i64 16))
 |5=>(.const (.int .u64 16))
 |6=>(.const (.int .i64 5))
 |_=>(.const (.int .u8 4))
def Lw:Nat->Operand
 |0=>(.const (.string ⟨#[99,97,110,110,111,116,32,98,101,32,110,101,103,97,116,105,118,101]⟩))
 |1=>(.const (.int .u64 4294967295))
 |2=>(.const (.int .i64 56))
 |3=>(.const (.int .i64 50))
 |4=>(.const (.int .i64 100))
 |5=>(.const (.int .i64 20))
 |6=>(.const (.int .i64 1000))
 |_=>(.const (.string ⟨#[105,100]⟩))
def Lx:Nat->Operand
 |0=>(.const (.int .u64 9223372036854775807))
 |1=>(.func 175)
 |2=>(.const (.int .u64 1))
 |3=>(.const (.int .i64 32))
 |4=>(.const (.int .u64 24))
 |5=>(.const (.string ⟨#[108,101,110,32,111,117,116,32,111,102,32,114,97,110,103,101]⟩))
 |6=>(.const (.string ⟨#[97]⟩))
 |_=>(.const (.int .i64 300))
def Ly:Nat->Operand
 |0=>(.const (.int .i64 40))
 |1=>(.func 30)
 |2=>(.func 31)
 |3=>(.func 32)
 |4=>(.func 33)
 |5=>(.func 45)
 |6=>(.const (.int .i64 (-9223372036854775808)))
 |_=>(.const (.int .i64 9223372036854775807))
def Lz:Nat->Operand
 |0=>(.func 58)
 |1=>(.func 59)
 |2=>(.func 60)
 |3=>(.func 61)
 |4=>(.func 65)
 |5=>(.const (.string ⟨#[116,104,101,32,114,101,115,117,108,116,32,111,102,32,40,108,101,110,40,120,41,32,42,32,99,111,117,110,116,41,32,111,118,101,114,102,108,111,119,115]⟩))
 |6=>(.const (.int .i32 97))
 |_=>(.const (.int .i32 122))
def LA:Nat->Operand
 |0=>(.const (.int .i32 48))
 |1=>(.const (.int .i32 57))
 |2=>(.const (.int .i32 95))
 |3=>(.const (.int .u8 97))
 |4=>(.const (.int .u8 122))
 |5=>(.const (.int .u8 48))
 |6=>(.const (.int .u8 57))
 |_=>(.const (.int .u8 95))
def LB:Nat->Operand
 |0=>(.const (.int .i64 17))
 |1=>(.const (.int .u64 18446744073709551615))
 |2=>(.func 165)
 |3=>(.const (.int .i64 22))
 |4=>(.func 222)
 |5=>(.func 223)
 |6=>(.const (.string ⟨#[]⟩))
 |_=>(.const (.int .u64 65536))
def LC:Nat->Operand
 |0=>(.const (.int .u64 256))
 |1=>(.const (.int .i64 255))
 |2=>(.const (.int .u8 80))
 |3=>(.const .nilFunc)
 |4=>(.const (.int .u8 128))
 |5=>(.const (.int .i64 63))
 |6=>(.const (.int .u64 2))
 |_=>(.const (.int .u32 1779033703))
def LD:Nat->Operand
 |0=>(.const (.int .u32 3144134277))
 |1=>(.const (.int .u32 1013904242))
 |2=>(.const (.int .u32 2773480762))
 |3=>(.const (.int .u32 1359893119))
 |4=>(.const (.int .u32 2600822924))
 |5=>(.const (.int .u32 528734635))
 |6=>(.const (.int .u32 1541459225))
 |_=>(.const (.int .i64 (-6)))
def LF:Nat->Operand
 |0=>(.const (.int .i64 (-11)))
 |1=>(.const (.int .i64 (-25)))
 |2=>(.const (.int .i64 (-2)))
 |3=>(.const (.int .i64 (-13)))
 |4=>(.const (.int .i64 (-22)))
 |5=>(.const (.int .i64 15))
 |6=>(.const (.int .i64 (-7)))
 |_=>(.const (.int .i64 (-18)))
def LG:Nat->Operand
 |0=>(.const (.int .u64 3))
 |1=>(.const (.int .i64 (-17)))
 |2=>(.const (.int .i64 (-19)))
 |3=>(.const (.int .u64 10))
 |4=>(.const (.int .u32 1116352408))
 |5=>(.const (.int .u32 1899447441))
 |6=>(.const (.int .u32 3049323471))
 |_=>(.const (.int .u32 3921009573))
def LH:Nat->Operand
 |0=>(.const (.int .u32 961987163))
 |1=>(.const (.int .u32 1508970993))
 |2=>(.const (.int .u32 2453635748))
 |3=>(.const (.int .u32 2870763221))
 |4=>(.const (.int .u32 3624381080))
 |5=>(.const (.int .u32 310598401))
 |6=>(.const (.int .u32 607225278))
 |_=>(.const (.int .u32 1426881987))
def LI:Nat->Operand
 |0=>(.const (.int .u32 1925078388))
 |1=>(.const (.int .u32 2162078206))
 |2=>(.const (.int .u32 2614888103))
 |3=>(.const (.int .u32 3248222580))
 |4=>(.const (.int .u32 3835390401))
 |5=>(.const (.int .u32 4022224774))
 |6=>(.const (.int .u32 264347078))
 |_=>(.const (.int .u32 604807628))
def LJ:Nat->Operand
 |0=>(.const (.int .u32 770255983))
 |1=>(.const (.int .u32 1249150122))
 |2=>(.const (.int .u32 1555081692))
 |3=>(.const (.int .u32 1996064986))
 |4=>(.const (.int .u32 2554220882))
 |5=>(.const (.int .u32 2821834349))
 |6=>(.const (.int .u32 2952996808))
 |_=>(.const (.int .u32 3210313671))
def LK:Nat->Operand
 |0=>(.const (.int .u32 3336571891))
 |1=>(.const (.int .u32 3584528711))
 |2=>(.const (.int .u32 113926993))
 |3=>(.const (.int .u32 338241895))
 |4=>(.const (.int .u32 666307205))
 |5=>(.const (.int .u32 773529912))
 |6=>(.const (.int .u32 1294757372))
 |_=>(.const (.int .u32 1396182291))
def LL:Nat->Operand
 |0=>(.const (.int .u32 1695183700))
 |1=>(.const (.int .u32 1986661051))
 |2=>(.const (.int .u32 2177026350))
 |3=>(.const (.int .u32 2456956037))
 |4=>(.const (.int .u32 2730485921))
 |5=>(.const (.int .u32 2820302411))
 |6=>(.const (.int .u32 3259730800))
 |_=>(.const (.int .u32 3345764771))
def LM:Nat->Operand
 |0=>(.const (.int .u32 3516065817))
 |1=>(.const (.int .u32 3600352804))
 |2=>(.const (.int .u32 4094571909))
 |3=>(.const (.int .u32 275423344))
 |4=>(.const (.int .u32 430227734))
 |5=>(.const (.int .u32 506948616))
 |6=>(.const (.int .u32 659060556))
 |_=>(.const (.int .u32 883997877))
def LN:Nat->Operand
 |0=>(.const (.int .u32 958139571))
 |1=>(.const (.int .u32 1322822218))
 |2=>(.const (.int .u32 1537002063))
 |3=>(.const (.int .u32 1747873779))
 |4=>(.const (.int .u32 1955562222))
 |5=>(.const (.int .u32 2024104815))
 |6=>(.const (.int .u32 2227730452))
 |_=>(.const (.int .u32 2361852424))
def LO:Nat->Operand
 |0=>(.const (.int .u32 2428436474))
 |1=>(.const (.int .u32 2756734187))
 |2=>(.const (.int .u32 3204031479))
 |3=>(.const (.int .u32 3329325298))
 |4=>(.const (.int .u32 0))
 |_=>(.const (.int .u64 31))
def LP(a:Nat):Operand:=
 match a/8%8 with
 |0=>Ls (a%8)
 |1=>Lt (a%8)
 |2=>Lu (a%8)
 |3=>Lv (a%8)
 |4=>Lw (a%8)
 |5=>Lx (a%8)
 |6=>Ly (a%8)
 |_=>Lz (a%8)
def LQ(a:Nat):Operand:=
 match a/8%8 with
 |0=>LA (a%8)
 |1=>LB (a%8)
 |2=>LC (a%8)
 |3=>LD (a%8)
 |4=>LF (a%8)
 |5=>LG (a%8)
 |6=>LH (a%8)
 |_=>LI (a%8)
def LR(a:Nat):Operand:=
 match a/8%8 with
 |0=>LJ (a%8)
 |1=>LK (a%8)
 |2=>LL (a%8)
 |3=>LM (a%8)
 |4=>LN (a%8)
 |_=>LO (a%8)
def Cn(a:Nat):Operand:=
 match a/64 with
 |0=>LP a
 |1=>LQ a
 |_=>LR a
def LS:Nat->cg
 |0=>(.qO ζ (.tmp 134) (.tmp 137))
 |1=>.kM
 |2=>(.kJ 1 8 [(.v (.int .i64 0))] (.tmp 29) (.tmp 29))
 |3=>(.eqv ζ [(2,(.int .u64))] (.tmp 36) (.tmp 37))
 |4=>(.kL (.tmp 6))
 |5=>(.nz (.tmp 7))
 |6=>(.my (.tmp 13) (.tmp 14))
 |_=>(.eqv κ [(2,(.int .u64))] (.tmp 6) (.tmp 7))
def LU:Nat->cg
 |0=>(.mD ζ [(32,(.int .u8))] (.J [] .nil) (.tmp 12) (.tmp 13))
 |1=>(.eqv κ [(32,(.int .u8))] (.tmp 6) (.tmp 8))
 |2=>(.my (.const (.string ⟨#[0,1,2,2,3,3,3,3,4,4,4,4,4,4,4,4,5,5,5,5,5,5,5,5,5,5,5,5,5,5,5,5,6,6,6,6,6,6,6,6,6,6,6,6,6,6,6,6,6,6,6,6,6,6,6,6,6,6,6,6,6,6,6,6,7,7,7,7,7,7,7,7,7,7,7,7,7,7,7,7,7,7,7,7,7,7,7,7,7,7,7,7,7,7,7,7,7,7,7,7,7,7,7,7,7,7,7,7,7,7,7,7,7,7,7,7,7,7,7,7,7,7,7,7,7,7,7,7,8,8,8,8,8,8,8,8,8,8,8,8,8,8,8,8,8,8,8,8,8,8,8,8,8,8,8,8,8,8,8,8,8,8,8,8,8,8,8,8,8,8,8,8,8,8,8,8,8,8,8,8,8,8,8,8,8,8,8,8,8,8,8,8,8,8,8,8,8,8,8,8,8,8,8,8,8,8,8,8,8,8,8,8,8,8,8,8,8,8,8,8,8,8,8,8,8,8,8,8,8,8,8,8,8,8,8,8,8,8,8,8,8,8,8,8,8,8,8,8,8,8,8,8,8,8,8,8]⟩)) (.tmp 21))
 |3=>(.mA 1 32 (.tmp 3) η η κ)
 |4=>(.nw 1 (.tmp 11) (.tmp 12))
 |5=>(.lG 70 (.tmp 1))
 |6=>(.kI 1 32 (.tmp 3) η η)
 |_=>(.mD ζ [(32,(.int .u8))] (.J [] .nil) (.tmp 14) (.tmp 15))
def LV:Nat->cg
 |0=>(.mE [(32,(.int .u8))] (.tmp 25) (.tmp 26) (.tmp 28))
 |1=>(.qL κ 1 8 (.tmp 50) (.tmp 51))
 |_=>(.pE (.tmp 9) (.tmp 10) (.const (.int .u64 0)))
def LW(a:Nat):cg:=
 match a/8 with
 |0=>LS (a%8)
 |1=>LU (a%8)
 |_=>LV (a%8)
def LX(a:Nat):Nat:=if 96<a then a - 97 else if 64<a then a - 39 else if 47<a then a+4 else a+26
def LY(a:List iJ)(b:Nat):iJ:=a.getD b []
variable{K:Type}
section
def dp(h:ϋ)(b:Nat->ϋ->K):K:=
 match h with
 |c::a=>if c<69 then b c a else if c=69 then(match a with|d::f::a=>b (d*71+f) a|_=>b 0 [])else(match a with|d::f::k::a=>b ((d*71+f)*71+k) a|_=>b 0 [])
 |[]=>b 0 []
def LZ(a b:Nat)(c:Operand->ϋ->K)(d:ϋ):K:=
 match a - b with
 |f=>c (.tmp f) d
def bN(f:Nat)(h:ϋ)(b:Operand->ϋ->K):K:=
 match h with
 |c::a=>if c<24 then b (.tmp c) a else if c<36 then LZ f (c - 24) b a else if c<70 then b (Cn (c - 36)) a else dp a λd a=>if d<1000 then b (.tmp d) a else b (Cn (d - 1000)) a
 |[]=>b Lr []
def js(b:ϋ)(a:Nat->ϋ->K):K:=
 match b with
 |c::d=>a c d
 |[]=>a 0 []
def xA(a:ϋ)(b:Bool->ϋ->K):K:=js a λc a=>if c=0 then b κ a else b ζ a
def uw(b:List iJ)(a:ϋ)(c:iJ->ϋ->K):K:=js a λd a=>c (LY b d) a
def pM{c:Type}(d:ϋ->(c->ϋ->K)->K):Nat->ϋ->(List c->ϋ->K)->K
 |0,a,b=>b [] a
 |f+1,a,b=>d a λh a=>pM d f a λk a=>b (h::k) a
def r0(b:Nat)(a:ϋ)(c:List Operand->ϋ->K):K:=js a λd a=>pM (bN b) d a c
def sN(c:Nat)(a:ϋ)(b:Option Operand->ϋ->K):K:=js a λd a=>if d=0 then b η a else bN c a λf a=>b (γ f) a
def M0(b:Nat)(a:ϋ)(c:Nat×Nat×Operand->ϋ->K):K:=dp a λd a=>dp a λf a=>bN b a λh a=>c (d,f,h) a
def M1(b:Nat)(a:ϋ)(c:List (Nat×Nat×Operand)->ϋ->K):K:=js a λd a=>pM (M0 b) d a c
def M3(a:ϋ)(b:UnOp->ϋ->K):K:=js a λc a=>b (match c with|0=>.neg|1=>.xor|2=>.not|_=>.plus) a
def Co(a:ϋ)(b:IntKind->ϋ->K):K:=js a λc a=>b (match c with|0=>.i8|1=>.i16|2=>.i32|3=>.i64|4=>.u8|5=>.u16|6=>.u32|_=>.u64) a
def M4(a:ϋ)(b:dn->ϋ->K):K:=dp a λc a=>js a λd a=>pM dp d a λf a=>js a λh a=>pM dp h a λk a=>b ⟨c,f,k⟩ a
def M5(a:ϋ)(b:Nat×Option (Bool×Nat)->ϋ->K):K:=dp a λc a=>js a λd a=>if d=0 then b (c,η) a else dp a λf a=>b (c,γ (if d=1 then κ else ζ,f)) a
end
def M6(h:List iJ)(c:Nat):Nat->ϋ->cg×ϋ
 |0=>λa=>bN c a λb a=>(.dP b,a)
 |1=>λa=>bN c a λb a=>(.load κ 1 b,a)
 |2=>λa=>dp a λb a=>bN c a λd a=>(.lH b d,a)
 |3=>λa=>dp a λb a=>r0 c a λd a=>(.gv b d,a)
 |4=>λa=>dp a λb a=>bN c a λd a=>(.load ζ b d,a)
 |5=>λa=>dp a λb a=>bN c a λd a=>bN c a λf a=>(.store b d f,a)
 |6=>λa=>bN c a λb a=>(.len b,a)
 |_=>λa=>bN c a λb a=>dp a λd a=>(.ext b d,a)
def M7(h:List iJ)(c:Nat):Nat->ϋ->cg×ϋ
 |0=>λa=>dp a λb a=>bN c a λd a=>bN c a λf a=>(.dZ b d f,a)
 |1=>λa=>bN c a λb a=>(.qJ b,a)
 |2=>λa=>bN c a λb a=>bN c a λd a=>(.bin .add b d,a)
 |3=>λa=>bN c a λb a=>bN c a λd a=>bN c a λf a=>(.pick b d f,a)
 |4=>λa=>dp a λb a=>bN c a λd a=>(.box b d,a)
 |5=>λa=>bN c a λb a=>bN c a λd a=>(.bin .eql b d,a)
 |6=>λa=>bN c a λb a=>bN c a λd a=>(.bin .lss b d,a)
 |_=>λa=>dp a λb a=>uw h a λd a=>(.alloc b d,a)
def M8(k:List iJ)(d:Nat):Nat->ϋ->cg×ϋ
 |0=>λa=>uw k a λb a=>M1 d a λc a=>(.mz b c,a)
 |1=>λa=>M3 a λb a=>bN d a λc a=>(.un b c,a)
 |2=>λa=>bN d a λb a=>bN d a λc a=>(.bin .neq b c,a)
 |3=>λa=>dp a λb a=>bN d a λc a=>sN d a λf a=>sN d a λh a=>sN d a λo a=>(.mF b c f h o,a)
 |4=>λa=>dp a λb a=>r0 d a λc a=>(.kH b c,a)
 |5=>λa=>bN d a λb a=>bN d a λc a=>(.bin .gtr b c,a)
 |6=>λa=>Co a λb a=>bN d a λc a=>(.jk b c,a)
 |_=>λa=>dp a λb a=>dp a λc a=>bN d a λf a=>bN d a λh a=>(.app b c f h,a)
def M9(k:List iJ)(b:Nat):Nat->ϋ->cg×ϋ
 |0=>λa=>dp a λc a=>dp a λd a=>bN b a λf a=>bN b a λh a=>(.qK c d f h,a)
 |1=>λa=>bN b a λc a=>bN b a λd a=>(.bin .geq c d,a)
 |2=>λa=>bN b a λc a=>bN b a λd a=>(.bin .sub c d,a)
 |3=>λa=>dp a λc a=>dp a λd a=>bN b a λf a=>bN b a λh a=>(.mC c d f h,a)
 |4=>λa=>bN b a λc a=>bN b a λd a=>(.bin .leq c d,a)
 |5=>λa=>dp a λc a=>bN b a λd a=>sN b a λf a=>sN b a λh a=>(.pC c d f h,a)
 |6=>λa=>dp a λc a=>bN b a λd a=>bN b a λf a=>(.nC c d f,a)
 |_=>λa=>dp a λc a=>r0 b a λd a=>(.kK c d,a)
def Ma(k:List iJ)(b:Nat):Nat->ϋ->cg×ϋ
 |0=>λa=>bN b a λc a=>bN b a λd a=>(.bin .mul c d,a)
 |1=>λa=>dp a λc a=>r0 b a λd a=>r0 b a λf a=>(.bG c d f,a)
 |2=>λa=>bN b a λc a=>bN b a λd a=>(.bin .shr c d,a)
 |3=>λa=>bN b a λc a=>r0 b a λd a=>(.jl c d,a)
 |4=>λa=>bN b a λc a=>bN b a λd a=>(.bin .xor c d,a)
 |5=>λa=>bN b a λc a=>bN b a λd a=>(.bin .rem c d,a)
 |6=>λa=>bN b a λc a=>bN b a λd a=>(.bin .quo c d,a)
 |_=>λa=>xA a λc a=>Co a λd a=>bN b a λf a=>bN b a λh a=>(.mB c d f h,a)
def Mb(h:List iJ)(c:Nat):Nat->ϋ->cg×ϋ
 |0=>λa=>bN c a λb a=>bN c a λd a=>(.bin .and b d,a)
 |1=>λa=>xA a λb a=>bN c a λd a=>bN c a λf a=>(.qN b d f,a)
 |2=>λa=>xA a λb a=>bN c a λd a=>(.nx b d,a)
 |3=>λa=>bN c a λb a=>(.qM b,a)
 |4=>λa=>bN c a λb a=>(.nA b,a)
 |5=>λa=>bN c a λb a=>bN c a λd a=>(.bin .shl b d,a)
 |6=>λa=>bN c a λb a=>bN c a λd a=>(.bin .or b d,a)
 |_=>λa=>dp a λb a=>bN c a λd a=>(.qQ b d,a)
def Mc(h:List iJ)(c:Nat):Nat->ϋ->cg×ϋ
 |0=>λa=>bN c a λb a=>(.ny b,a)
 |1=>λa=>dp a λb a=>dp a λd a=>uw h a λf a=>bN c a λk a=>bN c a λo a=>(.nD b d f k o,a)
 |2=>λa=>bN c a λb a=>bN c a λd a=>(.nE b d,a)
 |3=>λa=>dp a λb a=>uw h a λd a=>bN c a λf a=>(.nB b d f,a)
 |4=>λa=>bN c a λb a=>(.qP b,a)
 |_=>λa=>dp a λp a=>(LW p,a)
def Cp(b:List iJ)(c:Nat)(a:Nat):ϋ->cg×ϋ:=
 match a/8 with
 |0=>M6 b c (a%8)
 |1=>M7 b c (a%8)
 |2=>M8 b c (a%8)
 |3=>M9 b c (a%8)
 |4=>Ma b c (a%8)
 |5=>Mb b c (a%8)
 |_=>Mc b c (a%8)
def oK(c:List iJ):Nat->Nat->Option (Nat×Bool)->ϋ->List c6×Nat×ϋ
 |0,b,_,a=>([],b,a)
 |o+1,b,d,a=>js a λf a=>
  if f<54 then match Cp c b f a with|(p,a)=>match oK c o (b+1) d a with|(h,k,a)=>(⟨γ (b+1),p,d⟩::h,k,a)
  else if f=54 then dp a λr a=>js a λf a=>match Cp c b f a with|(p,a)=>match r with
   |0=>match oK c o b d a with|(h,k,a)=>(⟨η,p,d⟩::h,k,a)
   |r+1=>match oK c o r d a with|(h,k,a)=>(⟨γ r,p,d⟩::h,k,a)
  else if f=55 then([],b,a)
  else dp a λx a=>oK c o b (if x=0 then η else γ (x/2 - 1,if x%2=1 then ζ else κ)) a
def oL(c:List iJ):Nat->Nat->ϋ->dv×Nat×ϋ
 |0,b,a=>(.skip,b,a)
 |d+1,b,a=>js a λp a=>match p with
  |0=>(.skip,b,a)
  |1=>match oK c d b η a with|(f,b,a)=>(.plain f,b,a)
  |2=>match oK c d b η a with|(f,b,a)=>(.draw f ((ψ (β f)).map bc),b,a)
  |3=>match oL c d b a with|(h,b,a)=>match oL c d b a with|(k,b,a)=>(.seq h k,b,a)
  |4=>bN b a λr a=>match oL c d b a with|(h,b,a)=>match oL c d b a with|(k,b,a)=>(.cond r h k,b,a)
  |5=>dp a λo a=>match oL c d b a with|(h,b,a)=>(.block o h,b,a)
  |6=>match oL c d b a with|(h,b,a)=>(.loop h,b,a)
  |7=>dp a λo a=>(.exit o,b,a)
  |8=>(.ret,b,a)
  |9=>(.refuse,b,a)
  |10=>match oK c d b η a with|(f,b,a)=>dp a λx a=>pM M4 x a λy a=>(.draw f y,b,a)
  |_=>match oK c d b η a with|(f,b,a)=>match oL c d b a with|(k,b,a)=>(.seq (.plain f) k,b,a)
def Md(f:List iJ)(b:List Char):au:=
 dp (b.map λc=>LX c.toNat) λh a=>dp a λd a=>js a λb a=>pM M5 b a λk a=>match oL f 999 d a with|(c,_,_)=>⟨h,d,c,k⟩
abbrev ax(a b:Nat)(c:au):Prop:=cu δ a b=γ c
variable{e i t I b3 e5:Nat}
def aA{a:au}(b:cu δ e i=γ a:=by kernel_rfl):ax e i a:=b
abbrev aB(j:String){a:List Char}{b:ύ->ύ->ύ->ύ->ύ->ύ->ύ->ύ->ύ->ύ->ύ->ύ->ύ->ύ->ύ->ύ->ύ->ύ->ύ->ύ->ύ->ύ->ύ->ύ->ύ->au}(_:String.ofList a=j:=by rfl)(_:∀c d f h k o p r x y z C D E F G L P S T V W e g i:ύ,Md [c,d,f,h,k,o,p,r,x,y,z,C,D,E,F,G,L,P,S,T,V,W,e,g,i] a=b c d f h k o p r x y z C D E F G L P S T V W e g i:=by intros;conv=>lhs;cbv):au:=
 b (((θ 32 (.v (.int .u8 0))):ύ)++([(.J [] .nil),(.J [] .nil)]:ύ)++([(.v (.int .i64 0)),(.v (.int .i64 0))]:ύ)++([(.J [] .nil)]:ύ)) [(.v (.int .u64 0)),(.v (.int .u64 0))] [(.J [] .nil),(.J [] .nil)] [(.v (.int .u8 0)),(.J [] .nil),(.J [] .nil)] [(.J [] .nil),(.v (.int .i64 0))] (([(.v (.string ⟨#[]⟩))]:ύ)++([(.J [] .nil)]:ύ)++((θ 32 (.v (.int .u8 0))):ύ)++([(.J [] .nil),(.J [] .nil)]:ύ)++([(.v (.int .i64 0)),(.v (.int .i64 0))]:ύ)++([(.J [] .nil)]:ύ)++((θ 32 (.v (.int .u8 0))):ύ)++([(.J [] .nil),(.J [] .nil)]:ύ)++([(.v (.int .i64 0)),(.v (.int .i64 0))]:ύ)++([(.J [] .nil)]:ύ)) [(.J [] .nil),(.v (.bool κ))] [(.v (.bool κ)),(.J [] .nil),(.J [] .nil)] [(.v (.pointer η)),(.v (.int .i64 0))] (θ 32 (.v (.int .u8 0))) [(.v (.int .u8 0)),(.v (.string ⟨#[]⟩)),(.J [] .nil),(.J [] .nil)] (θ 8 (.v (.int .u32 0))) (θ 64 (.v (.int .u32 0))) [(.J [] .nil)] [(.J [] .nil),(.v (.bool κ)),(.v (.pointer η)),(.v (.pointer η))] (θ 5 (.v .nilFunc)) [(.v (.string ⟨#[]⟩)),(.J [] .nil),(.J [] .nil),(.v (.pointer η)),(.v (.pointer η))] (((θ 32 (.v (.int .u8 0))):ύ)++([(.J [] .nil),(.J [] .nil)]:ύ)++([(.v (.int .i64 0)),(.v (.int .i64 0))]:ύ)++([(.J [] .nil)]:ύ)++([(.v (.int .u64 0)),(.v (.int .u64 0))]:ύ)++([(.v (.int .i64 0)),(.v (.int .i64 0))]:ύ)) [(.J [] .nil),(.J [] .nil),(.v (.int .u8 0)),(.v (.int .i64 0)),(.J [] .nil),(.v (.int .i64 0)),(.v (.bool κ))] [(.v (.pointer η)),(.J [] .nil)] [(.v (.int .u8 0)),(.v (.int .i64 0)),(.J [] .nil)] [(.v (.pointer η)),(.J [] .nil),(.J [] .nil),(.v (.int .u8 0)),(.v (.int .i64 0)),(.J [] .nil),(.v (.int .i64 0)),(.v (.bool κ)),(.v (.int .i64 0)),(.J [] .nil),(.v (.int .i64 0)),(.v (.int .i64 0)),(.v (.int .i64 0)),(.J [] .nil)] [(.v (.map η)),(.J [] .nil),(.J [] .nil),(.v (.bool κ))] [(.v (.int .i64 0))] (((θ 8 (.v (.int .u32 0))):ύ)++([(.J [] .nil)]:ύ)++([(.v (.int .u64 0))]:ύ))
def Me:au:=aB "+c1ebial2hmEc2jaL3dl2xdearcw3exl2jaL3iadl2zaadfbyay42ccgccybygyvy,+oP4alDOy3eyl2jaO3ial2Jaadgby2Iay2LhyahBb2kaza,L3dl2NajPayP3eyl2jaO3ial2QajabehgdheAzyO2Pay2UhyahDb2mpNe2afcl,Ta,U3l2XajabehgdheAzyL2Way21hyahDb2opNe2afcn,0a,13l24ajabaddidAzy23ay28hyahDbhEc2qaAa,8a,93l2;akabdjczy2tay3dl2>asoyK3eylamnyUay4+b,aonyU4alAyLay4+charnyU4alAyLay4+cpaqrcy4alAyLay4+cxapgynyK4alByL2jay3ial2uaN3dlaK3fagdl2+bqauakjycaybyasibzybyjyccybygyoJy3eyahadfbl2+bFakjycaybyasibzybyjyccybyauibzybyibyKbyadnzy3eybakjycaybyasibzybyjyccybyauibzyby2uay3ab2+bDaukyM2vay3dl2+b9arsyKay4+d3aqatgyvyK1a4alDOyay4+d+apatdkczyrcy4alCOy3eyl2jaL3iaddc2+cfehgakjycaybyasibzybyjycbybygykyMdlc,+ceyrcy3eylamnyMay4+eTaonyM4alAyL2jay3iadk2+cAakjycaybyasibzybyjyccybyehgdmczy2wpNe2afcv,+cK3oaaabaacaadaaeaafaagaahaaiaajaakaalbmamaanaal2+cMamnyKay4+fkaonyK4alAyLay4+fseclecvdnczy4alByLay4+fCecnecvdnczy4alByL2jay3i"
def Mf:ax 0 3 Me:=aA
def xB:au:=aB "+bnabaal2baL3l2ndoa2cam3dl2oabPanP3eol2baL3ial2qabubb,+o0qkdabYbb1cbqdpcpr2das3l2uabubcM>qkdabXbb1dbudpctv2eaw3l2yabubcM4qkdabXbb1dbydpcxy2fay3l2CabubdTURqkdabXbb1dbydpcAy2gay3l2GabubcM4qkdab?bb1dbydpcAy2hay3l2Labdqcy12Kay2NhyahBb2iaza,N3l2PabqkcabVbb1dpczy2kay3l2Tabdqcy12Say2VhyahBb2laza,V3l2XacnyKay4+bGadnyK4alAyLay4+bOaenyQ4alAyLay4+bWafny44alAyLay4+b4agny24alAyLay4+b<ainyK4alAyLay4+cbahubcM>ubbydrcAy4alCyLay4+cnajnyK4alAyLay4+cvalnyU4alAyL2bay3i"
def Mg:ax 0 4 xB:=aA
def Mh:au:=aB "7bbcalaL3dl2gaagfvg,+o13ehl2daO3iadlaK3fagdl2jadaagjoik3elahadfbdl2paaadieopcbqbrRsvt,+oQau4Saaadiewxccybygyvy,+oR4alvOyay4:aaadiezycdybygyvy,+oP4alFOy3eyl2daO3ial2faK3fcgdl2OaeaaadiezyccybygyoEy3eyahcdfdl2YaaadiezyccybyaeibzybyRyvy,+oQ3eyl2daO3iab2WaekyM2fay3b2nadkmM2ean3l2daL3i"
def Mi:ax 0 5 Mh:=aA
def Mj:au:=aB "KbccadalaPaP3l2idoaqnam2i2fahaj3dlaK3fagdl2lagaaglokman4Fagop,+o24aloqL3erahadfbl2vaeaaagievweexdpcuy3bafaaagiezyeeydscCy3b2tagksM2hat3dl2Haedtby3eyl2daPaP3ial2Jaeaf2daza,J3i"
def Mk:ax 0 6 Mj:=aA
def Ml:au:=aB "Weciccjal2hmEc2jpNeaK3l2saajrcbsbtabducuv2raw2yhqahqb2lp+bdf2af+bfkxa,y3dl2Aalrcy3eylqea2afciy2kaU3ial2DcNkeLy2np+bba2afLm,D3dl2Fad3eybcckeLy2afLmy3adk2JaajycaybyeLmehge+bfkdwbydveCBAy2Iay2ShyahIbhJc2opNe2afcn,Ra,Sa,T3raaabaacaadaaeaafaagaahbnddefibnajaakaalaamaanaaoaapaaqaal2Vecnap2afciz2kay3i"
def Cq:ax 0 7 Ml:=aA
def Mm:au:=aB "=ddgahaial2haNaLaK3l2raajqcbrbsabductu2qav2xhpahpb2kp+bdf2af+bfjwax3dl2zakrcy3eyl2haNaLaU3ial2Be+bfjdwbydxby2mpAc2afcl,C3dk2EcalbycblbyacacibCK2afbyAibBK2afbyA3kaaabaacaadaaeaafaagaahabdiaajaadk2NaajycaybyccjeLyeclqscacyfbMe+bfjdwbydveECAy2May2Yhyah,Lbh,Lc2npNe2afcm,Xa,Ya,Z3taaabaacaadaaeaafaagaahaaiaajbpddfgkbpalaamaanaaoaapaaqaaraasaadl21aosyKay4+bNcambygynyK4alCOy3eylao2haNaLa,83ial2:cambyibyKby2hayaOaK3i"
def Mn:ax 0 8 Mm:=aA
def Mo:au:=aB "Ccbeal2faK3dlaK3fagdlafaajhcaibjgkogl3emahadfbl2qaajpcaqbrafibstbujvcawbxabnzy3eylaf2fay3iab2oafknM2gao3l2faW3i"
def Mp:ax 0 9 Mo:=aA
def Mq:au:=aB "Acbeal2faL3dl2haaggabgishj3ekl2faL3iadlaK3fagdl2mafaagmoln3eoahadfbdc2saaafibrsbtabafibvwbxsuy3eyl2faL3iab2qafkpM2gaq3l2faO3i"
def Mr:ax 0 10 Mq:=aA
def Ms:au:=aB "Wcbeal2dmEa2faL3dlcacecfabdycghrci3ejl2faL3iadl2lcgcbk3ellcfcbmnnKao4HccccaqbrnsZ4alptLau4TccccbwbxnyK4alvyLay45cccccybygynyK4alDyL2fay3ial2Jcccedyabdzczyay4+bicfcbyzyW4alByLay4+bscfcbyCy,+oS4alByL2fay3i"
def Mt:ax 0 11 Ms:=aA
def Mu:au:=aB "1cbecclmEbpNe3laN3dlaK3fagdl2jagaagjoik3elahadfbdc2pcadecoaaagibqrbsdAcpt3eubafaaagibwxbyubbyxbyvy2gay3ab2nagkmM2han3dl2Dcgdby3eylafgyqebbby2afcey3ialccdedyafdBczy2iay3dl2McfdbyzyKay4+bmcfdbyahgyoAy4alDyL3eybahcfdbyDbAaby2iay3al20ahqebaby2afcey3i"
def Mv:ax 0 12 Mu:=aA
def Mw:au:=aB "rcbeal2dmNamNbaL3lcbcbfcbdbhngiaj4xcacblcadbndrcmo4alkpL2faq3i"
def Mx:ax 0 13 Mw:=aA
def My:au:=aB "eabaal2baP3ldCaqtbabbm+bjc2bad3i"
def Mz:ax 0 14 My:=aA
def MA:au:=aB "rcbealm;baK3dl2heeddDbgrch3eil2faM3ial2kqpebb,+o3cb,+o4db,+o5eb,+o62gp+bvp2afffj3dc2lcadbkybfflbmaaeedJncop2faq3i"
def MC:ax 0 15 MA:=aA
def MD:au:=aB "Ecceafal2faNaK3l2kaajjcbkblabducmn2jao2qhiahib2hp+bdf2af+bfgpaq3dl2sahrcr3esl2faNaU3iadk2uaajtcaubvccgeLxe+bfgdwbydIdwAyhyahzb2faza,D3naaabaacaadaaeaafaagaahacdfiaajaakaalaamaai"
def ME:ax 0 16 MD:=aA
def MF:au:=aB "Bcbeal2faL3dl2haaggabgishj3ekl2faL3iadlaK3fagdl2mafaagmoln3eoahadfbdc2saaafibrsbtabafibvwbxdkcuyrcy3eyl2faL3iab2qafkpM2gaq3l2faO3i"
def MG:ax 0 17 MF:=aA
def MH:au:=aB "+edcbealm;baK3dl2teeddJbsrct3eul2faM3ial2waacbdbwdjcvx2gay3dl2AcadbynyY3eydlafzyK3eyl2faR3iadl2Faajycaybygyvy;3eyl2fa83ial2haN3laL3dk2LcbdbyubaccdbyxbqAyqqcabCbbymYy2jay3jaaabaadaaeaacaafabbgaahaaiaadlaK3fagdl2TajaajycaybygyoDy3eyahadfbddc22ahrcyay4+bQaijycaybyaajycaybyajibzybyjycaybyoIy4al,3yL3eylagaiubbyxbiAy2hay3baO3ab2+bgagaajycaybyajibzybyubbyxbiGy2hay3b20ajkyM2kay3dl2+bqahrcy3eybagaiubbyxbiAy2hay3al2+bwaaagjzcay2afbyA3l2faK3iadl2+bAafoyK3eyl2faU3iadl2+bCcadbynyV3eyl2laN3dlaK3fcgdl2+bFalaajycaybygyoDy3eyahcdfdl2+bOalafszy3eybakaajycaybyalibzybyubbyxbiGy2lay3ab2+bMalkyM2may3l2+b1aaakjzcay2afbyA3l2faK3ial2+b5aajycaybyafibzyby2nay3ddc2+b<cddbygyamjycbybygykyMsEy3eyl2fa43ial2oaN3laL3dlaK3fegdl2+cdapamjyccybygyoDy3eyahedffddc2+cmamjyccybyapibzybyibyKbycddbyibyKbynCy3eydlcadbynyX3eyl2faQ3iadc2+cDamjyccybyapibzybycddbydkcAy3eyl2paO3hfaab2+cNanamjyccybyapibzybyubbyxbyGy2oay3b2+ckapkyM2qay3dc2+cXamjycaybyamjycbybyqqcabCbbymYy2ray3dl2+c7cadbyny?3eydlaorcy3eyl2fa23ial2+c<aqanjzccy2afbyA3dc2+c+aqamjycdybycddbydKcAy2+c*ay2+dghyahHbjHcdy2afbyB3c2+dlaqamjyceybycddbydLcAy2+dkay2+dthyahHbjHcey2afbyB3laqquaanubacddbyxbiAyubbyxbyDydBcFyjHccy2afbyA3dc2+dKaqamjycdybycddbydMdAyK2+dJay2+dShyahHbjHcdy2afbyB3c2+dXaqamjyceybycddbydNcAy2+dWay2+d5hyahHbjHcey2afbyB3lFbaaajycaybyBbiCy2say3l2+d?arafaqibAz2afbyz3laaarjzcay2afbyA3l2faK3i"
def MI:ax 0 18 MH:=aA
def MJ:au:=aB "obbcalaL3l2iaadObhdPbi2haj2lhgahgbhgc2eakalam3l2oaf2dan3i"
def MK:ax 0 19 MJ:=aA
def ML:au:=aB "vccec+bffal2fp+bdfaL3dl2jaagiaK3faglokj3delahadfbli+bfike+bfm2ip+bdf2af+bfhn3l2pcahboabnpq3erle+bfh2af+bfes2gaO3iab2ukkM2lat3l2vqfa2af+bfeu2gaL3i"
def MM:ax 0 20 ML:=aA
def MN:au:=aB "+bQediccjakalm+bbbmEc2jpNeaKaK3dl2uehgaddQcturcv3ewlqea2afcix2kaKaM3ial2zaaehgadqvdabAbhzibym+bIy2may3dl2EaleLfdRczy3fagdlaljycnybygyvyK3eyahafblaljycnybydScy,+o73laljycnybyiPyKcayeLy2np+bba2afLm,X3l2ZalaljycnybytPybMaajDcny2afbyA3dlaleLmdUczy3eyhbal2;aaeLmaddVdAzy2:ay2?hyahDb2op+bVd2afdn,>a,?3dl2+a+aosyK3eylqea2afciy2kaKa03ial2+bbaljyclybykyMjCcly2afbyA3dlcbnbygyaK3fcgloyz3deyahcdfdlicBzecy2rp+bZg2afcq,+bn3b2+bpalecqdWczy3bkEM2+blay3l2+btccnbygyaK3fegloyz3deyahedffliLBzeLy2tp+bba2afLs,+by3b2+bAaleLsdRczy3bkEM2+bway3dk2+bEaljycjybyaljyckybyqecabCbbyaljyclyby2afciC2kayaK3qaaabaacaadaaeaafaagaahaaiaajaakaalaamaanabmoaapaai"
def xC:ax 6 21 MN:=aA
def MO:au:=aB "hbbcal2cm+bdaaK3lcbbbdgekfM2dag3i"
def MP:ax 0 22 MO:=aA
def MQ:au:=aB "rbbccclpAc3dlaaodMae4maavgQ4alfOh3eilqca2afccj3ialubb,+o8aadXcklubb,+o9aadXcnoqccabmbbp2afccq3i"
def MR:ax 0 23 MQ:=aA
def MS:au:=aB "Qcbeal2dmAa2faL3dl2habogMah4sabvjQ4aliOkal4Acacbngoabspq4almOras4Ocbcbugvabswx4altOy3eyl2faL3iadlaK3fagdl2Bafabozy3eyahadfbdc2GcacbyafibzybycbcbyafibzybyvDy3eyl2faL3iab2EafkyM2gay3l2faO3i"
def MT:ax 0 24 MS:=aA
def MU:au:=aB "+bgcbeal2dmCa2faL3dlabofMag4qabviQ4alhOj3ekl2faL3iadl2mcacblnmZ3enlcbcbonpKaq4LcccbsgtnuK4alrvL2faw3iadl2ycacbxnyYay42cacbynyV4alBOy3eylcbcbyvyKay4+a,cbcbynyKay4+bicacbynyV4+a,lByL4alGOyay4+bucbcbyabAyMCAy4alDyLay4+bIcccbygynyK4alCyL2fay3ial26cacbynyXay4+b0cbcbynyK4alByLay4+b:abvyM4alAyLay4+b,cccbygyabAyMnAy4alEyL2fay3i"
def MV:ax 0 25 MU:=aA
def MW:au:=aB "Ncbeal2dmAa2faL3dl2heccabghdycgircj3ekl2faL3iadlaK3fagdl2mafabgmoln3eoahadfbdc2sabafibrsbtcacbvafibwxbyouyay44abafibzybycbcbyafibzybyvDy4alIOy3eyl2faL3iab2qafkpM2gaq3l2faO3i"
def MX:ax 0 26 MW:=aA
def MY:au:=aB "+blcbeal2dmCa2faN3laN3dlaK3fagdl2lagabglokm3enahadfbdc2redcabagibrsbtgudzcqvrcwax4YabagibzybygyabibyKbygysCy4alIOy3eyl2faN3iab2pagkoM2hap3dlaK3fcgdl2LahabgyoAy3eyahcdfdl2jaN3laK3dfegddc2RajafgyoAyay4+byedcabahibzybyafajibzybydYdGCyrcy4alJyL3eyahefflaiafajibzybyubbyxbyDy2jay3b2?ajkyM2kay3l2+a+aiabahibzybyubbyxbyDy2jay3l2+bfaiafajDbzbyaxbyBy2jay3b2+bkai2gay3b2PahkyM2iay3l2+blaf2fay3i"
def Cr:ax 0 27 MY:=aA
def MZ:au:=aB "eabaal2baP3l1bqwbabbm+b5c2bad3i"
def N0:ax 0 28 MZ:=aA
def N1:au:=aB "Zbbcal2cm;aaL3dlcbbbddZbercf3egl2daL3iadl2icabbh3fal2lniY2kak3ejl2mccbbld0bman4FcdbbpgqnrK4alosL2dat3il2wniV2vav3eul2xccbbwgxnyKay43cdbbygynyK4alCyL2day3idl2IniX2Hay3eyab2Jni?2Hay3eyl2KccbbygynyKay4+bkcdbbygyzyT4alCyLay4+bwcdbbygyCyQ4alCyL2day3ial2daL3i"
def N2:ax 0 29 N1:=aA
def N3:au:=aB "Ccbealm;baK3dk2jaajicbjbkcbdbmccdbod2bpqfcabnbbqd1clr2ias2uhhahhb2gatau3qaaabaacaadaaeaafaagaahaaiacdfjaakaalaamaanaaoaapaadl2wagnvK3ewbaaafjxcby2afbyA3alag2fay3i"
def N4:ax 0 30 N3:=aA
def N5:au:=aB "ycbealm;baK3dc2jaajicbjbkcbdbmd3cln2iao2qhhahhb2gapaq3dl2sagnrK3esbaaafjtcbv2afbwu3alag2fax3i"
def N6:ax 0 31 N5:=aA
def N7:au:=aB "Pcbealm;baK3l2laaeedd4ckl2kam2ohjahjb2gp+bdf2af+bffnao3dl2qagspK3eqlag2far3iadc2uaacbdbucddbwibxKbydidtvy2tay2Chsahsbhsc2iaAa,C2ha,D3dfal2GagsyK2Fay3eyl2Iag2fay3il2Kai2Jay3eyl2faQ3ial2Laae+bffcddbyd5fBAy,+o:,+o;2fay3i"
def N8:ax 0 32 N7:=aA
def N9:au:=aB "vcbealm;baK3l2jaaeedd4cij2iak2mhhahhb2gp+bdf2af+bfflam3dl2oagsnK3eolag2fap3ial2raae+bffcddbsd5fqrt,+o<,+o=2fau3i"
def Na:ax 0 33 N9:=aA
def Nb:au:=aB "Bdcgahalm+bbb2haNaK3dl2lacd:ckNrcl3eml2haNaM3ial2paaacqicabobbpeLed;cqr2oas2uhnahnb2jatau3dl2wajsvK3ewlaj2haNax3ial2zaid<cy,+o>3lai2hayaK3i"
def Nc:ax 6 34 Nb:=aA
def Nd:au:=aB "+bGbbcal2cm;aaL3dl2gcbbbfd?bgrch3eil2daL3iadl2kcabbjnkY3eldl2eaK3fagdl2nadccbbngoomp3eqahadfbdl2uccbbtadibuvbwd?bxrcyay42ccbbyadibzybyny,+oT4alEOy3eyl2daL3ial2faK3fcgdl2Jaeadozy3eyahcdfddc2OccbbyaeibzybyccbbyadibzybynDy3eyl2daL3iab2MaekyM2fay3b2sadkrM2eas3l2ZccbbygyvyKay4+bOccbbygyoyQ4alCyLay4+b0cdbbygynyK4alCyL2day3iadl2?cabbynyV3eylccbbygycdbbygykBynyK2day3ial2+bhcabbynyXay4+cucabbyny?4alBOyay4+cFccbbygynyK4alCyLay4+cRcdbbygyvyM4alCyLay4+c3cdbbygyoy24alCyL2day3i"
def Nf:ax 1 35 Nd:=aA
def Ng:au:=aB "Dcceafal2faPaL3l2kaaabd*djkK2jal2nhiahib2haman3dl2pahao4Hagd+a+bqgrGTsagd+a,buotv4alpwL3exbagd+a+byd+bacyK2hay3al2Cagah2faza,C3i"
def Nh:ax 0 36 Ng:=aA
def Ni:au:=aB "Pcceafal2faPaL3dl2iaad+bcbhabd+bbcijrck3ellaa2famaL3ial2oaaabd+bdcno2hap3dl2ragjqcbrbsgtnuM3evlagjwcbxbyibyKby2fayaO3iaddc2DagjycbybygyagjycaybygykDynyK3eyl2faPaO3ial2Pag2fayaO3i"
def Nj:ax 0 37 Ni:=aA
def Nk:au:=aB "+bvdcgahal2haPaL3dl2laaPakP3ellabqocabmbbOm+cmn2haoaO3iadc2qaajpcaqbraajtcbubvaajxccybyaajycdybyqoeabsbbwcbCdbym+cmy2jay3dl2Iaajycaybyabdkczy3eylaijycby2afbyO3dkaiacd+beczyaajycbybyrcy2haDa,X3kaaabaadaaeaafaagaahaacabgiaajaaial2kaL3ddc2ZabaajycaybyacabgyLAyd+bfdGCy3eyb2:aiaajyccybyabackyMdMdBAy29ay2+bahyahIbjIccy2afbyB2kaA3b2+bfaiaajycdybyabackyMdMdBAy2+beay2+bohyahIbjIcdy2afbyB2kaA3l2+bsaiacd+beczyaj2haza,+bu3i"
def Cs:ax 0 38 Nk:=aA
def Nl:au:=aB "vcceafal2faPaL3dlaaPagP3ehlabubbiqcbabjm+ckk2falaO3iadl2naad+bcbmabd+bbcno3eplaa2faqaL3ial2saaabd+bhcrsd+bgbt2fauaO3i"
def Ct:ax 0 39 Nl:=aA
def Nn:au:=aB "hbbcalaP3laajdcaebf2dag3i"
def No:ax 0 40 Nn:=aA
def Np:au:=aB "tbdcadaealaNaNaL3dkaajfcbgbhd+bibiaajkcclbmd+bibnaajpcdqbr2dajaoas3raaabaacaadaafaagaahaaiaakaalaamaanaaeacinjabnoaapaaqaai"
def Nq:ax 0 41 Np:=aA
def Nr:au:=aB "6cbeal2dmEa2faL3dfal2habogMah4sabvjQ4aliOkal4Acacecnabd+bjcoprcq4almOr2gas3efl2faL3il2vcgcbu2uav3etl2xcfcbwnxKay41ccccaybynyZ4alCyLay4=ccccbybynyK4alCyLay4+bgcccccybygynyK4alDyL2fay3ial2Tcccedyabd+bkczyay4+bCcfcbyzyW4alByLay4+bMcfcbyCy,+oS4alByL2fay3i"
def Cu:ax 6 42 Nr:=aA
def Ns:au:=aB "+bCcalm+bbb3ddc2iaajhcbicgjbkal4BcIdbnvoK4almpLaq4LaajscbtcauecvcGdecxd+blcwy4alryL3eycaajyckybycIdbykAyjEcky2afbyA3addcaajycbyehyeLdd+bmczyrcy3eyialaajycmybykyMjCcmy2afbyA3dceLdaajycmybyqrcaLCOby2fp+bPr2afPe,33ddk26aajycbycayecycGdecyd+bncAy25ay2>hyahHb2gpAc2afcf,=a,>3oaaabaacaadaaeaafaagaahblaiaajaakaalaamaanaal2*agay4+b*aajycbycgybyrcy4alEyL3eyc2+bhaajycbyccyedyecfd+boczy2+bgay2+bohyahGbhHccLe2afcyBcNe2afbyB3acaaaajycnybyePeFPbyBP+ckAyjFcny2afbyA3"
def Cv:ax 6 43 Ns:=aA
def Nt:au:=aB "Fcbeal2dm+bPam+bPbaK3dl2hcLcecgcLdecid+bqchj2gak3fal2nafsmK2man3ell2paf2fao3il2rcNcbqcNdbssrt2qau3epdl2wcNcbvcNdbxowy3eyl2faW3ial2faM3ial2BcOcbycOdbyAAy2fay3i"
def Nu:ax 6 45 Nt:=aA
def Nv:au:=aB ":cbealm+bbbaL3dc2haajgcbhcgibjrckal4BaajncbocfpbqzrK4almsLat4RaajvcjwbxgyaajycbycfybynDy4aluyL2gay3dc2Iafay4+baaajycbycfybynyKay4+bnaajycbyehyeLdaajycjybyaajycjybygyAyMibEybyd+brd,T,Uy4+bal,POy4al,IyL2fay3i"
def Cw:ax 6 46 Nv:=aA
def Nw:au:=aB "Wdcgcdhalm+bbb2hp+bVdaK3l2paacaeeGpd+bscoq2oar2thnahnb2jasat3dl2vajsuK3evlqda2afdgw2ia03ial2zaiacd+btczy2yay2Chxahxb2lp+bVd2afdk,B2ka,C3dl2EajsyK3eylqda2afdgy2ia03iadl2Iedkacd+buczy2Hay2LhyahCb2mp+bba2afLl,Ka,L3l2NamsyKay4+bleLleLed+bvczyrcy4alCOy3eylqda2afdgy2ia03ial2Wedk2afdgy2iaK3i"
def Nx:ax 0 47 Nw:=aA
def Ny:au:=aB "0calm+bZb3ddccbdbercfag4qaajicbjcakeclcadbnd+bwcmorcp4alhOq3eriadlaajscbtcgubv3ewlaajxckybykyMjxcky2afbyA3iakaaaajycbyccyedyaajycjybycadbyFbbyBbyByd+bycGyaajycbyehyd+bxcCyj,Ecjy2afbyA3xaaabaacaadaaeaafaagaahaaiaajaakaalaapaaqaaraasaamaanacfsoabstaauaavaawaa"
def Cx:ax 6 48 Ny:=aA
def Nz:au:=aB "Wcbeal2faN3dl2kabojK3ekbVj*2aWl3al2oaagnwhoabwhqd+bzcpr2nas2uhmahmb2gatau3dl2wafvvSaw4Wagvy,+oU4alxOy3eybVj,+o?2aWy3alagwdy1c2iay3l2GahaaEbzy2jay3dfagdl2JaiahgyoAy3eyahafbcaiahaitbzbyaaahaitbzabyaEbBykFy2jay3l2Wah2fay3i"
def NA:ax 6 49 Nz:=aA
def NB:au:=aB "Xdbgal2emCa2haL3l2neddabd+bAcmn2mao2qhlahlb2ip+bNb2afchpaq3l2teddacd+bAcst2sau2whrahrb2kp+bNb2afcjvaw3dl2yaircxay40akrcy4alAOyay48abgyacgysAy4alDOy3eyl2haL3iadl2Lechecj1d3eylechecjd+bBczy2hay3iadc2RabibyKbyacibyKbyoBy2hay3i"
def Cy:ax 0 50 NB:=aA
def NC:au:=aB "SbbcalaL3dl2haa1e3fagl1fhia3dejahafblhibhic2eakal3l2naezm,+o*an4FaeCp,+o+4aloqL2gar3l2tafrcsat4RadnvKaw4Waeoy,+o,ay42aevy,+pa4WlAOyay4;aesy,+pb4WlAyL4RlxOy4aluyL3eyl2daL3ial2LaaRyzyMay4+bkaaRyCy<4alByL2day3i"
def ND:ax 0 51 NC:=aA
def NF:au:=aB "JbbcalaL3dl2gaagfaK3faglohg3deiahadfblahibfhbk2eajal3l2naedZbmrcnao4Gaenq,+oT4alpOras4OaaadDbuabvaed+bCcwx4altOy3eyl2daL3iab2BkhM2iay3l2CaagyzyMay4;aagyCy;4alByL2day3i"
def NG:ax 0 52 NF:=aA
def NH:au:=aB "Jcceafalm+bdbaNaK3dl2jaad+bDbircjak4ye+bfdd+bEbmrcn4allOo3epl2faNaM3ial2saacadbsd+bFcrt2rau2whqahqb2havaw3dfal2zah2yay3exl2faNaR3il2BaagyzyQ2Aay3eyl2faNa83iadk2Eaad+bHbyage+bfdF+bfbyd+bGdBAy2fayaK3iaaacaadaabbebdeaafaagaahaai"
def NI:ax 6 53 NH:=aA
def NJ:au:=aB "ibbcalaN3dlaaQad3eel2daN3ial2gubaaaxbqfg2dah3i"
def NK:ax 0 54 NJ:=aA
def NL:au:=aB "zcceafal2faNaK3dl2jaad+bDbircj3ekl2faNaM3ial2naaabd+bFcmn2mao2qhlahlb2hapaq3dl2sahrcr3esl2faNaU3ial2uaad+bHbtagagkwMd+bIduvx2fayaK3i"
def NM:ax 0 55 NL:=aA
def NN:au:=aB "Fccec+bffalm;bp+bdfaK3dk2kaajjcbkblcbdbnducmo2jap2rhiahib2hp+bdf2af+bfgqar3naaabaacaadaaeaafaagbkahaaiaajaakaalaamaadfal2uahrct2tau3esl2we+bfg2af+bfev2gaU3idk2ycddbxgye+bfgdwbysAy2xay3haaabaacaadaaeabbfaagaaewl2Ee+bfg2af+bfey2ga43ial2Fe+bfg2af+bfey2gaK3i"
def NO:ax 0 56 NN:=aA
def NP:au:=aB "+a,fbkalm+bdb2laK3l2re+bfgdwbq2mar3dk2uadaajucavbwccgeLyacalJtexAzy2tay2Ehsahsb2np+bba2afLm,Da,E3qaaabaacaadaaeaafaagaahaaiaajbnakaalaamaanaaoaapaadl2GansyK3eylan2lay3iadk2KaeaajycaybycNgeLyacalJGeCAzy2Jay2UhyahJb2pp+bba2afLo,T2oa,U3qaaabaacaadaaeaafaagaahaaiaajbnakaalaamaanaaoaapaadl2WansyK3eylan2lay3iadk2ZeLmeLoccg2afLyAcNg2afLyA3gaaabaacaadabbeaafaadc24aajycbybye+bfgd+bJczy23ay2:hyahFb2qaz2oa,:3dl2<annyK3eybaaapjzcby2afbyA3alan2lay3i"
def NQ:ax 0 57 NP:=aA
def NR:au:=aB "yecicLjalm+bbb2jp+bbaaK3dladacubbld:ckmrcn3eolqaa2afLip2kaM3ial2raaadqicabqbbreLfacd+bKestuKhvahvb2afLiw2kax3i"
def NS:ax 0 58 NR:=aA
def NT:au:=aB "UecicLjalm+bbb2jp+bbaaK3dl2oadacubbod+bLcnprcq3erlqaa2afLis2kaM3ial2uaaadqicabtbbu2lp+cYi2afckv3dl2xeLfd+bMbw3exleckacubbyd+bNcAyhyahzb2afLiz2kay3ial2GeckeLfacd+bOdAzy2Fay2KhyahDb2maza,K3dl2MamsyK3eylqaaam2afLiz2kay3ial2Qeckald+bPczyhyahzb2afLiz2kay3i"
def NU:ax 0 59 NT:=aA
def NV:au:=aB "TecicLjalm+bbb2jp+bbaaK3dl2nadacubbnd:cmorcp3eqlqaa2afLir2kaM3ial2taaadqicabsbbt2lp+b,i2afcku3l2xeckeLfacd+bQewxyK2way2Bhvahvb2afLfz2may3dl2DalnyKay4;cIfbyGTycJfbyoAy4alEyL3eyleckeLfd+bRdzyKhyahzb2afLiz2kay3ial2SeLfal2afLiz2kay3i"
def NW:ax 0 60 NV:=aA
def NX:au:=aB ">ecicLjalm+bbb2jp+bbaaK3dl2oadacubbod+bLcnprcq3erlqaa2afLis2kaM3iadl2ueLfd+bMbt3eulqaa2afLiv2ka23ial2xaaadqicabwbbx2lp+cYi2afck,y3l2BeckeLfacd+bSdAzy2Aay2FhyahDb2mp+c5h2afdl,Ea,F3dfal2IamsyK2Hay3eyl2Kqaaam2afLiz2kay3il2Ncalbyay4+bmcblbygynyK4alCyL2May3eyl2Vqaa2afLiy2kaK3il2Xcalbyrcyay4+bIcclbygynyM4alCyL2Way3eyl26cclbyiLyKeLy2afLiy2kaK3ial2:eckedld+bTczyhyahzb2afLiz2kay3i"
def NY:ax 0 61 NX:=aA
def NZ:au:=aB "rcbeal2dmda2faL3lbczfMag4rbcCiQ4alhjLak4zabH+bVabcd+bUcmnrco4allpL2faq3i"
def O0:ax 0 62 NZ:=aA
def O1:au:=aB "2cceafal2dm+b,am+bbbaNaK3dl2pcIdbonpK3eql2faNaK3ial2tecceLdd+bWcst2sau2whrahrbhrc2hp+bZg2afcgvawax3dl2zaisyK3eylai2faNa,A3ial2kaN3dl2Ccbgby3eybajcagbyFbbyBbyBy2kay3adl2JahgyaK3fagloyz3deyahadfbliLBzeLy2mp+bba2afLl,N3l2QecceLld;czy2Pay2ThyahCb2naza,T3dl2VansyK3eylan2faNa,W3iab2YajamBbyzy2kay3b21k,KM2Lay3l22aj2fayaK3i"
def O2:ax 6 63 O1:=aA
def O3:au:=aB "icbeal2faK3laaabd>cfg2fah3i"
def O4:ax 0 65 O3:=aA
def O5:au:=aB "Kcbeal2faK3dl2kaagjaK3faglolk3demahadfblalibjlbo2ganap3dl2rafabgrzqs3etl2faM3ial2vabafibuvbw2iax3l2zagahd+bZczy2jay3l2CaisyK3eylai2fay3iab2FklM2may3dl2GaagyabgyoAy3eyl2faW3ial2faK3i"
def O6:ax 0 66 O5:=aA
def O7:au:=aB "YbbcalaL3dlaK3fagdl2iadaaRiohj3ekahadfbl2oaaad1g2fap3l2raezq,+pcar4NaeCt,+pd4alsuL2gav3l2xaezw,+peax4ZaeCy,+pf4alAyL2hay3l2Dafrcyay4;adnyKay4*agrcyay4+beaesy,+pg4*lAyL4;lEOy4alIyL3eyl2daL3iab2madklM2eam3l2RaaRyvyKay4+bwaaRyoy,+ph4alByL2day3i"
def O8:ax 1 67 O7:=aA
def O9:au:=aB "+bndcgahal2haPaL3dl2laaPakP3ell2haPaL3iadc2naajmcanboaajqcbrbsaajuccvbwaajycdybyqoeabpbbtcbxdbym+cmy2jay3dl2Faajycaybyabdkczy3eylaijycby2afbyL3dcaiaajycbyby2haCa,R3ial2kaL3ddc2TabaajycaybyacabgyLAyd+bfdGCy3eyb24aiaajyccybyabackyMd*dBAy23ay2=hyahIbjIccy2afbyB2kaA3b2+a,aiaajycdybyabackyMd*dBAy2+a+ay2+bihyahIbjIcdy2afbyB2kaA3l2+bmaiaj2haza,+bm3i"
def Cz:ax 0 68 O9:=aA
def Oa:au:=aB "DbbcalaN3dl2faaPaeP3efl2daN3iadk2haajgcchbid+a+bjaajlcdmbnd+a+boxbykp2eaq3maaabaacaadaafaagaahaaiaaeabijaakaalaadl2saajrcbsbt3eubadaajwcaxbyubbyxbyvy2eay3al2Dad2day3i"
def CA:ax 0 69 Oa:=aA
def Ob:au:=aB "rbbcalaK3dlaaPadP3eel2daK3iadk2gaajfccgbhd+a,bikMjaajlcdmbnd+a,bokkp2daq3naaabaacaadaagaahaaiaajaaeabjfaakaalaamaai"
def CB:ax 0 70 Ob:=aA
def Oc:au:=aB "Ocbeal2faP3dl2iaaghniK3ejl2faP3ial2laaabaaibmKbngoLlpd+b0ckq2gar3l2tafgsMtT2hau3dk2wafagibvwbxafagDbzabyabkyMd+bacAyafagkyMDbAbyaabkyMd+bacAyqoeab,ybbOcbFdbym+cmy2fay3uaaabaacaadaaeaafaagaahaaiaakaalaamaanaaoaapaajabdqabdraasaataai"
def xD:ax 0 71 Oc:=aA
def Od:au:=aB "scbeal2faL3dlaK3fagdlafaaghogi3ejahadfbl2naaafibmnboabdkcpq3erl2faO3iab2lafkkM2gal3l2faL3i"
def Oe:ax 0 72 Od:=aA
def Of:au:=aB "HbbcalaN3dl2gaaPafP3egl2daN3ial2iubaaajicajbkxbyhl2eam3dlaK3fagdl2oaeaajocbpbqgrons3etahadfbb2xadaajxcbybyaeibzybyd+bcbyxbywy2eay3b2vaekuM2fav3l2Had2day3i"
def xE:ax 0 73 Of:=aA
def Og:au:=aB "+cxcbeal2faP3dl2paajocbpbqgrnsK3etlqcam+cku2gav3dlaK3fagdl2xagaajxcaybygyowy3eyahadfbl2Gaajycaybyagibzybyabdkczyrcy3eycafafjycaybyaajycaybyagibzybyFbbyBbyGyj,Pcay2afbyA3ab2EagkyM2hay3l26af2fay3ial27aaabd+b1czy2iay3l2:FbaaajycbybyBbiCy2jay3l2*aiahaajycbybyahibzybyabd+bdczyibIH2afbyz3ddcaiahibzybyjycaybygyaiahibzybyjycbybygykGyvyM3eylaiqcbbbym+cky2fay3ial2+bEahAyM2kay3dl2+bGahnyK3eyb2kaK3adc2+bIaiajibzybyaiajkyMibAyby2laDa,+bP3laN3dl2+bRaajycbybyahibzybyjycbybygynyK3eykFbaakjycaybyBbyCyaljycaybyBbyCyd+b2by2nay3nbaacaadaaeaagaahaaiaajaaaaafabjkaalaamaak2+b?FbaakjycbybyBbiCyaljycbybyBbiCyd+b3by2nay3nbaacaadaaeaagaahaaiaajaaaaafabjkaalaamaalaN3l2+cianaiajtbzabyaBbiBy2oay3l2+cnanamBbizy2oay3l2+cqanaiajkyTtbAbyaaBbiCyqcbbbym+cky2fay3i"
def CC:ax 6 74 Og:=aA
def Oh:au:=aB "Dcbeal2faP3dk2haajgcchbid+a,bjaajlcdmbnd+a,boNbdkp2gaq3maaabaacaadaafaagaahaaiaaeabijaakaalaadl2safaad+a,bsGTtMuUkvMvrw3exlaad+a+byabd+baczy2fay3ial2Daa2fay3i"
def Oi:ax 0 75 Oh:=aA
def Oj:au:=aB "Ydbgal2haL3ddc2jaaacibijbkabacibmnboslp3eqdcaaacibrsbtabacibvwbxouy2hay3iadlaK3fagdl2BahaagyoAy3eyahadfbdc2HaaahibzybyabahibzybysCy3eydcaaahibzybyabahibzybyoCy2hay3iab2FahkyM2iay3l2haL3i"
def Ol:ax 0 76 Oj:=aA
def Om:au:=aB "obbcalaP3dfagdlaagdveM3efahafbbaad+b3bg2bah3dl2jaaginjK3ekl2daP3ial2maaiblKbm2dan3i"
def On:ax 0 77 Om:=aA
def Oo:au:=aB "0cbeal2faN3dl2iaajhcbibjgknlK3emlaajncaobpabd+b4cqrd+b2bs2fat3ial2vaaabd+b1cuv2gaw3laN3l2yagaajycbybyafDbzabyxbixy2hay3l2Gagaajycbybyafibzybyabd+bhczyxbiHy2hay3l2RagaajycbybyafkyMDbAbyaxbiFyd+b3by2fay3i"
def CD:ax 0 78 Oo:=aA
def Oq:au:=aB "ibbcalaN3dlaaQad3eel2daN3ial2gubaaaxbbfg2dah3i"
def Ot:ax 0 79 Oq:=aA
def Ou:au:=aB "Ccbeal2dmAa2faL3dlabofMag4qabviQ4alhOjak4ycacbmgnabsop4allOqar4Mcbcbtguabsvw4alsOx3eyl2faL3ial2AabH+b6abcd+b5czy2fay3i"
def Ov:ax 0 80 Ou:=aA
def Ow:au:=aB "+becbeal2dmCa2faL3dlabofMag4qabviQ4alhOj3ekl2faL3iadl2mcacbl3fal2pnmZ2oao3enl2qcbcbpnqKar4NcccbtgunvK4alswL2fax3il2AnmY2zay3eyl2BcbcbyzyMay49cbcbyabozy4alCyLay4+bccccbygynyK4alCyL2fay3il2RnmV2Qay3eyl2ScbcbyzyKay4+bycbcbyabozy4alCyLay4+bKcccbygynyK4alCyL2fay3il28nmX27ay3eyl29cbcbynyKay4+b6abzyT4alAyLay4+b>cccbygyabAyMnAy4alEyL2fay3ial2faL3i"
def Ox:ax 0 81 Ow:=aA
def Oy:au:=aB "pcbeal2dmAamAbaL3leccecdd+b7cfgah4tcacbjgkH+b8accdd+b5clm4alinL2fao3i"
def Oz:ax 0 82 Oy:=aA
def OA:au:=aB "Bcbeal2dmEam+bbbaL3dlcIdbfngKah4scacecjcGdecld+b9ckmrcn4aliOo3epl2faL3iadl2rcgcbq3erlcacecscGdecud+blctvrcw2fax3ial2zcfcbysyK2fay3i"
def CE:ax 6 83 OA:=aA
def OB:au:=aB "1cceccfal2dmAamAbpAcaL3dl2jeccecdd+b9cijrck3ellqca2afcem2gaL3ial2oeccd+b:bn2hpAc2afcgo3dl2qcagbpgqaK3faglosr3detahadfblas2iau3k2wcagbvahcbgbyahcacbyahibzybycadbyahibzybyNbdDycbcbyahibzybycbdbyahibzybyNadDyibwx2afby,Lib,z,A2afbyA3GaaabaacaadaaeaafaagaahaaiaajaakaalaamaanaaoaapaaqaaraasaataauaavaawaaxaayaazaaAaaBaaCaaDabeEaaFaabksM2tay3l21ecg2afcey2gaO3i"
def OC:ax 0 84 OB:=aA
def OD:au:=aB "9cdeccfagal2dmCamAbp+bNbaKaK3dl2jecdcadbjgkd+bjcilrcman4Eedccadbqgrd+bkcpsrct4aloOu3evlqba2afcew2gaKaM3ial2ycadbxcbcbyibAybyd+b;by2ip+bNb2afch,D3dl2Fcacby3fal2InyV2Hay3eyb2JcbdbycbcbyibAybyd+b<by2afchy3l2RnHX2Qay3eyc2TcccbycadbyDbybMacbdbyDbybMaqccabBbbyd+b=cFy2Say23hyahJb2afchz3adkechcadbyibyKby2afceC2gayaK3iaaabaacaadaaeaafaccegaahaai"
def CF:ax 0 85 OD:=aA
def OE:au:=aB "Dcbeal2dm+bNam+bNbaK3dfal2heccecd1h2gai3efl2faK3il2lcacbkcadbmolnao4Gcacbqcadbsnrtau4Tcbcbwcbdbyoxy4GlvyL4alpOy2kay3ejl2faW3ial2faM3i"
def OF:ax 0 87 OE:=aA
def OG:au:=aB "zdbgal2emEam+bbb2haL3l2lcadeckcGeecmd+bncln2kao2qhjahjb2ipAc2afchpaq3l2saiar4Nccdedtechacd+b*duvw4alsxL2hay3i"
def CG:ax 6 88 OG:=aA
def OH:au:=aB "vcceafalm+a,baNaK3dc2kaajjcakbleGd1i2jao2qhiahib2hapaq3dl2sahrcr3esl2faNa23ial2uagd+bibt2fauaK3i"
def OI:ax 0 89 OH:=aA
def OJ:au:=aB "+bdccecdfal2fp+bVdaK3l2maad+b+bl2ham3l2oagd+b,bnqdbabo2ip+bVd2afdhp3dl2ragd+b,bqwdraK3faglots3deuahadfblagd+cabv2jaw3k2ycbhbxagabd+cbczyaiqgcabzbbyFcbyBcGEycbh2afbyz3laaabaacaadaafaaeabbgaahaaiaajaakaabktM2uay3dl2Jagd+b,bywdyaK3fcgloyz3deyahcdfdkcchbyagabd+ccczyFLbyBL+bXCycch2afbyz3jaaabaacaadaaeabbfaagaahaaiaabkHM2May3dl2Xagd+cdbysyKay4+bHedhabd+ceczyrcy4alCOy3eylqda2afdey2ga03iadl28edhabd+cfczy27ay2;hyahCb2kaza,;3l2=aksyKay4+b;ajaad+cgczyrcy4alCOy3eylqda2afdey2ga03ial2+bdedh2afdey2gaK3i"
def OK:ax 1 90 OJ:=aA
def OL:au:=aB "+bEccecLfal2dm+bVa2fp+bbaaK3l2pedcabd+cfcop2oaq2shnahnb2haras3dl2uahstK3eulqaaah2afLev2gaw3iadk2yagd+chbxcbcbygyqacaGBJby2jp+bba2afLi,C3iaaacaadaaeaabbgbdfaagaahaadl2EcbcbygyaK3fagloyz3deyahadfblicBzecy2lp+bZg2afck,J3l2Lcbkby3eylcIibykyMcIi2afbyz3kcGiecycakbyd+cjbyd+cicBycGi2afcyz3iaaabaacaadaaeabbfaagaahaaabk,GM2Hay3dl2ZcccbygyaK3fcgloyz3deyahcdfdliLBzeLy2np+bba2afLm,43l26cIibycImbykAycIi2afbyz3lcJibycJmbykAycJi2afbyz3bcGiecycGmecyd+cicAycGi2afcyz3bk,1M22ay3dl2+bgcJibyvy93eylqaa2afLey2gaM3iadl2+bkcacby3fel2+bnnyV2+bmay3eyb2+bocbcbyicyKcaybyd+ckbycKi2afbyz3l2+bwnHX2+bvay3eyb2+bxcccbyiLyKcKybyd+ckbycKi2afbyz3aleLi2afLey2gaK3i"
def OM:ax 0 91 OL:=aA
def ON:au:=aB "Mcbeal2dm+bbam+bbbaL3lcaceGfcadeGh1jaj4xcIcblcIdbnnmo4alkpLaq4LcJcbscJdbuntv4alrwLax4ZcGcecycGdecyd+clcAy4alDyLay4=cKcbycKdbyd+cmcAy4alDyL2fay3i"
def OO:ax 0 92 ON:=aA
def OP:au:=aB "pcbeal2dmAamybaL3leccbdggd+bjcfhai4vbdgkH+cnaccdd+b5clm4aljnL2fao3i"
def OQ:ax 0 93 OP:=aA
def OR:au:=aB "ucbealmEbaN3dlcfdbfzgKah4taagjcfdblvkm4alinL3eolaacfdbqtbpabra2fas3ial2uaa2fat3i"
def CH:ax 6 94 OR:=aA
def OS:au:=aB "Mcbeal2dmCa2faN3laN3dl2jabgiaK3faglokj3delahadfblibikbm2ian3dl2pedcahgpd+bkcoqrcras4OahguabibwKbxgysvy4altOy3eyl2faN3iab2Dafahd+ckbyFbbyBbyBy2gay3b2IkkM2lay3l2JafH+cpabcd+coczy3laf2fay3i"
def CI:ax 6 95 OS:=aA
def OT:au:=aB "Ecceafal2faSaS3deLl2maawglabwgnd+crcmo2lap2rhkahkb2haqar3l2tagwhsahwhu2fatav3ial2yaaabd+cscxy2xay2Bhwahwb2jaza,B3l2Daiaj2faza,D3i"
def OU:ax 0 96 OT:=aA
def OV:au:=aB "Lcceccfal2dmCa2fp+bNbaL3dl2iedcabgidzchjrck3ellqba2afcem2gaL3iadl2ocacbnnoX3epdcabDbqbMacccbsd+ctcrthuahub2afcev2gaw3ial2yabcbcbyibxybywhyky:2hay3dl2FcacbynyV3eybagA,+piy2hay3al2Kagqbbbby2afcey2gaO3i"
def CJ:ax 0 97 OV:=aA
def OW:au:=aB "ucbeal2dm+bNam+bNbaL3dlcacbfcadbhsgi3ejlcacbkcadbmoln2fao3ial2qcbcbpcbdbroqs2fat3i"
def OX:ax 1 98 OW:=aA
def OY:au:=aB "jcbeal2faL3laaabd+cucfgzhK2fai3i"
def OZ:ax 0 99 OY:=aA
def P0:au:=aB "IbbcalaL3dl2gaagfaK3faglohg3deiahadfblahi+bffhe+bfk2fp+bdf2eaj2af+bfel3dc2ne+bfed+bEbmrcnao4GadvqKar4NaaadAuMi+bftvcawbxcaebyzAy4GlsyL4alpOy3eyl2daL3iab2FkhM2iay3l2GaagyCyQ2day3i"
def P1:ax 0 100 P0:=aA
def P2:au:=aB ";bbcal2cm+bdaaL3l2fe+bfbdwbe2eaf3dfal2icabbhcbbbjqkdabYbbicbkdDblrcm2han3egl2daL3il2qccbeLpadd+cvcqrrcsat4QcNbeLvadd+cvcwxrcy4aluOyay44ccbcIybycNbcIybysBy4alFOyay4+bdccbcKybygyvyK4alDOy2pay3eol2daL3ial2ScNbeLyd+bMbyay4+bxcNbcKybygyadnzyay4+bMcNbcJybycNbcIybynBy4+bxlFyL4al,UOy2day3i"
def P3:ax 0 101 P2:=aA
def P4:au:=aB "lcceafal2faKaL3laaabd+cwdgh,+pjhiahib2fajak3i"
def P5:ax 0 102 P4:=aA
def P6:au:=aB "+bydbgal2haN3l2laaabt+bfkblaa3lacgn2iao3dl2qahnpK3eqlaa2har3ial2taags2jat3dl2vabainuv3ewlaaacB+bf+d?xy2hay3iadl2BaiahkzyaaSyvAy3eylaaabt+bfzabyaaiahkzyabAzyX+bf+d?fDy2kay3l2Qajabt+bfzbyaaacE+bfzy3dcajabahkzyt+bfBbyaaaaabt+bfzbyaaE+bfBy3laj2hay3ial25aaaiahkzyt+bfBabya2bay3dl2:acaaabahkzyt+bfBbyaaYDyrcy3eydcaaabahkzyt+bfBbyaaaaabt+bfzbyaaE+bfBy3laaabt+bfzbyaaacE+bfzy3laa2hay3ial2+boaaait+bfzbyaaacE+bfzy3laaabt+bfzbyaaahd+czczy3laa2hay3i"
def CK:ax 6 103 P6:=aA
def P7:au:=aB "ibbcalaN3dlaaQad3eel2daN3ial2gF+bfaaaB+bf+d?fg2dah3i"
def P8:ax 6 104 P7:=aA
def P9:au:=aB "Hdbgal2haN3l2jaaabacaaglt+bfibjbkbm3dlabacnop3eqlaa2har3ial2taags2iat3dc2vaaabt+bfuabvaaaact+bfxbyaaB+bf+d?wy2bay3l2Caaaagyaht+bfBbzbya2aZ+bffy3laa2hay3i"
def Pa:ax 6 105 P9:=aA
def Pb:au:=aB "Hcceafalm+bdbaNaK3dl2kaad+bDbjrckal4Ae+bfdd+bEbnrco4almOp3eql2faNaM3ial2taacadbtd+bFcsu2sav2xhrahrb2hawax3dl2zahrcy3eyl2faNaU3ial2Baad+bHby2jay3l2Daiage+bfdi+bfAz2af+bfyz3lai2fayaK3i"
def Pc:ax 0 106 Pb:=aA
def Pd:au:=aB "+bTecicLjal2fm+b,am+bbb2jp+bbaaK3dl2peLfd+bMbo3epleceacqgcabrbbOeLfeLfd+cAeqstuhvahvb2afLiw2kax3ial2AeceeLfd+bWczy2zay2DhyahCbhDc2lp+bZg2afck,Ca,Da,E3dfal26amsyK25ay3eyl28qaaam2afLiz2kay3il2;cakbyacd+cmczyay4+b<cbkby4alAyL2:ay3eyl2+baqaa2afLiy2kaQ3il2+bccakbyacd+cmczy2+bbay3eyb2+bgcbk2afbyO3l2Geceaccakbyadd+cBeCBzy2oay3dc2NalanecealaniLzyeLyacadkyMd+bKeFBAy2May2Yhyah,LbiL,MJ2afLyA2naz3l21amsyK3eylqaaam2afLiz2kay3iadc2+bieceeckaliLyKeLyaliLyMeLyd+cAeFEBy2+bhay2+brhyahIb2afLfz2nay3ddc2+btamnyKay4+cRaliLyKcJybyaliLyMcJybyNbdCycJfbyGTyMyUkyMvDy4al,+buyL3eyleceeLfadd+bRdAzyhyahzb2afLiz2kay3ial2+bSeLfam2afLiz2kay3i"
def Pe:ax 0 107 Pd:=aA
def Pf:au:=aB "rcbeal2dmda2faL3lbczfMag4rbcCiQ4alhjLak4zabH+cCabcd+bUcmnrco4allpL2faq3i"
def Pg:ax 0 108 Pf:=aA
def Ph:au:=aB "gbbcal2cm+bbaaL3leLbqaad+bvcde2daf3i"
def Pj:ax 0 109 Ph:=aA
def Pk:au:=aB "GccecLfal2dm+cYa2fp+bbaaK3l2kqdbabV2hp+bVd2afdgj3dl2labgkaK3fagloml3denahadfblibkmbo2jap3b2rcbgbqaiqgcabsbbOucbtxcGrucbg2afbwv3bkmM2nax3l2zcacbyedgcbcbyd+cDdBAyhyahzb2afLez2gay3i"
def Pl:ax 0 110 Pk:=aA
def Pm:au:=aB "+bddcgahal2em+cYam+bbb2haNaK3l2qecdeLed+cEcpq2par2thoahob2jp+bVd2afdisat3dl2vajsuK3evlaj2haNaw3iadl2ycaibxnyV3eyl2Cedid+cGbyacd+cFdzy,+oV2Bay2GhyahDb2laza,G3dl2Ial3eyl2haNaQ3iadk2Jedid+cGbyakacFbbyd+cJdBAyecdH+bNbyad+cIcAyhyahzb2haza,S3naaacaadaagaahaabbebgeaafabgiaajaakaalaamaaial2Uediacd+cKczy2nay3dc2YecdccibyamiLzyeLyacd+bOdEzy2Xay26hyahHb2oaz2ka,63dl28ajsyK3eylaj2haNa,93iadk2;ccibyamamkyMand+cMeCBzyecdH+cNbyad+cLcAyhyahzb2haza,+bc3oaaabaacaadaaeaafaahaaiaagabhjaakaalaamaanaai"
def Pn:ax 1 111 Pm:=aA
def Po:au:=aB "IccecLfal2dm+cYa2fp+bbaaK3dfagdl2jabgivjM3ekahafbdk2nababgnd+cQbod+cPcmpeccH+cNbrad+cOcqs2mat2vhlahlb2hauav3naaabaacaafaagaadabfeabfhaaiaajaakaalaamaadl2xahswK3exlqaaah2afLez2gay3iab2Bag2cay3dl2CabgynyK3eylqaa2afLey2gaK3ial2GabiLyKeLy2afLey2gaK3i"
def Pp:ax 0 112 Po:=aA
def Pq:au:=aB "+blecicLjal2fm+b,am+bbb2jp+bbaaK3dl2peLfd+bMbo3epleLf2afLiq2ka23ial2teceeLfd+bWcst2sau2whrahrbhrc2lp+bZg2afckvawax3dfal2ZamsyK2Yay3eyl21qaaam2afLiz2kay3il24cakbyacd+cmczyay4+bYcbkbyrcy4alByL23ay3eyl2=qaa2afLiy2ka23il2?cakbyacd+cmczy2>ay3eyb2+bacbk2afbyL3l2zeceaccakbyadd+cBeCBzy2oay3dc2GalanecealaniLzyeLyacadkyMd+bQeFBAy2Fay2Rhyah,EbiL,FJ2afLyA2naz3l2UamsyK3eylqaaam2afLiz2kay3iadc2+bbeceeckaliLyKeLyaliLyMeLyd+cAeFEByhyahzb2afLiz2kay3i"
def Pr:ax 0 113 Pq:=aA
def Ps:au:=aB "AdcgcLhal2em+b,am+bbb2hp+bbaaK3l2mecdeLed;clm2lan2phkahkb2jaoap3dl2rajsqK3erlqaaaj2afLgs2iat3ial2vecdaiacd+cRduvwhxahxb2afLgz2iay3i"
def Pt:ax 0 114 Ps:=aA
def Pu:au:=aB "+bgdcgcdhal2em+cYam+bbb2hp+c5haK3l2recdeLed+cEcqr2qas2uhpahpb2jp+bVd2afditau3dl2wajsvK3ewlqhaaj2afdgx2iay3ial2Aedid+cSby2lp+c5h2afdk,A3dl2Ccakby3eyl2Fcbkbyacd+cFdzy,+oV2Eay2JhyahDb2maza,J3dl2Lamrcy3eylqha2afdgy2ia23ial2OcbkbyalalkyMd+cTdBAycbk2afbyz3ledk2afdgy2iaK3ial2Wediacd+cKczy2oay3dk20ecdcckbyaniLzyeLyacd+bSdEzy2Zay28hyahHb2pp+c5h2afdo,72ka,83oaaabaacaadaaeaafaagaahblaiaajaakaalaamaanaadl2:ajsyK3eylqhaaj2afdgz2iay3ial2?ecdcckbyanedod+cUeCAzy2>ay2+bchyahFbcck2afbyA2kaz3l2+bfedkaj2afdgz2iay3i"
def Pv:ax 1 115 Pu:=aA
def Pw:au:=aB "uccecLfal2dm+cYam+c5bp+bbaaK3dlcadbg3ehlecccbdbjd+bNcikhlahlb2afLem2gan3ial2peccccdbpd+cNcoqhrahrb2afLes2gat3i"
def Px:ax 0 116 Pw:=aA
def Py:au:=aB "jcbeal2faL3laaabd+cVcfgzhK2fai3i"
def Pz:ax 0 117 Py:=aA
def PA:au:=aB "ibbdal2eaL3laagebbsfg2eah3i"
def CL:ax 0 118 PA:=aA
def PC:au:=aB "Gcdeccfagal2dm+b,am+bbbp+bZgaNaK3l2lcacbkeLdcbcbndVdlmo2kap2rhjahjb2ip+bVd2afdhqar3dl2taissKat4QcahbvswY4aluOx3eylqga2afcey2gaNa03iadk2BcbhbyicyKecycchby2afceA2gayaK3jaaabaacaadaaeaafaagabfhaaiaai"
def PD:ax 0 119 PC:=aA
def PE:au:=aB "ucbeal2faK3l2iaad+c6bh2gai3l2kabd+c6bj2hak3dl2maf3eldlag3eml2faK3ial2faW3iadl2oag3enl2faM3iadl2paaaboop3eql2faW3iadl2saaabvrs3etl2faM3ial2faK3i"
def PF:ax 0 122 PE:=aA
def PG:au:=aB "1cbeal2faN3laN3dlaK3fagdl2kagaagkojl3emahadfbl2iaN3laK3dfcgddc2qaiafgqopras4Pafaiibuvbwaaagibzybyabd+bfdxzy4altyL3eyahcfdlahafaiibzybyubbyxbyDy2iay3b2NaikyM2jay3l2PahaaagibzybyubbyxbyDy2iay3b2WahafaiDbzbyaxbyBy2gay3b2oagknM2hao3l21af2fay3i"
def PH:ax 0 123 PG:=aA
def PI:au:=aB "Dcbeal2faK3laK3dlaK3fagdlagaajicbjbkglohm3enahadfbl2rabaajrcbsbtagibuvbwd+c8bxd+c7cqyrcy3eybag2gay3ab2pagkoM2hap3l2Daf2fay3i"
def PJ:ax 0 124 PI:=aA
def PK:au:=aB "NbbcalaN3laN3laK3l2iaaghd+c9bi2gaj3dlaK3fagdl2lagafglokm3enahadfbl2radubaaaaeaeafagibvwbxkuyDbsbtbyxbyryqcbabym+ckyubbyxbiqy2eay3b2HaeafagibzybykCy2fay3b2pagkoM2hap3l2Nad2day3i"
def PL:ax 0 125 PK:=aA
def PM:au:=aB "NbbcalaN3laN3laK3l2iaaghd+c9bi2gaj3dlaK3fagdl2lagafglokm3enahadfbl2radubaaaaeaeafagibvwbxkuyDbsbtbyxbiryqcbbbym+ckyubbyxbiqy2eay3b2HaeafagibzybykCy2fay3b2pagkoM2hap3l2Nad2day3i"
def PN:ax 0 126 PM:=aA
def PO:au:=aB "Lcbeal2faN3laN3laK3dfagdlagaagiohjak4zaaagibmnboabd+c7cpq4allrL3esahafblafaaagibuvbwubbxxbyty2gay3b2BagkyM2hay3l2DafabubbyxbyAy2gay3l2HafaaagDbzbyaxbyBy2fay3i"
def PQ:ax 0 127 PO:=aA
def PR:au:=aB "pcbeal2faL3dl2haaaK3faglohg3deiahadfblah2gaj3l2labafJkblrcm3enl2faL3iab2pkhM2iao3l2faO3i"
def PT:ax 0 128 PR:=aA
def PU:au:=aB "pbbdal2eaL3dccabbeaaibfgbhcbbbjaaibklbmCin2eao3i"
def PV:ax 0 129 PU:=aA
def PW:au:=aB "rcbeal2dmAamAbaL3lecccacbgghd+bjcfiaj4xecdcacbmgnd+bjclo4alkpL2faq3i"
def PX:ax 0 130 PW:=aA
def PY:au:=aB "Dbbeal2faL3dccabbfaaibghbicacbkaaiblmbnCjoap4JcbcbraaibstbucbbbwaaibxybyCvy4alqyL2fay3i"
def PZ:ax 0 131 PY:=aA
def Q0:au:=aB "pcbeal2dmAamAbaL3leccecdd+b7cfgah4tcacbjgkH+c:accdd+b5clm4alinL2fao3i"
def Q1:ax 0 132 Q0:=aA
def Q2:au:=aB "kbbcccl2cmAapAc3dkcabbdd+ckbecbbbgd+ckbhqccabfbbi2afccj3iaaabaadaaeaacabefaagaahaai"
def Q3:ax 1 133 Q2:=aA
def Q4:au:=aB "hbbccclp+bNb3laawhdKe:qbbbbf2afccg3i"
def Q5:ax 0 134 Q4:=aA
def Q6:au:=aB "hbbccclp+bNb3laawhdA,+oUeqbbbbf2afccg3i"
def Q7:ax 0 135 Q6:=aA
def Q8:au:=aB "Ecceccfal2dmyamAbp+bNbaK3dlbcd+c;bgrchai4ucadbkglbcgnsmo4aljOpaq4Kcbdbsgtbcgvsuw4alrOx3eylqba2afcey2gaM3ial2BbcgyH+c=accdd+c<czy2afcey2gaK3i"
def Q9:ax 0 136 Q8:=aA
def Qa:au:=aB "Wdbgal2emCamAb2haL3l2oeddeced+bocno2nap2rhmahmbhmc2ip+bNb2afchqaras3l2veddacd+c*cuv2uaw2yhtahtb2lp+bNb2afckxa,y3dc2AajnyKay45alnyK4alAyLay4=acgycaebygynBy4alEyLay4+bkeckacibyKbyechaid+c+eDAzy4alFyL2hay3i"
def CM:ax 0 139 Qa:=aA
def Qb:au:=aB "hbbcalaP3laad+c,bdqebabem+eff2dag3i"
def Qc:ax 0 140 Qb:=aA
def Qd:au:=aB "pbbcalaZ3l2haad+dacgM2gah2jhfahfb2eaiaj3dl2laerck3ell2daZ3ial2nadibmKbn2dao3i"
def Qe:ax 0 141 Qd:=aA
def Qf:au:=aB "mbbcalaL3l2faad+b,be2eaf3dl2hadvgY3ehbaad+dbci03aladnkY2dal3i"
def Qg:ax 0 142 Qf:=aA
def Qh:au:=aB "Lcbeal2faN3l2jaad+b,biwdj2gak3dl2mafabvlm3enbaad+dbco83al2haN3dl2rafaK3faglorq3desahadfblaad+dcbt2iau3l2waajvcbwbxnyK3eybagahubbyxbiAy2hay3ab2FkrM2say3dl2GaajycbybysyK3eyl2faN3ial2Lag2fay3i"
def Qi:ax 0 143 Qh:=aA
def Qj:au:=aB "EcbecLl2fp+bba3l2haad+ddbgqabaGh2gp+bba2afLfi3l2kaad+decj9cIf2afblk3laad+decm9cJf2afbon3laaabd+cbcpqcGfcas2afbtr3laaabd+cbcuvcGfcbx2afbyw3laaabd+cbczycKf2afbyz3leLf2afLey3i"
def Qk:ax 0 144 Qj:=aA
def Ql:au:=aB "pbbcalaK3dlaajdcaebfggvhK3eibaad+dbcj,+pk3alaajlcbmbn2dao3i"
def Qm:ax 0 145 Ql:=aA
def Qn:au:=aB "+bucbeal2dm+bVamdbaL3dlbdofMag4qbdviQ4alhOjak4ycbcbmH+dgabdd+dfcnorcp4allOqar4McccbtH+diabdd+dhcuvrcw4alsOx3eyl2faL3iadl2Acacby3fal2DnyY2Cay3eyl2EcbcbygynyMay4+a+cccbygynyT4alCyLay4+bkcccbyd+dhcy,+pl4alByL2fay3il2Un,AV2Tay3eyl2VcbcbygyzyMay4+bGcbcbygyCyR4alCyLay4+bScccbygynyK4alCyLay4+b4cbcbyd+dfcy,+pm4alByL2fay3il2+a+n,AX2*ay3eyl2+a,cbcbygynyKay4+chcccbygyzyT4alCyLay4+ctcccbygyCyR4alCyLay4+cFcccbyH+dlabdd+dhczy4alCyL2fay3ial2faL3i"
def Qo:ax 0 146 Qn:=aA
def Qp:au:=aB "+bqcceafal2dm+bVa2faNaK3dl2medcabd+ceclmrcn3eol2faNaM3ial2qqeam+eop2haq3l2sagcacbsd+dmcrt3lagcbcbwgxweyd+dmcvy3dlcbcbygyaK3fagloyz3deyahadfblicBzecy2jp+bZg2afci,H3l2Jagcbibyd+dncAy3bagcaibyd+docAy3bkJM2Fay3l2Sagcccbygyweyd+dmcCy3dlcccbygyaK3fcgloyz3deyahcdfdliLBzeLy2lp+bba2afLk,33l25agcakeGyd+dpcAy3lagcIkbyd+dqcAy3lagcJkbyd+dqcAy3lagcGkcaybyd+docBy3lagcGkcbybyd+docBy3bagcKkbyd+docAy3bk,0M21ay3l2+bnagd+drbyagd+dsby2faAa,+bp3i"
def Qq:ax 0 147 Qp:=aA
def Qr:au:=aB "Acbeal2faL3dl2haaggabgishj3ekl2faL3iadl2maaglaK3faglonm3deoahadfblan2gap3dc2raaafibqrbsabafibuvbwstx3eyl2faL3iab2AknM2oay3l2faO3i"
def Qs:ax 0 148 Qr:=aA
def Qt:au:=aB "gbbccGlp+a,j3laad+dubdd+dtbe2afGcf3i"
def Qu:ax 0 149 Qt:=aA
def Qv:au:=aB "+brcbeccl2dmAamAbpAc3dk2kecccacbkgld+bjcjmecdcadbpgqd+bjcor2ganas3maaabaacaadaafaagaahaaiaaeacfhjaakaalaadfal2vafau4Tagrcw4alvxL2uay3etl2Aeccd+b:by2afcey3il2Dagay49afrcy4alAyL2Cay3eyl2Iecdd+b:by2afcey3il2Lafrcyay4+bhcacbygycadbygysBy4alFOy2Kay3eyl2Wqca2afcey3ialeccd+b:by2ipAc2afch,X3dl2ZcahbygyaK3fbgloyz3deyahbdfclaz2jay3k25cahbyaicbhbyaicacbyaiibzybycadbyaiibzybyNadDycbcbyaiibzybycbdbyaiibzybyNbdDyib,5,62afby,+bbib,8,92afbyA3GaaabaacaadaaeaafaagaahaaiaajaakaalaamaanaaoaapaaqaaraasaataauaavaawaaxaayaazaaAaaBaaCaaDabeEaaFaabk,1M22ay3l2+brech2afcey3i"
def Qw:ax 1 150 Qv:=aA
def Qx:au:=aB "rbbccclpAc3dlaagdoeMaf4oaaghviQ4algOj3eklqca2afccl3ialaad+ckbmaad+ckboqccabnbbp2afccq3i"
def Qy:ax 0 151 Qx:=aA
def Qz:au:=aB "ibbcalaN3dlaaQad3eel2daN3ial2gFbaaaBbifg2dah3i"
def QA:ax 1 152 Qz:=aA
def QB:au:=aB "rcbeal2dmAamAbaL3lcacbfcadbhd+cmcgiaj4xcbcblcbdbnd+cmcmo4alkpL2faq3i"
def QC:ax 0 153 QB:=aA
def QD:au:=aB "Acbeal2faL3dl2haaggabgishj3ekl2faL3iadl2maaglaK3faglonm3deoahadfblan2gap3dc2raaafibqrbsabafibuvbwstx3eyl2faL3iab2AknM2oay3l2faO3i"
def QE:ax 0 154 QD:=aA
def QF:au:=aB "Bbbeal2faL3dccabbfaaibghbibcaaibklbmCjnao4HbcaaibqrbscbbbuaaibvwbxCty4alpyL2fay3i"
def QG:ax 0 155 QF:=aA
def QH:au:=aB "qcbfal2gaK3dfal2iedcaaabd+cqdhij2hak3egl2gaW3il2nedcabaad+cqdmno2map3ell2gaM3ial2gaK3i"
def CN:ax 0 157 QH:=aA
def QI:au:=aB "Vdbgal2emCa2haL3l2neddabd+c*cmn2mao2qhlahlb2ip+bNb2afchpaq3l2teddacd+c*cst2sau2whrahrb2kp+bNb2afcjvaw3dc2yainxKay41aknyK4alAyLay49abgyacgynAy4alDyLay4+beechabibyKbyecjacibyKbyd+c+eFCBy4alHyL2hay3i"
def CO:ax 0 158 QI:=aA
def QJ:au:=aB "Zcceafal2faSaS3l2paaOo+2hap3l2raaIq52iar3l2tabOs+2jat3l2vabIu52kav3l2xagaiGwx2lay3l2AahaiGzyakIy5kAy2may3l2GalOy+2nay3l2IalIy52oay3l2KamagajGzykBy2nay3l2PahajGzyankzyamIy5kAy2fay3l2XaaabGzy2gay3i"
def QK:ax 0 160 QJ:=aA
def QL:au:=aB "Scceccfal2fp+bNbaL3dl2jaagiojMak4yaagmvnQ4allOoap4Iaagrabgtssu4alqOv3ewlqba2afcex2gaL3ialaN3dlaK3fagdl2zahaagyoAy3eyahadfbc2Fagaaahibzybyabahibzybyd+dwcCyFbbyBbiIy2hay3b2DahkyM2iay3l2Ragd+dxby2afcey2gaO3i"
def QM:ax 1 161 QL:=aA
def QN:au:=aB "tcbeal2faK3dl2haaggaK3fagloih3dejahadfblai2gak3l2mabaaafibmnbonlp3eqlaf2far3iab2tkiM2jas3l2faW3i"
def QO:ax 0 162 QN:=aA
def QP:au:=aB "Xcbeal2dm+bba2faL3dfal2heLcd+bMbg2gah3efl2faO3il2kcJcbjokMal4AcJcbnvo94almOpaq4KcIcbsotK4alrOuav4UcIcbxcJcbyvAy4alwOy2jay3eil2faL3il2FcIcbynyK2Eay3eyl2IcGccaybygynyKay4+bicGccbybygynyK4alDyL2fay3ial2UcGcecyabd+bjczy2fay3i"
def QQ:ax 0 163 QP:=aA
def QR:au:=aB "odcgahal2gm+dIcaKaL3laaabH+dzabfd+dydijkhlahlb2haman3i"
def QS:ax 0 164 QR:=aA
def QT:au:=aB "fbbcal2cm+bdaa,+pn3lcabbd2dae3i"
def QU:ax 0 165 QT:=aA
def QV:au:=aB "xecicLjal2fm+b,am+bZbm+bbcm+bbdp+bbaaK3lcaebkecfucbmeLgeLhuLcopqddabYbbncbqcbebsd+cDdlrthuahub2afLiv2kaw3i"
def QW:ax 0 168 QV:=aA
def QX:au:=aB "qebial2fm+b,a2jaK3dleceadd+dCcjkabacJlcmnooK3epl2jaK3ial2jaM3i"
def QY:ax 0 169 QX:=aA
def QZ:au:=aB "ibbdal2eaL3laagebbsfg2eah3i"
def R0:ax 0 170 QZ:=aA
def R1:au:=aB "GdcgcLhalm+bVb2hp+bbaaK3l2oedeacd+bucno2nap2rhmahmb2jp+bba2afLiqar3dl2tajssK3etlqaaaj2afLgu2iav3ial2yedeacd+cfcxy2xay2Bhwahwb2laza,B3l2Daaakd+dDczy3leLi2afLgy2iaK3i"
def R2:ax 0 171 R1:=aA
def R3:au:=aB "Fccecdfal2dm+cYam+bbbp+bVdaK3l2kcacbjeLdcbcbmdVdkln2jao2qhiahib2hp+bVd2afdgpaq3dl2sahsrKas4OcagbusvVaw4XcagbysyX4OlxyL4altOy3eylqda2afdey2ga03ial2Fedg2afdey2gaK3i"
def R4:ax 0 172 R3:=aA
def R5:au:=aB "Xdcgahal2haKaL3l2naagm2jan3l2pai2kaKao3dfagdl2qajakopq3erahafblajakkstwhuIv,+oWwdw2max3l2zacaaalibzybyabJDczyoyK3eybalkyM2kay3b2Jal2lay3l2Kajajaiozyay4+bkacaaajibzybyabJDczynyK4alGyL2ha,Ja,W3i"
def R6:ax 0 173 R5:=aA
def R7:au:=aB "ubbcal2cm+bVaaN3laN3dl2hcbbbgghaK3fagloji3dekahadfblichjecl2gp+bZg2afcfm3b2oadcafboFbbpBbynq2ear3b2tkjM2kas3l2uad2dat3i"
def R8:ax 1 174 R7:=aA
def R9:au:=aB "ncbeal2faK3dfal2haaabd+dEcgh2gai3efl2faW3il2labaad+dEckl2kam3ejl2faM3ial2faK3i"
def Ra:ax 0 175 R9:=aA
def Rb:au:=aB "pcceafal2faNaK3laaaaghd+cQbid+dGcgjabd+dFcklhmahmb2fanao3i"
def Rc:ax 0 176 Rb:=aA
def Re:au:=aB "+bydbgal2haN3l2laaabtbkblaa3lacgn2iao3dl2qahnpK3eqlaa2har3ial2taags2jat3dl2vabainuv3ewlaaacBbyxy2hay3iadl2BaiahkzyaaSyvAy3eylaaabtbzabyaaiahkzyabAzyXbynDy2kay3l2QajabtbzbyaaacEbzy3dcajabahkzytbBbyaaaaabtbzbyaaEbBy3laj2hay3ial25aaaiahkzytbBabya2bay3dl2:acaaabahkzytbBbyaaYDyrcy3eydcaaabahkzytbBbyaaaaabtbzbyaaEbBy3laaabtbzbyaaacEbzy3laa2hay3ial2+boaaaitbzbyaaacEbzy3laaabtbzbyaaahd+dIczy3laa2hay3i"
def Rf:ax 6 177 Re:=aA
def Rg:au:=aB "Bcbeal2dm+bVa2faK3laK3dfagdlafkgMcccbigjohkal4BabcccboafkqMiLprcKsbtd+dEcnurcv4almwL3exahafbbafkyM2gay3l2Baf2fay3i"
def Rh:ax 0 178 Rg:=aA
def Ri:au:=aB "pcceafal2faNaK3laaaaghd+cQbid+cPcgjabd+cOcklhmahmb2fanao3i"
def Rj:ax 0 179 Ri:=aA
def Rk:au:=aB "+dlebial2jaN3l2qaaabactLpbqbra3dlabacntu3evlaaabadd+dJdwxy2jay3iadl2BacaagynAy3eylaaabtLzabyaadBL+bXzy2kay3dl2KajgyaagyoAy3eybaaajgytLAbyaa2aZLay3alaj2jay3iadc2UaaabtLzabyagyadgykAyaaactLzbyaagykCy2lay3dl26akaaSyvAy3eylaaabtLzabyaakabAzyXL+bXaBy2may3l2+a+alabtLzbyaaadELzy3dcalabadgykAytLCbyaaaaactLzbyaaELBy3lal2jay3ial2+boaaaktLzabya2nay3dl2+brabadgykAyacCzy3eylamabtLzbyaaadELzy3dcamabadgykAytLCbyaaaaactLzbyaaELBy3laaaktLzbyaa2aZLay3lam2jay3iadl2+bQamabadgykAytLCbyaaadYzyrcy3eydcamabadgykAytLCbyaaaaactLzbyaaELBy3lamabtLzbyaaadELzy3lam2jay3ial2+b?adgyacabAzyABy2oay3dl2+ccamabactLAbzbyaadYzyrcy3eydcamabactLAbzbyaadantLzbyaaELBy3dcamaagytLAbyaaadantLzabyaELBy3lamabtLzbyaaand+dLczy3lam2jay3iadl2+cFamaagytLAbyaaadYzyrcy3eydcamaagytLAbyaaadantLzabyaELBy3dcamabactLAbzbyaadantLzbyaaELBy3lamabtLzbyaaand+dLczy3lam2jay3ial2+c8adaaactLzbyaad+dMcBy2pay3l2+c=amabtLzbyaaadELzy3dcamabadgykAytLCbyaaamabaokzytLBbyaaELDy3lam2jay3i"
def CP:ax 6 180 Rk:=aA
def Rl:au:=aB "pccecLfal2dm+cYa2fp+bbaaK3lcacbgabqdcabXcbicbcbkd+cDdhjlhmahmb2afLen2gao3i"
def Rm:ax 0 181 Rl:=aA
def Rn:au:=aB "Gcceafal2faNaK3laN3dl2maaglaK3faglonm3deoahadfbliblnbp2jaq3l2tabaiJsbt2sau2whrahrb2kp+bba2afLjvaw3dl2yaksxK3eylak2faNa,z3iab2BageLjFLbyBL+bXAy2hay3b2FknM2oay3l2Gag2fayaK3i"
def Ro:ax 1 182 Rn:=aA
def Rp:au:=aB "Ncbeal2faN3laN3dl2jabaK3fagloji3dekahadfblaj2hal3l2naagmabagAopMnq2iar3dl2taagsabagAuvLtwvxK3eybahkyM2iay3al2CafaaahDLzabyd+dNbyubbyxbyDy2gay3b2JaaahDLzbya2bay3b2MkjM2kay3l2Naf2fay3i"
def Rq:ax 0 183 Rp:=aA
def Rr:au:=aB "hbbcalaK3laakdRAeMMfR2dag3i"
def Rs:ax 0 184 Rr:=aA
def Rt:au:=aB ">dcgcLhal2em+b,a2hp+bbaaK3dl2nabgmnnK3eolqaa2afLgp2iaK3ial2rabd+dObq2car3l2tabecdacd+dCctud<csv3labgxMyT2jay3dk2CecdabaitbzabyaackyMd+cRdDAy2Bay2JhyahGb2kp+bba2afLj,Ia,J3naaabaacaadaaeaafaagbkahaaiaajaakaalaamaadl2LaksyK3eylqaaak2afLgz2iay3iadk2QecdabaikyMtbAbyaaackyMd+cRdEAy2Pay2YhyahHb2mp+bba2afLl,X2la,Y3oaaabaacaadaaeaafaagaahblaiaajaakaalaamaanaadl20aksyK3eylqaaak2afLgz2iay3iadc24ecdabaiibzybyqgcabybbOeLjeLld+cAeFAzyhyahzb2afLgz2iay3i"
def CQ:ax 6 185 Rt:=aA
def Ru:au:=aB "lbbccdl2cm+bVap+c5h3dkcabbdneVedbd+cGbgccbbiqhdabfbbhcbj2afdck3jaaabaacaadaafaagaaeacbghaaiaai"
def Rv:ax 0 186 Ru:=aA
def Rw:au:=aB "Hdbgal2haN3l2jaaabacaagltbibjbkbm3dlabacnop3eqlaa2har3ial2taags2iat3dc2vaaabtbuabvaaaactbxbyaaBbywy2bay3l2CaaaagyahtbBbzbya2aZbny3laa2hay3i"
def Rx:ax 6 187 Rw:=aA
def Ry:au:=aB "+bfeciajal2fm+cYa2im+c5daNaK3dl2uedhd+dPbtrcu3evl2yeceedhd+bTcxy2xay2Bhwahwb2lp+bba2afLk,Aa,B3l2DabaceLkiLAz2afLyz3labal2jaza,H3ial2JacAyMNbdyK2nay3l2Mam2oay3dl2NacnyK3eyb2oaM3adk2QeceabaniLzyeLyd+cEcCy2Pay2WhyahFb2pp+bVd2afdo,Va,W3maaabaacaadaaeaafbjagaahaaiaajaakaalaadl2YapsyK3eylap2jaNa,Z3iadk21edod+cSbyedh2rp+c5hp+c5h2afdq,12afdr,23haaacaabcdebcdbeaeaafabcgaadl24acnyK3eykedhedod+cSby2afdqA2afdry3faaabaacabadaaeaaal2:eceedqedrd+dQdAzy29ay2>hyahDb2taz2qa,>3dl2*apsyK3eylap2jaNa,+a+3ial2+baabamamkyTasd+cMeCBzy2jayaK3i"
def Rz:ax 1 188 Ry:=aA
def RA:au:=aB "tcbeal2faK3dl2haaggaK3fagloih3dejahadfblai2gak3l2mabaaafibmnboJlbp3eqlaf2far3iab2tkiM2jas3l2faW3i"
def RB:ax 0 189 RA:=aA
def RC:au:=aB "gbbcalaL3laaaasde2daf3i"
def RD:ax 0 200 RC:=aA
def RE:au:=aB "kcbeal2faL3laad+dXbfabd+dXbhd+dWcgi2faj3i"
def RF:ax 0 201 RE:=aA
def RG:au:=aB "hbbcalaN3laad+bcbdibeKbf2dag3i"
def RH:ax 0 202 RG:=aA
def RI:au:=aB "JbbcalaN3l2iaaMhR2eai3dl2kadGRjaaokl3embadknM2eao3alaN3dlaK3fagdl2qafadopq3erahadfbl2vaaadMuv2haw3dl2yafaaadLzyoxy3eybagkyM2hay3ab2FaeagubbyxbiAy2fay3b2tafksM2gat3l2Jae2day3i"
def RJ:ax 0 203 RI:=aA
def RK:au:=aB "Dbbeal2faL3dccabbfaaibghbicbcbkaaiblmbnCjoap4JcacbraaibstbucbbbwaaibxybyCvy4alqyL2fay3i"
def RL:ax 0 204 RK:=aA
def RM:au:=aB "lbbcalaL3laagdzeMaf4paaghCiQ4algjL2dak3i"
def RN:ax 0 205 RM:=aA
def RO:au:=aB "ucbeccl2fp+bNb3laN3dl2iaaaK3fagloih3dejahadfblai2hak3b2mafabagJmbnubboxbilp2gaq3b2skiM2jar3l2tafd+dYbs2afcet3i"
def RP:ax 0 206 RO:=aA
def RQ:au:=aB "ubbeal2faS3dcbbaaibfgbhcacbjaaibklbmcbcboaaibpqbrd+c>dins2fat3i"
def RR:ax 0 207 RQ:=aA
def RS:au:=aB "vdbgal2haS3dfal2jaaaboij2iak3ehl2maaabd+dZclm2han3il2qaaacvpq2par3eol2taaacd+dZcst2hau3ial2haS3i"
def RT:ax 0 208 RS:=aA
def RU:au:=aB "Lcceccfal2dmCa2fp+bNbaK3dledcabghd+bkcgircj3eklqba2afcel2gaM3iadl2ncacbm3fal2qnnV2pap3eol2rabcbcbribqsbtd+b<bu2afcev2gaK3il2ynnX2xax3ewdc2zabDbybMacccbyd+d1cAyhyahzb2afcez2gay3ial2GabcbcbyibAybyd+b;by2afcey2gaK3i"
def CR:ax 0 210 RU:=aA
def RV:au:=aB "uebial2fm+bNa2hm+bNc2jaL3dl2leceecgd+bqckl2kam3l2oajsnK3eolajopK2jaq3ial2sabadors2jat3i"
def RW:ax 0 211 RV:=aA
def RX:au:=aB "ibbcalaN3dlaaQad3eel2daN3ial2gubaaaxbbfg2dah3i"
def RY:ax 0 212 RX:=aA
def RZ:au:=aB "Scceafal2faNaL3dl2iaajhcbibjnkKal4Babaajocapbqgrvns4almtL3eubaad+dbcv,+oR3adlaajxcbybysyK3eyl2faNaL3ial2DaajycaybyabDbzaby2hay3l2JaaaajycaybyabDbzbyajEcay2afbyA3lag2fayaO3i"
def S0:ax 0 213 RZ:=aA
def S1:au:=aB "ncal2faajecbfbgnhK3eibaaabjjcbl2afbmk3a"
def S2:ax 0 214 S1:=aA
def S3:au:=aB "EbbcalaK3l2kaad+dacjQ2jak2mhiahib2ealam3dl2oaercn3eol2daK3ial2gaS3dl2qadgpaK3faglorq3desahadfblibprbt2iau3b2wafTv7ahwhxUwy2gay3b2BkrM2say3l2CafKy:wdy2day3i"
def S4:ax 0 215 S3:=aA
def S5:au:=aB "pbbccGlp+a,j3lp+a,j3l2iaad+dach,+oX2hai2khgahgb2fajak3l2m1lae1m3leGd2afGco3i"
def S6:ax 0 216 S5:=aA
def S7:au:=aB "Mcbeal2faK3l2kaad+dacjU2jak2mhiahib2galam3dl2oagrcn3eol2faK3iadc2qafibpKbqwdrTs=afibuMbvwdwTx7UtyafibyTbywdyUCy2iay3dl2GahabNady9vAy3eylaad+dbcy83l2faK3ial2Mah2fay3i"
def S8:ax 0 217 S7:=aA
def S9:au:=aB "jcbealm+elbaL3laaH+d3abdd+d2cfgrch2fai3i"
def Sa:ax 0 218 S9:=aA
def Sb:au:=aB "jbbdalm+bZaaL3lcacbegfbbngh2eai3i"
def Sc:ax 0 219 Sb:=aA
def Sd:au:=aB "jcbealm+bRbaL3laaH+d5abdd+d4cfgrch2fai3i"
def Se:ax 0 220 Sd:=aA
def Sf:au:=aB "hbbdalm+bbaaL3leLcbbd+cvcef2eag3i"
def Sg:ax 0 221 Sf:=aA
def Sh:au:=aB "hbbcal2cm+bbaaL3lcKbbdgenfK2dag3i"
def Si:ax 0 222 Sh:=aA
def Sj:au:=aB "fbbcal2cm+bZaaL3lcbbbd2dae3i"
def Sk:ax 0 223 Sj:=aA
def Sl:au:=aB "obbdalm+bbaaL3lcKcbegfbbnghai4veLcd+bMbkrcl4aljmL2ean3i"
def Sm:ax 0 224 Sl:=aA
def Sn:au:=aB "icab2faaabubbfd+d6deOg3"
def Sp:ax 0 225 Sn:=aA
def Sq:au:=aB "jcadl2fab3eelaad+dmcfY3iabaad+dmchZ3"
def Sr:ax 0 226 Sq:=aA
def Ss:au:=aB "Bcadl2habggvh,+pq3eilaajjcbk2afbl83ialaaabgnweod+dmcmp3labgraK3faglots3deuahadfblibrtbv2gaw3b2yaaafd+d7cxy3bktM2uay3"
def St:ax 0 227 Ss:=aA
def Su:au:=aB "hcal1n3baa1od+d6deOf3"
def Sv:ax 0 228 Su:=aA
def Sw:au:=aB "vcab2faaabzfKag4rabCi94alhjLabIl=wemabIo7wepabwerubdnqsd+d6dekt3"
def Sx:ax 0 229 Sw:=aA
def Sy:au:=aB "nbbcalaN3dlaajdcbebfsgK3ehl2daN3ial2jaajicajbkd+c,bl2dam3i"
def Sz:ax 0 230 Sy:=aA
def SA:au:=aB "hbbcalaK3laajdcbebf2dag3i"
def SB:ax 0 231 SA:=aA
def SC:au:=aB "kbbccGlp+a,j3l2fd+d8a2eae3l2gadaad+d9cfg3ladd+d:bi2afGcj3i"
def SD:ax 0 232 SC:=aA
def SE:au:=aB "gbbcalaN3laaubbdd+d;c,+pre2daf3i"
def SF:ax 0 233 SE:=aA
def SG:au:=aB "scbeal2faS3dlaaabvfg3ehlaawhiabwhkAjl2fam3ial2oabwhnaawhpAoq2far3i"
def SH:ax 1 235 SG:=aA
def SI:au:=aB ">bbccclp+bNb3l2kFbeSSSS2eaj3dlaK3fagdl2laeaaglokm3enahadfbdc2raaaeibqrbsLt6aaaeibvwbxMy6FbeuySS2gay3laS3laK3fcgdl2CahoyR3eyahcdfddc2GadahibzybyafahibzybykCyagkzy2jay3l2RadahaiLy6ibBA2afbyz3baiMy62hay3b2EahkyM2iay3b2paekoM2fap3dc2YadibyTbyadibyUbyG6ykCyadibyKbyadibyMbyG6ykCyqbcabGbby2afccy3i"
def SJ:ax 1 236 SI:=aA
def SK:au:=aB "Xdcgahal2haKaL3l2naagm2jan3l2pai2kaKao3dfagdl2qajakopq3erahafblajakkstwhuIv,+oWwdw2max3l2zacaaali+bfzye+bfyabJDczyoyK3eybalkyM2kay3b2Jal2lay3l2Kajajaiozyay4+bkacaaaji+bfzye+bfyabJDczynyK4alGyL2ha,Ja,W3i"
def SL:ax 0 237 SK:=aA
def SM:au:=aB "lcbfalm+bda2gaK3lbce+bfdJgbhabd+dAcij2gak3i"
def SN:ax 0 238 SM:=aA
def SO:au:=aB "ucbeal2faK3l2iaad+d=bh2gai3l2kabd+d=bj2hak3dl2maf3eldlag3eml2faK3ial2faW3iadl2oag3enl2faM3iadl2paaaboop3eql2faW3iadl2saaabvrs3etl2faM3ial2faK3i"
def SP:ax 0 239 SO:=aA
def SQ:au:=aB "lcbeal2dm+b,a2fa,+ps3l2habcbcbhLgi2gpdx2afbfj3l2lH+d?abf2fak3i"
def SR:ax 0 241 SQ:=aA
def SS:au:=aB "2cbecGl2fp+a,j3l2jabd+chbi2gp+a,j2afGfj3ddc2maajlcambneGf1p2laq2shkahkb2haras3fal2vahrcu2uav3etk2xaajwcaxbyeGfabd+biby2a1q3iaaabaacaadaaeaafaagacdehaal2Faajycdybyrcyay4+bcagabd+d*czyrcy4alCyL2Eay3eyb2Qaaaaaaagabd+bibyjDcby2afbyCjEccy2afbyCjFcdy2afbyO3aleGf2afGey3i"
def SU:ax 0 242 SS:=aA
def SV:au:=aB "6cbeal2faL3dl2kaagjd+d+bkrclam4Cabgoaagqspr4alnOs3etl2faL3ialaKaS3dl2vaaguaK3faglowv3dexahadfblaw2iay3dk2Aaaahibzybyd+d,byabahibzybyd+d,byKDy2jay3maaabaacaadaafaagaahaaiaaeabijaakaalaal2Lagaiozyay4+bkagagaiKzyoBy4alDyL3eybahai2gaza,V3ab2XkwM2xay3dc2YaaafibzybyabafibzybyoCy2fay3i"
def SX:ax 0 243 SV:=aA
def SY:au:=aB "Gcceafal2faNaK3laN3dl2maaglaK3faglonm3deoahadfbliblnbp2jaq3l2tabaiJsbt2sau2whrahrb2kp+bba2afLjvaw3dl2yaksxK3eylak2faNa,z3iab2BageLjFLbyBL+bXAy2hay3b2FknM2oay3l2Gag2fayaK3i"
def SZ:ax 1 244 SY:=aA
def T0:au:=aB "Ncbeal2faN3laN3dl2jabaK3fagloji3dekahadfblaj2hal3l2naagmabagAopMnq2iar3dl2taagsabagAuvLtwvxK3eybahkyM2iay3al2CafaaahDbzabyd+dObyubbyxbyDy2gay3b2JaaahDbzbya2bay3b2MkjM2kay3l2Naf2fay3i"
def T1:ax 0 245 T0:=aA
def T2:au:=aB "ibbcalaN3dlaaQad3eel2daN3ial2guLaaaxL+bXfg2dah3i"
def T3:ax 0 252 T2:=aA
def T4:au:=aB "ibbcalaN3dlaaQad3eel2daN3ial2gubaaaxbyfg2dah3i"
def T5:ax 0 253 T4:=aA
def T6:au:=aB "ibbcalaN3dlaaQad3eel2daN3ial2gFbaaaBbyfg2dah3i"
def T7:ax 6 253 T6:=aA
def T8:au:=aB "lbbcal2cm+c5aaL3lcbbbdgeccbbgghkfiojT2dak3i"
def T9:ax 0 254 T8:=aA
def Ta:au:=aB "Gdcgahal2em+cYam+c5bm+c5caNaK3dlcaebi3ejdkcbebkcbfbmubclnd+ecboecdH+bNbqad+cIcprhsahsb2hatau3naaabaacaadaagaahaaeaafabgiaajaakaalaamaaiadk2wccebvccfbxubcwyd+edbyecdH+cNbyad+cLcAyhyahzb2haza,F3naaabaacaadaagaahaaeaafabgiaajaakaalaamaai"
def Tb:ax 0 255 Ta:=aA
def Tc:au:=aB "ucbeal2faL3dlaagfabghsgi3ejlaagkabgmoln2fao3ial2qaa0pab0roqs2fat3i"
def Td:ax 0 261 Tc:=aA
def Te:au:=aB "gbbcalaN3laad+egbdd+efbe2daf3i"
def Tf:ax 0 262 Te:=aA
def Tg:au:=aB "rbbccclp+bNb3lp+bNb3dl2haaggaK3fagloih3dejahadfblibgibk2gal3b2necdafd+ehcmn2afcdo3bkiM2jap3l2recd2afccq3i"
def Th:ax 0 263 Tg:=aA
def Ti:au:=aB "ocbeal2faS3laaabNbdfgwhhaaabNadjkwhlAim2fan3i"
def Tj:ax 0 264 Ti:=aA
def Tk:au:=aB "vcceccfal2dmyamybp+bNbaK3dlbcd+c;bgrchai4ubdgkbcgmsln4aljOo3eplqba2afceq2gaM3ial2sbcgrH+eiaccdd+c<cst2afceu2gaK3i"
def Tl:ax 0 266 Tk:=aA
def Tm:au:=aB "jcbeal2faL3laaabd+ejcfgzhK2fai3i"
def Tn:ax 0 267 Tm:=aA
def To:au:=aB "ibbdalm+bZaaL3lbbeccJebfrcg2eah3i"
def Tp:ax 0 268 To:=aA
def Tq:au:=aB "jcbeal2faL3laaabd+ekcfgzhK2fai3i"
def Tr:ax 0 269 Tq:=aA
def Ts:au:=aB "ibbdalm+bbaaL3lbbeLcJebfrcg2eah3i"
def Tt:ax 0 270 Ts:=aA
def Tu:au:=aB "udadl2habrcg3ehlaajicbj2afbk83iabaaaajmcanboacxbbpqjlcas2afbtr3"
def Tv:ax 0 271 Tu:=aA
def Tw:au:=aB "tcal2habwhgKh:2fai3la,+oO3fagdl2kafzjK3ekahadfbb2oaaaeafIopweqd+dmcnr3b2mafAlQ2gam3"
def Tx:ax 0 272 Tw:=aA
def Ty:au:=aB "eabaal2baP3ld+elaqybaibm+e+c2bad3i"
def Tz:ax 0 273 Ty:=aA
def TA:au:=aB "Zcadl2gaajfcjgbhniS3ejbaad+elajkcam2afinl3alaajocjpbqabgswhtkrujocjw2afbxv3lubaaajyciybyxbbCyabxbbzy2fay3dfagdl2Haegyzy33eyahafbdcaaaajycayeiyaeDbyab3d+emcAyjFcay2afiyA3baeDbyb3a2fay3b2Waaaejzciy2afbyA3"
def TB:ax 0 274 TA:=aA
def TC:au:=aB "+bmbbccGlp+a,j3l2jaajicajeik2ep+e>l2afidl3dl2naajmcjnbonpS3eqbd+ela2afidr3alubaaajtciubvxbbswubb,+ptxbbxy2fay3dfagdl2BaegyLy3sy,+oO3eyahafbbaeubbZxbbzy2fay3l2IaeaajycjybyG7yd+enbyxbbEy2fay3dfcgdl2QaegyvyK3eyahcdfdc2VeidaeDbyab3d+emcAy2afidy3b2TaeDbyb3a2fay3lp+a,j3dl2ZeidaK3fegloyQ3deyahedfflaz1r2haza,23b24agGRyagGRykyMagGRykyTagGRykyUahIy,+oYweyahIy=weyahIy7weyahweyybGf,42afbyHybGf,72afbyFybGf,:2afbyDybGf,=2afbyC3bk,ZM20ay3l2+bmeGf2afGcy3i"
def TD:ax 0 275 TC:=aA
def TE:au:=aB "Acbeal2faN3l2jaaubbi2gaj3dl2labgkaK3fagloml3denahadfblibkmbo2iap3b2rafahgrwhsd+enbtxbbquahxbbvw2gax3b2zkmM2nay3l2Aaf2fay3i"
def TF:ax 0 276 TE:=aA
def TG:au:=aB "gbbcalaL3laaaasde2daf3i"
def TH:ax 0 278 TG:=aA
def TI:au:=aB "wcbfal2gaK3ddc2iaabcibhibjabbciblmbnd+bZcko2hap3l2ragsqK3erlag2gas3ial2uaaabd>ctu2gav3i"
def TJ:ax 0 280 TI:=aA
def TK:au:=aB "kcbeal2faL3laa0fab0hngi2faj3i"
def TL:ax 0 281 TK:=aA
def TM:au:=aB "jbbcalaL3laazdMae4naaCgQ4alfhL2dai3i"
def TN:ax 0 282 TM:=aA
def TO:au:=aB "gbbcalaS3laawhdKe:2daf3i"
def TP:ax 0 283 TO:=aA
def TQ:au:=aB "KbbcalaN3laK3dl2kaagjaK3faglolk3demahadfblibjlbn2gao3l2qadafgqkpr2eas3l2uadotK3eubVj,+oZ2aWv3abklM2maw3l2yadd+ercNx2hay3dl2AaagyaK3fcgloyz3deyahcdfdlibBzby2jay3b2GagaiBbyzy2hay3b2Jk,BM2Cay3l2Kag2day3i"
def TR:ax 1 286 TQ:=aA
def TS:au:=aB "KbbcalaN3laK3dl2kaagjaK3faglolk3demahadfblibjlbn2gao3l2qadafgqkpr2eas3l2uadotK3eubVj,+oZ2aWv3abklM2maw3l2yadd+escNx2hay3dl2AaagyaK3fcgloyz3deyahcdfdlibBzby2jay3b2GagaiBL+bXzy2hay3b2Jk,BM2Cay3l2Kag2day3i"
def TT:ax 1 287 TS:=aA
def TU:au:=aB "GbbcalaN3laN3dlaK3fagdl2iaekh;aagjoik3elahadfbl2gaZ3dlaK3fcgdl2pagooQ3epahcdfdb2tafGVsaaaeagkvwibuxbykty2gay3b2ragkqM2har3b2CadafubbyxbbAy2eay3b2naekmQ2fan3l2Gad2day3i"
def TV:ax 0 289 TU:=aA
def TW:au:=aB "HbbcalaN3laN3dla,+pu3fagdl2iaezhK3eiahadfbl2gaK3fcgdl2mafaagmoln3eoahcdfdl2saaafibrsbtwhukv:2haw3b2yadagaewhyIAyLy,+pvweyubbyxbbxy2eay3b2qafkpM2gaq3b2kaeAjM2fak3l2Had2day3i"
def TX:ax 0 290 TW:=aA
def TY:au:=aB "ucbeccl2dm+bNa2fp+bNb3l2jcbcbiab1s2ial2nhhahhb2gaman3l2pcacboagkpqafqbcabrbbs2afcet3i"
def TZ:ax 0 291 TY:=aA
def U0:au:=aB "obbeal2faS3dcbbaaibfgbhbcaaibjkbld+dZcim2fan3i"
def U1:ax 0 292 U0:=aA
def U2:au:=aB "tcbeal2faK3dl2haaggaK3fagloih3dejahadfblai2gak3l2mabaaaficmnecoJlbp3eqlaf2far3iab2tkiM2jas3l2faW3i"
def U3:ax 0 293 U2:=aA
def U4:au:=aB "tcbeal2faK3dl2haaggaK3fagloih3dejahadfblai2gak3l2mabaaafiLmneLoJlbp3eqlaf2far3iab2tkiM2jas3l2faW3i"
def U5:ax 0 294 U4:=aA
def U6:au:=aB "cabacil2bp+e>l3lqliab,+pwbb,+pxcb,+pydb,+pzeb,+pAfb,+pBgb,+pChb,+pD2afiab3i"
def U7:ax 0 295 U6:=aA
def U8:au:=aB "+bYcbecil2dm+e>a2fp+e>l3dk2pabd+eubod+evaeic2gp+ffmp+ffmp+e>l2af<fp2af<gq2afihr3kaaadaabdefgbdcdefgbdecfgafbgagaahabdiabdjaadl2taK3faglos33detahadfblas2jau3dk2wybihRbvd+ewcw,+pEybihRbyd+ewcy,+pFKxyybihRbyd+ewcy,+pGKBy2kay3maaabaadaaeaahaaiaacaceifabigaajaakaalaadc2Hybih;byajkzyybihRbyybih>byOAyybihRbyrbyybih4byOAyKEyk,Jyaiyb<gybykByaiyb<fybykBy2lay3dk26ybihKbyd+ewcy,+pHybihKbyd+ewcy,+pIKByybihKbyd+ewcy,+pJKBy2may3maaabaadaaeaahaaiaacaceifabigaajaakaalaal2+a+alybihKbyybihMbyOAyybihKbyybihTbyOAyKDyybihMbyybihTbyOAyKDyk,*y2nay3b2+brakamkzyybihKbyybihMbyybihTbyybihUbyakkzyybihRbyybih>byybih4byqliab,+bsbb,+bucb,+bwdbIebEfbCgbAhby2afihy3bksM2tay3dl2+bMaK3fcgloyQ3deyahcdfdlaz2oay3c2+bPanybihybyanybicybykByybihE2afbyz3bkIM2+bMay3l2+bYeih2afiey3i"
def U9:ax 0 296 U8:=aA
def Ua:au:=aB "rbbcalaN3laN3dla,+oO3fagdlaezfK3egahadfbb2kadaaaeIklwemubbnxbbjo2eap3b2iaeAhQ2fai3l2rad2daq3i"
def Ub:ax 0 297 Ua:=aA
def Uc:au:=aB "Bcbeal2faN3dlabofK3egbVj*2aWh3adlabaaSjaaglAkmAin2cao3l2qabvpK3eqbaaaaSstbrabtaabXbynuvaagxtbwabya2bay3al2Baa2fay3i"
def Ud:ax 6 301 Uc:=aA
def Ue:au:=aB "Bcbeal2faN3dlabofK3egbVj*2aWh3adlabaaSjaaglAkmAin2cao3l2qabvpK3eqbaaaaSstLrabtaabXL+bXauvaagxtLwabya2bay3al2Baa2fay3i"
def Uf:ax 6 302 Ue:=aA
def Ug:au:=aB "+bwbbcc<lp+ffm3lp+ffm3dl2laK3faglok<3delahadfblak2fam3c2oaeaaaeGRpiboqbrwgsTt,+oYaaaeGRwkxMibvybywgyTy=UuyaaaeGRykyTibBybywgyTy7UGyaaaeGRykyUibBybywgyUFyyb<dn2afbyz3bkkM2lay3dl2ga<3fcgdl2Yafoy33eyahcdfddc22afAy,+pKyb<dybyafAyTyb<dyby2haCa,83l2:agd+ewcy,+pLagd+ewcy,+pMKAyagIy,+pNKAy2jay3l2+a,ahd+ewcy,+pOahd+ewcy,+pPKAyahIy,+pQKAy2kay3c2+bhafafAy<yb<dybyaikzyafAy;yb<dybykCyajkzyyb<d,+bg2afbyz3b20afkyM2gay3l2+bwe<d2af<cy3i"
def Uh:ax 0 304 Ug:=aA
def Ui:au:=aB "cabac<l2bp+ffm3lqm<ab,+pRbb,+pScb,+pTdb,+pUeb,+pVfb,+pWgb,+pXhb,+pYib,+pZjb,+p0kb,+p1lb,+p2mb,+p3nb,+p4ob,+p5pb,+p6qb,+p7rb,+p8sb,+p9tb,+p:ub,+p;vb,+p<wb,+p=xb,+p>yb,+p?zb,+p*Ab,+p+Bb,+p,Cb,+qaDb,+qbEb,+qcFb,+qdGb,+qeHb,+qfIb,+qgJb,+qhKb,+qiLb,+qjMb,+qkNb,+qlOb,+qmPb,+qnQb,+qoRb,+qpSb,+qqTb,+qrUb,+qsVb,+qtWb,+quXb,+qvYb,+qwZb,+qx0b,+qy1b,+qz2b,+qA3b,+qB4b,+qC5b,+qD6b,+qE7b,+qF8b,+qG9b,+qH:b,+qI;b,+qJ2af<ab3i"
def Uj:ax 0 305 Ui:=aA
def Uk:au:=aB "rcbeal2fa,+qK3l2habwhgOh,+qL2gai3l2kaaafTjkaaafA5nImoUlp2faq3i"
def Ul:ax 0 306 Uk:=aA
end Go.Proofs.YtgchlmdfldnhnaaGreat
