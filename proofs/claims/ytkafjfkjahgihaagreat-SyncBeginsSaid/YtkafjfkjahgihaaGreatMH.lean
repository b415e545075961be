import Derived.Test.YtkafjfkjahgihaaGreatMG
import Derived.Test.YtkafjfkjahgihaaGreatMF
import Derived.Test.YtkafjfkjahgihaaGreatMB
import Derived.Shelf.SlSortCmp.NoneTotal
import Derived.Shelf.SlLaysF
import Derived.Test.YtkafjfkjahgihaaGreatProg
import Derived.Test.YtkafjfkjahgihaaGreatME
import Derived.Test.YtkafjfkjahgihaaGreatMD
set_option linter.all false
open Option renaming some->β,none->ε
open Go.Proofs.Tryz renaming prog->γ
open List renaming replicate->δ,take_of_length_le->Γ,length->α
open Bool renaming true->ζ,false->θ
open Go.bD.U renaming a1->η,ad->ι,ae->κ,aj->μ,an->ξ,ao->ο,set_set->ς,aI->τ,bJ->Ι
open UInt8 renaming ofNat->ν
open Go.bD.R renaming cells->ρ
open Go.Proofs.YtkafjfkjahgihaaGreat.isRow renaming cells->υ
open Go.Proofs.YtkafjfkjahgihaaGreat.Ext renaming of->ψ
open Prod renaming fst->Α
open Go.Proofs.YtkafjfkjahgihaaGreat.aC renaming size->Ζ
open Go.Proofs.YtkafjfkjahgihaaGreat.bC renaming cells->Κ
open Go.Proofs.YtkafjfkjahgihaaGreat.ai renaming new->Λ
open Go.bD.bf renaming nil->Ν
set_option maxRecDepth 100000
namespace Go.Proofs.YtkafjfkjahgihaaGreat
open Go Go.bD
def ho(c:ai->Nat->au->List Υ->Int×List Υ)(d:ai):List aK->List Υ->Int×List Υ
 |[],b=>(0,b)
 |a::h,b=>if 8<α a.aE+1 then(1,b)else if(iy (c d (α a.aE+1)) [a.bq,a.bu] b).1=0 then ho c d h (iy (c d (α a.aE+1)) [a.bq,a.bu] b).2 else iy (c d (α a.aE+1)) [a.bq,a.bu] b
def mV(a:aK):Nat:=cB a.bq+cB a.bu
def a3Z:(δ 32 (R.v (.int .u8 0))++[R.J [] .nil,.J [] .nil]++[R.v (.int .i64 0),.v (.int .i64 0)]++[R.J [] .nil]++δ 32 (R.v (.int .u8 0))++[R.J [] .nil,.J [] .nil]++[R.v (.int .i64 0),.v (.int .i64 0)]++[R.J [] .nil]).length=74:=acr
def a4a(M:Nat)(D:ai->Nat->au->List Υ->Int×List Υ)(k7:Gw M D)(k8:fH γ M=ζ)(E g:U)(p r F G:Nat)(h:ai)(i:bs g F G h)(q:G≠r)(W:List Υ)(j:eB E g p r W)(c:List aK)(k9:Ψ)(n4:Own)(l0:aB dJ c k9)(a43:α c<=1000)
  (s:∀a∈c,(a.bq≠aw->1<=a.bq.size)/\(a.bu≠aw->1<=a.bu.size)) (n5:α W+(c.map mV).sum<=1000000000):
  AC γ 73 [.ptr p 0,.ptr F 0,.J k9 n4,.bL M [] []] g λn9 d=>dC p r g d/\eB E d p r (ho D h c W).2/\n9=.v (.int .i64 (ho D h c W).1):=by
 have a47:=l0.len;refine aL hm Nn ?_;refine cd [0,1,3,15,16] (λb:Nat×List Υ=>[(17,.v (.int .i64 (b.1:Int)))]) (λb d=>b.1<=α c/\eB E d p r b.2/\dC p r g d/\bs d F G h/\α b.2+((c.drop b.1).map mV).sum<=1000000000/\ho D h (c.drop b.1) b.2=ho D h c W) (λb=>α c - b.1) (0,W) ⟨⟨a8M _,j,vu,i,n5,rfl⟩,aR⟩ ?_;rintro⟨L,y⟩ N ⟨a00,t,l,a01,l1,o⟩ a02
 dsimp only at a00 t l1 o|-
 refine aa ?_;refine aG (λa03=>?_) λa03=>?_
 .have O:L<α c:=acq;have l2:=drop_cons (a:=c) (b:=default) O;have l3:c[L]?=β (c.getD L default):=by simp[List.getD,O]
  have a04:=a8r l3;generalize c.getD L default=a at*;obtain⟨_,a48,T,rfl,u⟩:=l0.get l3;rw[l2,ho]at o;rw[l2,a8C,a9D,mV]at l1;have a05:=u.all;have s:=s a a04;obtain⟨a52,a06,_,a56,v,w,A,B,H,I,_,l4,l5⟩:=a05;obtain⟨l6,a07⟩:=u.k;obtain⟨l7,a08⟩:=u.z;have m:=(aT (M:=v) (e7:=w) (j0:=A) l6).len;have l8:=(aT (M:=B) (e7:=H) (j0:=I) l7).len;have a09:aQ ζ 37 (T.drop 2)=.agg (ab a.bq v w A):=by rw[aQ,if_pos rfl,l4]
  have a10:aQ ζ 37 (T.drop 39)=.agg (ab a.bu B H I):=by rw[aQ,if_pos rfl,l5]
  have a57:aQ ζ 76 T=.agg T:=by rw[aQ,if_pos rfl,a06]
  have a61:=@ς;refine aa ?_;refine bp λl9 a11=>?_;have P:=κ (Z:=.cells T) (η (f:=N)) a11;have cj:=μ N l9 (.cells T);have a62:=ι cj;generalize N.set l9 (.cells T)=n0 at*;refine bh (u1 a T u n0) ?_;refine aG (λbz=>?_) λbz=>?_
  .rw[if_pos acq]at o;rw[<-o];exact⟨_,η,l.trans (dC.of P),t.mono P,rfl⟩
  rw[if_neg acq]at o;have n1:=a3Z;have a13:=λd y (i:bs d F G h) (j:eB E d p r y) (Q:α y+cB a.bq<=1000000000)=>k7 E d p r F G h (α a.aE+1) y a.bq v w A acq acq i q j l6 (λ_=>a07) s.1 Q;have a14:=λd y (i:bs d F G h) (j:eB E d p r y) (Q:α y+cB a.bu<=1000000000)=>k7 E d p r F G h (α a.aE+1) y a.bu B H I acq acq i q j l7 (λ_=>a08) s.2 Q;generalize a15:ab a.bq v w A=x at*;generalize a16:ab a.bu B H I=z at*;generalize δ 32 (R.v (.int .u8 0))++[R.J [] .nil,.J [] .nil]++[R.v (.int .i64 0),.v (.int .i64 0)]++[R.J [] .nil]++δ 32 (R.v (.int .u8 0))++[R.J [] .nil,.J [] .nil]++[R.v (.int .i64 0),.v (.int .i64 0)]++[R.J [] .nil]=n2 at*;have a18:(putAt n2 0 x).length=74:=by simp[putAt,m,n1]
  have a19:putAt (putAt n2 0 x) 37 z=x++z:=by simp[putAt,m,l8,n1,a9J,aaS]
  have a63:(R.agg z).cells=z:=rfl;have a65:(R.agg x).cells=x:=rfl;have a68:(x++z).length=74:=by simp[m,l8]
  have a69:(x++z).take 37=x:=aam m;have a71:(x++z).drop 37=z:=aaH m;have a73:x.take 37=x:=Ο acq;have a74:z.take 37=z:=Ο acq;have a27:=a01.mono P;have a29:=t.mono P;refine aa ?_;clear a15 a16 a09 a10 l4 l5 a18 a19;refine cd [0,1,3,11,15,16,17,29] (λb:Nat×List Υ=>[(30,.v (.int .i64 (b.1:Int)))]) (λb d=>b.1<=2/\eB E d p r b.2/\dC p r n0 d/\bs d F G h/\α b.2+(([a.bq,a.bu].drop b.1).map cB).sum+((c.drop (L+1)).map mV).sum<=1000000000/\iy (D h (α a.aE+1)) ([a.bq,a.bu].drop b.1) b.2=iy (D h (α a.aE+1)) [a.bq,a.bu] y) (λb=>2 - b.1) (0,y) ⟨⟨acq,a29,vu,a27,by simp only[a9I,a8C,a9z,a9D,ab3];omega,rfl⟩,aR⟩ ?_;rintro⟨X,S⟩ n3 ⟨a30,e,Y,K,f,k⟩ a02
  dsimp only at a30 e f k|-
  generalize iy (D h (α a.aE+1)) [a.bq,a.bu] y=a81 at*;refine aa ?_;refine aG (λc2=>?_) λc2=>?_
  .rcases(by omega:X=0\/X=1)with rfl|rfl
   .have Z:α S+cB a.bq<=1000000000:=by simp at f;omega
    refine aa ?_;refine bp λa34 k3=>?_;have C:=κ (Z:=.cells x) (η (f:=n3)) k3;refine fm k8 (a13 _ S (K.mono C) (e.mono C) Z) ?_;rintro _ a36⟨n,V,k4,rfl⟩;have a38:=(K.mono C).fE (e.mono C) n q;have k5:=Y.trans ((dC.of C).trans n);rw[show [a.bq,a.bu].drop 0=a.bq::[a.bu]from rfl,iy]at k;generalize D h (α a.aE+1) a.bq S=res at*;obtain⟨a42,k6⟩:=res
    dsimp only at V k4 k|-
    refine aa ?_;refine aG (λaD=>?_) λaD=>?_
    .rw[if_neg aD]at k;subst k;rw[if_neg aD]at o;rw[<-o];exact⟨_,η,l.trans ((dC.of P).trans k5),V,rfl⟩
    .rw[if_pos aD]at k;exact⟨(1,k6),⟨acq,V,by have:=f;simp only[a9I,a9A,acd,a8C,a9z,a9D,ab3]at this|-;omega,k⟩,rfl,acq⟩
   .have Z:α S+cB a.bu<=1000000000:=by simp at f;omega
    refine aa ?_;refine bp λa34 k3=>?_;have C:=κ (Z:=.cells z) (η (f:=n3)) k3;refine fm k8 (a14 _ S (K.mono C) (e.mono C) Z) ?_;rintro _ a36⟨n,V,k4,rfl⟩;have a38:=(K.mono C).fE (e.mono C) n q;have k5:=Y.trans ((dC.of C).trans n);rw[show [a.bq,a.bu].drop 1=a.bu::[]from rfl,iy]at k;generalize D h (α a.aE+1) a.bu S=res at*;obtain⟨a42,k6⟩:=res
    dsimp only at V k4 k|-
    refine aa ?_;refine aG (λaD=>?_) λaD=>?_
    .rw[if_neg aD]at k;subst k;rw[if_neg aD]at o;rw[<-o];exact⟨_,η,l.trans ((dC.of P).trans k5),V,rfl⟩
    .rw[if_pos aD]at k;exact⟨(2,k6),⟨acq,V,by have:=f;simp only[a9I,a9A,acd,a8C,a9z,a9D,ab3]at this|-;omega,k⟩,rfl,acq⟩
  .obtain rfl:X=2:=acq;rw[show [a.bq,a.bu].drop 2=[]from rfl,iy]at k;subst k;rw[if_pos rfl]at o;exact⟨(L+1,S),⟨O,e,l.trans ((dC.of P).trans Y),by have:=f;simp only[a9I,a9A,acd,a9z,ab3]at this|-;omega,o⟩,rfl,by dsimp only;omega⟩
 .obtain rfl:L=α c:=acq;rw[aag,ho]at o;rw[<-o];exact⟨_,η,l,t,rfl⟩
def a4b(h:U)(k o:Nat)(b:ai)(x:bs h k o b)(a:List aK)(p:Ψ)(c:Own)(F:aB dJ a p)(G:α a<=1000)(L:∀d∈a,(d.bq≠aw->1<=d.bq.size)/\(d.bu≠aw->1<=d.bu.size))(P:(a.map mV).sum<=1000000000):
  AC γ 89 [.ptr k 0,.J p c] h λy S=>h.sub S/\((ho kn b a []).1=0->∃c,y=.aJ [.J ((ho kn b a []).2.map bo) c,.v (.int .i64 0)])/\((ho kn b a []).1≠0->y=.aJ [.J [] .nil,.v (.int .i64 (ho kn b a []).1)]):=by
 refine aL hm Nz ?_;refine ag (a0t _) ?_;rintro _ T⟨V,z,j,C,rfl,D⟩;have W:=x.mono D.sub;have e:o≠z:=by obtain⟨_,⟨_,_,f,_⟩,_⟩:=x.mp;rintro rfl;rw[f]at C;cases C
 refine aa ?_;refine ag (a4a _ _ a3O acw _ T V z k o b W e [] D a p c F G L (by simpa using P)) ?_;rintro _ l⟨m,E,rfl⟩;have n:=E.sub;obtain⟨⟨c,g,_⟩,_⟩:=id E;have fl:=ι g;generalize ho kn b a []=res at*;obtain⟨q,s⟩:=res
 dsimp only at*
 refine aa ?_;refine aG (λi=>?_) λi=>?_
 .exact⟨λr=>r.elim,λ_=>trivial⟩
 .exact⟨λ_=>⟨c,rfl⟩,λr=>r.elim⟩
abbrev kZ(a b:U)(c:List Υ)(d:R):Prop:=av a b 32 (flat (c.map bo)) d
variable{h5:List Υ}
def wb(c:∀a∈h5,α a=32):aW 32 (h5.map bo):=λa d=>by
 obtain⟨b,h,rfl⟩:=a8D.1 d;show(b.map ah).length=32;simp[c b h]
variable{w j8:Υ}
def s6(c:∀a∈h5,α a=32)(d:α w=32):∀a∈eK h5 w,α a=32:=by
 unfold eK;split
 .exact c
 .intro a h;rcases a8u.1 h with b|b
  .exact c a b
  .obtain rfl:=a8B.1 b;exact d
def A5(E o:U)(a:List Υ)(F:R)(h:kZ E o a F)(x:∀d∈a,α d=32)(b:Υ)(p:α b=32)(v:α a<=1000000000):
  AC γ 90 [F,bo b] o λW e=>kZ E e (eK a b) W:=by
 have w:(b.map ah).length=32:=by simp[p]
 have A:aQ ζ 32 (b.map ah)=bo b:=by rw[aQ,if_pos rfl,Ο acq];rfl
 have G:(bo b).cells=b.map ah:=rfl;refine aL hm NB ?_;refine bp λf g=>?_;have i:=κ (Z:=.cells (b.map ah)) (η (f:=o)) g;have aD:=μ o f (.cells (b.map ah));have B:=ι aD;have h:=h.mono i;have L:=bS.dA h acq rfl (wb x);have j:=L.len;rw[a8o]at j;refine gX [0,3] (λc:Nat=>[(5,.v (.int .i64 (c:Int)))]) (λc=>c<=α a/\b∉a.take c) (λc=>α a - c) 0 ⟨a8M _,acr⟩ aR ?_;rintro c⟨H,y⟩I;refine aa ?_;refine aG (λk=>?_) λk=>?_
 .have z:c<α a:=acq;have l:=fa (a:=a) (b:=[]) z;have P:a[c]?=β (a.getD c []):=by simp[List.getD,z]
  have S:=a8r P;generalize a.getD c []=d at*;have C:=x d S;obtain⟨K,M,m⟩:=L.get c (bo d) (by simp[P]);have n:=m.ld _ η ζ 32 acq (by show 32<=(d.map ah).length;simp[C]);rw[show aQ ζ 32 (bo d).cells=bo d by rw[aQ,if_pos rfl,Ο (by show(d.map ah).length<=32;simp[C])];rfl]at n;have N:=λq=>q7 (I:=θ) (a:=q) C p;refine aa ?_;refine aG (λk=>?_) λk=>?_
  .subst k;exact⟨_,η,by rw[eK,if_pos S];exact h⟩
  .exact⟨c+1,⟨z,by rw[l,a8u,a8B];exact λD=>D.elim y λD=>k D.symm⟩,rfl,acq⟩
 .obtain rfl:c=α a:=acq;rw[a8F]at y;refine aa ?_;refine eP (by simp[aW,G,p]) acr λO s=>?_;have t:=h.mono (κ (Z:=.cells (flat [bo b])) η s);have T:(flat (a.map bo)).length=α a*32:=by rw[cW (wb x),a8o]
  have r:(flat [bo b]).length=1*32:=by simp[flat,G,p]
  have u:flat (a.map bo)++flat [bo b]=flat ((a++[b]).map bo):=by simp[flat]
  refine aa ?_;refine eZ t acq (nR r) r (by rw[T,r];omega) (by rw[T,r];omega) λQ X V=>?_;rw[u]at V;refine aa ?_;rw[eK,if_neg y];exact⟨_,η,V⟩
structure ai.le(a c:ai):Prop where
 m:∀d b,a.m d=β b->c.m d=β b
 one:a.one=ζ->c.one=ζ
variable{H:ai}
theorem ai.le_refl:H.le H:=⟨λ_ _ a=>a,λa=>a⟩
theorem ai.le.trans{b c:ai}(d:H.le b)(h:b.le c):H.le c:=⟨λ_ _ a=>h.m _ _ (d.m _ _ a),λa=>h.one (d.one a)⟩
def ai.le.zero{a:ai}(c:H.le a)(b:a.one=θ):H.one=false:=by
 cases d:H.one with
 |false=>rfl
 |true=>rw[c.one d]at b;cases b
theorem lV(b:ai)(c:Υ):b.le (eS b c):=by
 unfold eS;split
 .rename_i a;refine⟨λd h k=>?_,λa=>a⟩;grind
 .split
  .exact⟨λ_ _ a=>a,λ_=>rfl⟩
  .exact ai.le_refl
theorem s7(a:(eS H w).one=θ):(eS H w).m (eb w)=β w:=by unfold eS at a|-;grind
variable{e i v O e0 j6:Nat}{c0:c4}
theorem s8(b:fL e c0=β (dF c0))(a:ai):dG a e c0=(.ok (dF c0),eS a (cY c0)):=by unfold dG;rw[b]
def gd(c:ai):(b:Nat)->a6.T b->Prop
 |0,a=>c.m (bQ 0 a).sum=β (cY (dH 0 a))
 |b+1,a=>c.m (bQ (b+1) a).sum=β (cY (dH (b+1) a))/\∀d∈a6.kids a,gd c b d
def gd.mono{c d:ai}(b:c.le d):∀ {a:Nat}{h:a6.T a},gd c a h->gd d a h
 |0,_,a=>b.m _ _ a
 |_+1,_,a=>⟨b.m _ _ a.1,λk o=>gd.mono b (a.2 k o)⟩
def gd.a4c:∀ {a:Nat}{b:a6.T a},gd H a b->H.m (bQ a b).sum=β (cY (dH a b))
 |0,_,a=>a
 |_+1,_,a=>a.1
def GD{a:a6.T e}:(dH e a).kind=if e=0 then 2 else 3:=by cases e<;>rfl
def a4d(c:1<=i)(d:i<=8){a:a6.T e}(h:dI i e a)(k:gd H e a):ei H i (bQ e a)=β (dH e a):=by have b:=(o0 c d e a h).1;unfold ei;rw[k.a4c];simp only;rw[Eo acq b.zp];simp only;rw[b.pd,tO,if_pos rfl]
theorem s9(b:1<=i)(c:i<=8){a:a6.T e}(d:dI i e a)(h:gd H e a):iR H i (bQ e a)=β (dH e a):=by simp_all [iR,a4d,GD]
theorem A6{r:Type}{b:List r->c4}{x:Nat}:∀(gs:List (List r))(c:ai)(h:List au),(∀a∈gs,fL x (b a)=β (dF (b a)))->
  ∃d,eC b x c gs h=(.ok (h++gs.map λa=>dF (b a)),d)/\c.le d/\(d.one=θ->∀a∈gs,d.m (eb (cY (b a)))=β (cY (b a)))
 |[],c,h,_=>⟨c,by simp[eC],ai.le_refl,λ_ a z=>by cases z⟩
 |a::gs,c,h,C=>by
  obtain⟨d,E,o,D⟩:=A6 gs (eS c (cY (b a))) (h++[dF (b a)]) (λp k=>C p (by simp[k]));refine⟨d,?_,(lV _ _).trans o,λy p k=>?_⟩;grind[eC,s8]
  .rcases a8E.1 k with rfl|k
   .exact o.m _ _ (s7 (o.zero y))
   .exact D y p k
structure Laid(a:ai)(h:Nat)(tl:List (a6.T h))(r:Except Int (List au)×ai):Prop where
 ok:r.1=.ok (tl.map (bQ h))
 le:a.le r.2
 ins:r.2.one=θ->∀c∈tl,gd r.2 h c
def GF{a:a6.T e}(b:a6.WF e a)(c:∀d∈a6.bd e a,bU i d)(h:(a6.bd e a).length<=1048576):dI i e a:=⟨a6.kb.of b,c,h⟩
theorem GG(o:1<=e)(p:e<=8)(h:ai)(a:List Τ)(r:1<=α a)(L:α a<=5)(x:∀c∈a,bU e c):Laid h 0 ((a6.chunks a).map a6.leaf) (pa h e a):=by
 have k:∀b∈a6.chunks a,1<=α b/\α b<=4/\∀c∈b,c∈a:=by
  by_cases y:α a=5
  .rw[a6.tE y];grind
  .rw[a6.qi r acq];grind
 obtain⟨P,z,C,D⟩:=A6 (a6.chunks a) h [] (λb d=>(vP o p (k b d).1 (k b d).2.1 (λc E=>x c ((k b d).2.2 c E))).pd);unfold pa;rw[z];refine⟨?_,C,λF S G=>?_⟩
 .rw[a8y,aae];rfl
 .obtain⟨b,d,rfl⟩:=a8D.1 G;exact D F b d
theorem A7(C:1<=i)(D:i<=8)(p:ai)(a:List (a6.T e))(f:2<=α a)(g:α a<=5)(E:∀d∈a,a6.WF e d)(j:∀F∈a.flatMap (a6.bd e),bU i F)(l:(a.flatMap (a6.bd e)).length<=1048576)
  (G:∀o,p.le o->o.one=θ->∀d∈a,gd o e d):Laid p (e+1) ((a6.chunks a).map a6.node) (kd p i (a.map (bQ e))):=by
 have r:∀b∈a6.chunks a,2<=α b/\α b<=4/\(∀d∈b,d∈a)/\(b.flatMap (a6.bd e)).length<=(a.flatMap (a6.bd e)).length:=by
  by_cases x:α a=5
  .rw[a6.tE x];simp only[a8E,a9n,or_false,forall_eq_or_imp,forall_eq,a8l,a8z];have L:a.flatMap (a6.bd e)=(a.take 3).flatMap (a6.bd e)++(a.drop 3).flatMap (a6.bd e):=by rw[<-a9a,a8K]
   grind
  .rw[a6.qi acq acq];grind
 have P:∀b∈a6.chunks a,dI i (e+1) (a6.node b):=λb h=>by
  obtain⟨m,n,d,L⟩:=r b h;refine GF (a6.hd.2 ⟨by rw[a6.dR];omega,by rw[a6.dR];omega,λc k=>E c (d c k)⟩) (λc k=>?_) (by rw[a6.fP];omega);grind[a6.fP]
 have S:a6.chunks (a.map (bQ e))=(a6.chunks a).map (List.map (bQ e)):=by by_cases x:α a=5;simp_all [a6.tE];grind[a6.qi,bQ]
 obtain⟨o,T,y,V⟩:=A6 (b:=ew) ((a6.chunks a).map (List.map (bQ e))) p [] (λb h=>by
  obtain⟨c,k,rfl⟩:=a8D.1 h;exact(o0 C D (e+1) (a6.node c) (P c k)).1.pd)
 unfold kd;rw[S,T];refine⟨?_,y,λz d W=>?_⟩
 .rw[a8y,aae,aae];rfl
 .obtain⟨b,h,rfl⟩:=a8D.1 W;exact⟨V z _ (a8D.2 ⟨b,h,rfl⟩),λc k=>G o y z c ((r b h).2.2.1 c k)⟩
variable{t b8:Τ}
theorem GH:mM t b8<0↔bF t b8=true:=by grind[mM]
theorem A8(b:1<=e)(c:e<=8)(d:bU e t)(h:bU e b8):mM t b8=0↔t=b8:=by
 unfold mM;constructor
 .intro a;split at a
  .omega
  .rename_i k;split at a
   .omega
   .rename_i o;exact(gx b c).total t b8 d h (by simpa using k) (by simpa using o)
 .rintro rfl;rw[tN];simp
theorem A9{y:Nat}(z:1<=y)(C:y<=8){c:List Τ}{k:Τ}(E:a6.js bF c)(r:∀d∈c,bU y d)(D:bU y k):∀(p h b:Nat),h<=b->b<=α c->b - h<=p->
  (∀a d,c[a]?=β d->a<h->bF d k=ζ)->(∀a d,c[a]?=β d->b<=a->bF d k=θ)->
  (∀a d,c[a]?=β d->a<mO c k p h b->bF d k=ζ)/\(∀a d,c[a]?=β d->mO c k p h b<=a->bF d k=θ)/\mO c k p h b<=α c
 |0,h,b,T,G,V,h1,L=>by
  obtain rfl:h=b:=acq;trivial
 |p+1,h,b,T,G,V,h1,L=>by
  rw[mO];by_cases W:h<b
  .rw[if_pos W];have hm:(h+b)/2<α c:=acq;have e:=Μ hm;rw[e];simp only;have P:=aa3.1 E;have S:=r _ (a8L hm);by_cases o:mM c[(h+b)/2] k<0
   .rw[if_pos o];have o:=GH.1 o;refine A9 z C E r D p _ _ acq G acq (λa d F f=>?_) L;by_cases he:a=(h+b)/2;simp_all
    .obtain⟨x,rfl⟩:=a8p.1 F;exact(gx z C).trans _ _ _ (r _ (a8L x)) S D (P a _ x hm acq) o
   .rw[if_neg o];have o:bF c[(h+b)/2] k=false:=by simp_all [absurd,GH]
    refine A9 z C E r D p _ _ acq acq acq h1 (λa d F f=>?_);by_cases he:a=(h+b)/2;simp_all
    .obtain⟨x,rfl⟩:=a8p.1 F;cases g:bF c[a] k with
     |false=>rfl
     |true=>have:=(gx z C).trans _ _ _ S (r _ (a8L x)) D (P _ a hm x acq) g;rw[this]at o;cases o
  grind
variable{X:List Τ}
theorem GI(c:1<=e)(d:e<=8)(h:a6.js bF X)(k:∀a∈X,bU e a)(o:bU e t):
  (∀b a,X[b]?=β a->b<fg X t->bF a t=ζ)/\(∀b a,X[b]?=β a->fg X t<=b->bF a t=θ)/\fg X t<=α X:=
 A9 c d h k o (α X) 0 (α X) acq (a8P _) acq (λb a _ p=>by omega) (λb a r p=>by
  simp_all)
theorem a4e(h:1<=e)(k:e<=8)(o:a6.js bF X)(p:∀b∈X,bU e b)(r:bU e t):X.take (fg X t)++t::X.drop (fg X t)=a6.ec bF X t:=by
 obtain⟨D,x,E⟩:=GI h k o p r;generalize fg X t=a at*;have y:∀b∈X.take a,bF b t=true:=λb z=>by
  obtain⟨F,G,rfl⟩:=a8S z;grind
 conv=>rhs;rw[<-a8K a X]
 rw[a6.yU y];congr 1;unfold a6.ec;cases C:X.drop a with
 |nil=>rfl
 |cons c d=>
  have:X[a]?=β c:=by have:=congrArg (λd=>d[0]?) C;simpa using this
  have:=x a c this (a8P _);simp[this]
theorem Aa(d:1<=e)(h:e<=8)(k:a6.js bF X)(r:∀x∈X,bU e x)(c:bU e t):kP X t=decide (t∈X):=by
 obtain⟨F,y,G⟩:=GI d h k r c;unfold kP;by_cases o:t∈X
 .obtain⟨a,hm,z⟩:=a8S o;have C:X[a]?=β t:=by simp_all
  have D:=aa3.1 k;have E:a=fg X t:=by
   rcases abz a (fg X t)with b|b|b;grind[tN]
   .exact b
   .have p:=D (fg X t) a acq hm b;rw[z]at p;have:=y (fg X t) _ (Μ acq) (a8P _);rw[p]at this;cases this
  rw[<-E,C,decide_eq_true o];simp only;rw[decide_eq_true];exact(A8 d h c c).2 rfl
 grind[decide_eq_false,fg,List.mem_of_getElem?,A8]
theorem a4f(d:1<=e)(h:e<=8)(p:a6.js bF X)(k:∀b∈X,bU e b)(o:bU e t)(r:t∈X):X.take (fg X t)++X.drop (fg X t+1)=X.filter λb=>decide (b≠t):=by
 have a:=Aa d h p k o;rw[decide_eq_true r]at a;unfold kP at a;generalize fg X t=x at*;cases c:X[x]? with
 |none=>rw[c]at a;cases a
 |some b=>rw[c]at a;simp only[decide_eq_true_eq]at a;obtain rfl:=(A8 d h (k b (a8r c)) o).1 a;have y:=a6.rO c;grind[List.pairwise_cons,List.filter_cons_of_neg,a6.filter_none,tN]
def ko:H.le (dG H e c0).2:=by
 unfold dG;split
 .exact ai.le_refl
 .exact lV _ _
def Ab{h:Type}{c:List h->c4}{d:Nat}:∀(gs:List (List h))(a:ai)(b:List au),a.le (eC c d a gs b).2
 |[],a,b=>ai.le_refl
 |k::gs,a,b=>by
  have o:=ko (H:=a) (e:=d) (c0:=c k);rw[eC];generalize dG a d (c k)=p at*;obtain⟨r,x⟩:=p;cases r with
  |error z=>exact o
  |ok y=>exact o.trans (Ab gs x (b++[y]))
def GJ:H.le (pa H e X).2:=Ab _ _ _
def Ac{a:List au}:H.le (kd H e a).2:=Ab _ _ _
def GK{c:Nat}{b:Τ}:∀(d:Nat)(a:ai)(h:au),a.le (gu c b d a h).2
 |0,a,h=>ai.le_refl
 |d+1,a,h=>by
  rw[gu];cases iR a c h with
  |none=>exact ai.le_refl
  |some k=>
   simp only;by_cases o:k.kind=2
   .rw[if_pos o];by_cases p:kP (k.rows.map Α) b=ζ
    .rw[if_pos p];exact ai.le_refl
    .rw[if_neg p];exact GJ
   .rw[if_neg o];cases k.kids[hB b k]? with
    |none=>exact ai.le_refl
    |some r=>
     have x:=GK (c:=c) (b:=b) d a r;simp only;generalize gu c b d a r=y at*;obtain⟨z,C⟩:=y;cases z with
     |error D=>exact x
     |ok E=>exact x.trans Ac
def GL{d:Nat}:∀(h:Nat)(a:ai)(b:List au),a.le (iS d h a b).2
 |0,a,b=>ai.le_refl
 |h+1,a,b=>by
  rw[iS];by_cases c:1<α b
  .rw[if_pos c];have c:=Ac (H:=a) (e:=d) (a:=b);generalize kd a d b=k at*;obtain⟨o,p⟩:=k;cases o with
   |error x=>exact c
   |ok r=>exact c.trans (GL h p r)
  .rw[if_neg c];exact ai.le_refl
variable{A j9:au}
def GM:H.le (jt e t H A).2:=by
 unfold jt;split
 .exact ko
 .have a:=GK (c:=e) (b:=t) (A.size.toNat+1) H A;generalize gu e t (A.size.toNat+1) H A=b at*;obtain⟨c,d⟩:=b;cases c with
  |error h=>exact a
  |ok k=>exact a.trans (GL _ _ _)
variable{I:Bool}
theorem GN{a:List au}:H.le (mN H e I X a).2:=by unfold mN;split<;>exact ko
theorem join_le{a b:im}:H.le (kQ H e a b).2:=by
 unfold kQ;split
 .exact GJ
 .exact Ac
theorem a4g{c:List au}{a:im}:H.le (kg H e c i a).2:=by
 unfold kg;by_cases b:2<=α a.rows+α a.kids
 .rw[if_pos b];grind[GN,mN]
 .rw[if_neg b];grind[ai.le_refl,iR,join_le,hh,kQ]
def GO{d:Nat}{b:Τ}:∀(k:Nat)(c:ai)(o:au),c.le (iq d b k c o).2
 |0,c,o=>ai.le_refl
 |k+1,c,o=>by
  rw[iq];cases iR c d o with
  |none=>exact ai.le_refl
  |some a=>
   simp only;by_cases h:a.kind=2
   .rw[if_pos h];by_cases y:kP (a.rows.map Α) b=ζ
    .rw[if_pos y];exact ai.le_refl
    .rw[if_neg y];exact ai.le_refl
   .rw[if_neg h];cases a.kids[hB b a]? with
    |none=>exact ai.le_refl
    |some z=>
     have p:=GO (d:=d) (b:=b) k c z;simp only;generalize iq d b k c z=r at*;obtain⟨x,C⟩:=r;cases x with
     |error E=>exact p
     |ok D=>
      have h:=a4g (H:=C) (e:=d) (c:=a.kids) (i:=hB b a) (a:=D);simp only;generalize kg C d a.kids (hB b a) D=r at*;obtain⟨x,F⟩:=r;cases x with
      |error E=>exact p.trans h
      |ok G=>exact p.trans h
theorem GP:H.le (lM e t H A).2:=by
 unfold lM;split
 .exact ai.le_refl
 .have a:=GO (d:=e) (b:=t) (A.size.toNat+1) H A;generalize iq e t (A.size.toNat+1) H A=b at*;obtain⟨c,d⟩:=b;cases c with
  |error h=>exact a
  |ok k=>
   simp only;split
   .exact a
   .split
    .exact a
    .exact a.trans GN
end Go.Proofs.YtkafjfkjahgihaaGreat
namespace Go.bD
open Go
variable{f s e5:U}{u:bk}{l j3:World}
theorem Step.a4h{p:bk}(b:Step u f l p s j3)(r:∀a,f a=ε\/∃c,f a=β (.ro c)):∃x k,j3=Sort.grow (l.drewN x) k:=by
 have d:∀a,a<l.heap.size->j3.heap[a]?=l.heap[a]? :=λa d=>by
  rcases r a with h|⟨c,h⟩
  .exact b.block a d h
  .exact(b.jR a c d h).1
 have y:=b.os;have z:=b.tape;have o:=b.output;have C:=b.size;refine⟨j3.drawn - l.drawn,j3.heap.extract l.heap.size j3.heap.size,?_⟩;obtain⟨D,E,F,k,G⟩:=l;obtain⟨L,P,S,T,V⟩:=j3;simp only at*;obtain⟨rfl,o⟩:=o;subst y;subst z;simp only[Sort.grow,World.drewN,World.mk.injEq,true_and,and_true];grind
theorem Step.grown(d:Holds u f l)(o:Nat)(os:Array Obj):Step u f l u f (Sort.grow (l.drewN o) os):=by
 have c:∀a,a<l.heap.size->(Sort.grow (l.drewN o) os).heap[a]?=l.heap[a]? :=λa c=>by
  show(l.heap++os)[a]?= _;grind
 exact {holds:=⟨λa h v p=>by rw[<-d.ro a h v p];exact World.cell?_of_block (c a (d.lt p)),λk h r=>(d.cx k h r).kept (.refl u) (c k (d.cx k h r).lt) (λ_ x=>x)⟩,le:=.refl u,os:=rfl,tape:=rfl,output:=⟨rfl,Nat.le_add_right _ _⟩,size:=acr,block:=λa b _=>c a b,eh:=λ_ b=>.inl b,nf:=λ_ _ b=>.inl b,jR:=λa y b z=>⟨c a b,.inr ⟨y,z⟩⟩}
variable{b2:Type}
theorem a4i[Inhabited b2](h:b2->Value)(b:World)(a:Nat)(c:Array b2)(d:Array Value)(k:TypeId)(o:Nat×Nat)(p:b.heap[a]?=β (.cells d k o))(x:c.size<=d.size):
  Sort.putRow h b a 0 c=b.setRow a (dh d 0 (c.toList.map h)):=by
 unfold Sort.putRow Sort.mapBlock World.setRow;congr 1;apply Array.ext_getElem?;intro r;simp only[Array.getElem?_modify];by_cases hk:a=r
 .subst hk;simp only[if_true,p,a9q,Sort.onCells];congr 2;apply ac6;apply abB;intro y;simp only[Sort.putCells,dh,a9S,Array.getElem?_mapIdx,a9Y,a8y,a8J,a8o,abp];grind
 .simp[hk]
variable{g B e1:Ψ}{e i v O e0 j6:Nat}{m:Program}
theorem a4j{l0:Shelf.Ren}(a02:Proofs.SlLaysF.n6 m l0)(S:b2->R->Prop)(a03:∀a d,S a d->d.one=ζ/\d.cells=[d]){C:List b2}
  (Y:f e=β (.cells g)) (a81:α B=α C) (a04:∀(b:Nat) a d,C[b]?=β a->B[b]?=β d->S a d) (a05:α C=i) (l1:g.take i=B) (a83:i<4611686018427387904)
  (V:FuncId) (I:Ψ) (l2:s.sub f) (l3:∀c,s c=ε\/∃Z,s c=β (.ro Z)) (x:b2->Prop) (a06:∀j∈C,x j) (a07:0<i)
  (y:b2->b2->Int) (a84:∀a,x a->¬y a a<0) (a86:∀a h D,x a->x h->x D->y a h<0->y h D<0->y a D<0) (a88:∀a h D,x a->x h->x D->¬y a h<0->¬y h D<0->¬y a D<0)
  (a08:∀l4 p,(callFunc V l4).run m p=.ok (.enter V l4) p)
  (a09:∀a h d c,S a d->S h c->x a->x h->AC m V ([d,c]++I) s λj _=>j=.v (.int .i64 (y a h))):
  AC m (l0.f 6) [.aq e i O 1,.bL V [] I] f λj l5=>j=.aJ []/\∃o k3,k3.Perm C/\α o=i/\(∀(b:Nat) a d,k3[b]?=β a->o[b]?=β d->S a d)/\List.Pairwise (λd c=>¬y c d<0) k3/\l5=f.set e (.cells (o++g.drop i)):=by
 intro K p z k4 w;have l6:=k4.2 0 _ rfl;have l7:=k4.2 1 _ rfl;have a10:K.size=2:=k4.1;generalize a11:K.getD 0 undef=a89 at l6;generalize a13:K.getD 1 undef=a90 at l7;cases l6 with
 |aq e i O a92 a94 a95=>
 cases l7 with
 |bL a96 ws iw cM a97 hw a98 a14 a15=>
 obtain rfl:ws=#[]:=abm hw;have ak:K=#[.slice (β ⟨e,0,ε⟩) i O,.func (.func V) #[] iw]:=by
  apply Array.ext
  .exact a10
  .intro b G L
   match b,G with
   |0,G=>rw[<-a11];simp_all
   |1,G=>rw[<-a13];simp_all
   |b+2,G=>omega
 rw[ak];obtain⟨a99,l,T,k5,l8,a16⟩:=w.cx e _ Y;have b00:i<=α g:=by grind
 have b01:=l8.1
 let W:= {P:Value×b2//(∃d,S P.2 d/\bb z P.1 d)/\x P.2};have l9:∀b (n:b<i),∃a:W,a.1.1=l[b]'acq/\a.1.2=C[b]'acq:=λb n=>by
  have G:g[b]?=β (B[b]'acq):=by grind
  have L:=l8.2 b _ G;have A:l.getD b undef=l[b]'acq:=by simp[show b<l.size by omega]
  rw[A]at L;exact⟨⟨(l[b]'acq,C[b]'acq),⟨_,a04 b _ _ (Μ _) (Μ _),L⟩,a06 _ (a8L _)⟩,rfl,rfl⟩
 haveI:Inhabited W:=⟨(l9 0 a07).choose⟩
 obtain⟨E,n0,b02⟩:∃E:Array W,E.size=i/\∀b (n:b<i) (a18),E[b].1.1=l[b]'acq/\E[b].1.2=C[b]'acq:=
  ⟨Array.ofFn λb=>(l9 b b.2).choose,acr,λb n a18=>by grind[Array.getElem_ofFn]⟩
 let k:W->Value:=λa=>a.1.1;have G:Proofs.OneCell k:=λa=>by
  obtain⟨⟨d,L,A⟩,_⟩:=a.2;exact A.ov (a03 _ _ L).1
 have a19:Sort.Holds k p e 0 E:=λr k6=>by
  have b03:r<i:=acq;rw[getElem!_pos E r k6];constructor
  .simp only[World.cell?,k5,a8J,aa5,a9m,if_false];grind
  .simp[World.frozen?,k5]
 have a27:=(a9o.1 k5).1
 let k7:W->W->Int:=λa h=>y a.1.2 h.1.2;have a29:Proofs.CmpLays1 m V iw k k7 e 0 E.size p:=λn1 q n2 b04 a h=>by
  have n3:∀c,c<p.heap.size->c≠e->(Proofs.sortWorld k p e 0 n1 n2 q).heap[c]?=p.heap[c]? :=λc M N=>by
   show(((p.heap.modify e _)++q)[c]?)= _;grind
  have a30:Holds z s (Proofs.sortWorld k p e 0 n1 n2 q):=⟨λc k8 v t=>by
   have N:c≠e:=by rintro rfl;rw[a16]at t;cases t
   rw[<-w.ro c k8 v t];exact World.cell?_of_block (n3 c (w.lt t) N),λc k8 M=>by
   have N:c≠e:=by
    rintro rfl;rcases l3 c with H|⟨Z,H⟩
    .rw[H]at M;cases M
    .have:=l2 _ _ H;rw[Y]at this;cases this
   have L:=w.cx c k8 (l2 _ _ M);exact L.kept (.refl z) (n3 c L.lt N) λ_ n=>n⟩
  obtain⟨⟨d,aL,a34⟩,a36⟩:=a.2;obtain⟨⟨c,a38,a42⟩,a43⟩:=h.2;have a47:bw z (#[k a,k h]++iw) ([d,c]++I):=⟨by simp[a14];omega,λr Q u=>by
   match r,u with
   |0,u=>obtain rfl:=Β u;rw[show(#[k a,k h]++iw).getD 0 undef=k a by rw[a9g,aaU acr];rfl];exact a34
   |1,u=>obtain rfl:=Β u;rw[show(#[k a,k h]++iw).getD 1 undef=k h by rw[a9g,aaU acr];rfl];exact a42
   |r+2,u=>
    have A:I[r]?=β Q:=by trivial
    have k6:r<iw.size:=by grind
    have b05:=a15 r Q A;simp_all [a9g,Array.getElem?_append_right]⟩
  refine(a09 _ _ d c aL a38 a36 a43 _ _ z a47 a30).mono ?_;rintro a48 a52⟨v,j,b06,l5,rfl,X,t,rfl⟩;refine⟨by rw[t.ds],X.a4h l3⟩
 have a56:Sort.SWO (Proofs.ltOf k7):=⟨λa=>by simp only[Proofs.ltOf];grind,λa h D=>by simp only[Proofs.ltOf,decide_eq_true_eq];grind,λa h D=>by grind[Proofs.ltOf,decide_eq_false_iff_not]⟩;have n4:=Proofs.Any.slices_SortFunc a02 k G k7 a56 V iw e 0 O E p a08 a29 a19 a27 acq;rw[n0]at n4;refine n4.mono ?_;rintro a48 a52⟨rfl,F,P,q,⟨b07,_,n5⟩,a57,rfl⟩;have n9:F.size=i:=acq;rw[abv acq,abv acq]at n5
 let o:Ψ:=F.toList.map λa=>a.2.1.choose;have b08:∀a:W,S a.1.2 a.2.1.choose/\bb z a.1.1 a.2.1.choose:=λa=>a.2.1.choose_spec;have a61:bw z (F.toList.map k).toArray o:=bw.ed.2 ⟨by simp[o],λr b09 Q a00 a62=>by
  simp only[a8H,o]at a00 a62;cases k9:F.toList[r]? with
  |none=>simp[k9]at a00
  |some a=>grind⟩
 obtain⟨a63,b10,b11,b12,X⟩:=Step.store w Y 0 o _ a61 (λZ l1=>by
  obtain⟨a,_,rfl⟩:=a8D.1 l1;grind) (by simp[o];omega)
 have a65:Sort.putRow k (Sort.ahead p P) e 0 F=Sort.ahead (p.setRow e (dh a63 0 (F.toList.map k))) P:=by grind[Sort.putRow_ahead,a4i]
 have a68:=X.trans (Step.grown X.holds P q);refine⟨_,.aJ [],z,f.set e (.cells (o++g.drop i)),rfl,?_,.aJ #[] [] rfl (λr Q H=>by simp at H),rfl,o,F.toList.map (λa=>a.1.2),?_,by simp[o,n9],?_,?_,rfl⟩
 .have a69:putAt g 0 o=o++g.drop i:=by simp[putAt,o,n9]
  rw[<-a69];show Step z f p z _ (Sort.grow (Sort.putRow k (Sort.ahead p P) e 0 F) q);rw[a65];exact a68
 .have a71:C=E.toList.map (λa=>a.1.2):=by
   apply abJ
   .simp[a05,n0]
   simp_all
  rw[a71];exact n5.map _
 .intro b a d a01 a73;simp only[a8H,o]at a01 a73;cases k9:F.toList[b]? with
  |none=>simp[k9]at a01
  |some h=>grind
 .rw[aaz,aa3];intro b r n k6 a74;have:=a57 b r (a8M _) a74 (by simp_all);grind[Array.length_toList,Proofs.ltOf]
end Go.bD
namespace Go.Proofs
open Go.Shelf
def Tryz.a4k:Go.Shelf.Ren:=⟨λ|6=>108|15=>170|14=>169|28=>228|29=>229|20=>220|21=>221|22=>222|23=>223|24=>224|25=>225|26=>226|27=>227|46=>284|47=>285|48=>286|49=>287|50=>288|57=>332|a=>a,λ|22=>101|24=>53|25=>180|3=>3|39=>244|0=>0|53=>236|55=>239|4=>4|46=>309|45=>308|50=>258|5=>5|9=>9|66=>362|70=>366|76=>400|77=>401|a=>a,λ|a=>a⟩
def Tryz.a4l:Go.Proofs.SlLaysF.n6 γ Tryz.a4k:= {
 mixed:=acw
 f6:=⟨Tryz.f108.name,acv,Tryz.func108.trans (congrArg β acw)⟩
 f14:=⟨Tryz.f169.name,acv,Tryz.func169.trans (congrArg β acw)⟩
 f15:=Tryz.func170.trans (congrArg β acw)
 f20:=⟨Tryz.f220.name,acv,Tryz.func220.trans (congrArg β acw)⟩
 f21:=⟨Tryz.f221.name,acv,Tryz.func221.trans (congrArg β acw)⟩
 f22:=⟨Tryz.f222.name,acv,Tryz.func222.trans (congrArg β acw)⟩
 f23:=⟨Tryz.f223.name,acv,Tryz.func223.trans (congrArg β acw)⟩
 f24:=⟨Tryz.f224.name,acv,Tryz.func224.trans (congrArg β acw)⟩
 f25:=⟨Tryz.f225.name,acv,Tryz.func225.trans (congrArg β acw)⟩
 f26:=⟨Tryz.f226.name,acv,Tryz.func226.trans (congrArg β acw)⟩
 f27:=⟨Tryz.f227.name,acv,Tryz.func227.trans (congrArg β acw)⟩
 f28:=Tryz.func228.trans (congrArg β acw)
 f29:=Tryz.func229.trans (congrArg β acw)
 f46:=⟨Tryz.f284.name,acv,Tryz.func284.trans (congrArg β acw)⟩
 f47:=Tryz.func285.trans (congrArg β acw)
 f48:=Tryz.func286.trans (congrArg β acw)
 f49:=⟨Tryz.f287.name,acv,Tryz.func287.trans (congrArg β acw)⟩
 f50:=⟨Tryz.f288.name,acv,Tryz.func288.trans (congrArg β acw)⟩
 f57:=⟨Tryz.f332.name,acv,Tryz.func332.trans (congrArg β acw)⟩
 t0:=Tryz.underlying0
 a0:=Tryz.isAgg0
 z0:=Tryz.sizeOf0
 v0:=Tryz.zeroValue0
 t3:=Tryz.underlying3
 a3:=Tryz.isAgg3
 z3:=Tryz.sizeOf3
 v3:=Tryz.zeroValue3
 t4:=Tryz.underlying4
 a4:=Tryz.isAgg4
 z4:=Tryz.sizeOf4
 v4:=Tryz.zeroValue4
 t5:=Tryz.underlying5
 a5:=Tryz.isAgg5
 z5:=Tryz.sizeOf5
 v5:=Tryz.zeroValue5
 t9:=Tryz.underlying9
 a9:=Tryz.isAgg9
 z9:=Tryz.sizeOf9
 v9:=Tryz.zeroValue9
 t22:=Tryz.underlying101
 a22:=Tryz.isAgg101
 z22:=Tryz.sizeOf101
 v22:=Tryz.zeroValue101
 a24:=Tryz.isAgg53
 z24:=Tryz.sizeOf53
 t25:=Tryz.underlying180
 a25:=Tryz.isAgg180
 z25:=Tryz.sizeOf180
 v25:=Tryz.zeroValue180
 t39:=Tryz.underlying244
 a39:=Tryz.isAgg244
 z39:=Tryz.sizeOf244
 v39:=Tryz.zeroValue244
 t45:=Tryz.underlying308
 a45:=Tryz.isAgg308
 z45:=Tryz.sizeOf308
 v45:=Tryz.zeroValue308
 t46:=Tryz.underlying309
 a46:=Tryz.isAgg309
 z46:=Tryz.sizeOf309
 v46:=Tryz.zeroValue309
 t50:=Tryz.underlying258
 a50:=Tryz.isAgg258
 z50:=Tryz.sizeOf258
 v50:=Tryz.zeroValue258
 t53:=Tryz.underlying236
 a53:=Tryz.isAgg236
 z53:=Tryz.sizeOf236
 v53:=Tryz.zeroValue236
 t55:=Tryz.underlying239
 a55:=Tryz.isAgg239
 z55:=Tryz.sizeOf239
 v55:=Tryz.zeroValue239
 t66:=Tryz.underlying362
 a66:=Tryz.isAgg362
 z66:=Tryz.sizeOf362
 v66:=Tryz.zeroValue362
 t70:=Tryz.underlying366
 a70:=Tryz.isAgg366
 z70:=Tryz.sizeOf366
 v70:=Tryz.zeroValue366
 t76:=Tryz.underlying400
 a76:=Tryz.isAgg400
 z76:=Tryz.sizeOf400
 v76:=Tryz.zeroValue400
 t77:=Tryz.underlying401
 a77:=Tryz.isAgg401
 z77:=Tryz.sizeOf401
 v77:=Tryz.zeroValue401}
end Go.Proofs
namespace Go.Proofs.YtkafjfkjahgihaaGreat
open Go Go.bD
variable{b3:Int}
theorem GQ{a:Int}:iu b3 a<0↔b3<a:=by unfold iu;omega
theorem GR{a:Int}:iu b3 a=0↔b3=a:=by unfold iu;omega
def lW:Τ->Τ->Prop
 |a::c,b::d=>a<b\/a=b/\lW c d
 |_,_=>False
theorem GS:∀ {b c:Τ},α b=α c->(hD b c<0↔lW b c)
 |[],[],_=>by simp[hD,lW]
 |d::b,h::c,a=>by
  have ih:=GS (by simpa using a);grind[hD,lW,GR,GQ]
 |[],_:: _,a=>by simp at a
 |_:: _,[],a=>by simp at a
def GU:∀ {b:Τ},¬lW b b
 |[],a=>a
 |c::b,a=>a.elim acq λa=>GU a.2
def GV:∀ {c d h:Τ},lW c d->lW d h->lW c h
 |k::c,o::d,p::h,a,b=>by
  rcases a with a|⟨rfl,a⟩<;>rcases b with b|⟨rfl,b⟩
  .exact .inl acq
  .exact .inl a
  .exact .inl b
  .exact .inr ⟨rfl,GV a b⟩
theorem GW:∀ {a b:Τ},α a=α b->lW a b\/a=b\/lW b a
 |[],[],_=>.inr (.inl rfl)
 |k::a,o::b,c=>by
  rcases Int.lt_trichotomy k o with d|rfl|d
  .exact .inl (.inl d)
  .rcases GW (by simpa using c)with h|rfl|h
   .exact .inl (.inr ⟨rfl,h⟩)
   .simp
   .exact .inr (.inr (.inr ⟨rfl,h⟩))
  .exact .inr (.inr (.inl d))
 |[],_:: _,c=>by simp at c
 |_:: _,[],c=>by simp at c
def Ad(a:Nat)(b c:Τ):Prop:=b.getD a 0<c.getD a 0\/b.getD a 0=c.getD a 0/\lW b c
variable{t b8:Τ}{e i v O e0 j6:Nat}
theorem wc(a:α t=α b8):cK e t b8<0↔Ad e t b8:=by grind[cK,Ad,GR,GS,GQ]
structure pt(d:Nat)(a:Τ->Τ->Int):Prop where
 kc:∀x,α x=d->¬a x x<0
 u2:∀x y z,α x=d->α y=d->α z=d->a x y<0->a y z<0->a x z<0
 u3:∀x y,α x=d->α y=d->a x y<0\/x=y\/a y x<0
def pt.Ae{a:Τ->Τ->Int}(c:pt e a)(b:α t=e)(d:α b8=e)(h:a t b8<0):¬a b8 t<0:=λk=>c.kc t b (c.u2 t b8 t b d b h k)
def pt.GX{c:Τ->Τ->Int}(h:pt e c):∀a b d,α a=e->α b=e->α d=e->¬c a b<0->¬c b d<0->¬c a d<0:=λa b d k o r z x y=>by
 rcases h.u3 a b k o with p|rfl|p
 .omega
 .omega
 .exact x (h.u2 _ _ _ o k r p y)
theorem qA(k o:Nat):pt k (cK o) where
 kc d h a:=by
  rw[wc rfl]at a;rcases a with a|a
  .omega
  .exact GU a.2
 u2 d p z h r C b c:=by
  rw[wc acq]at*;rcases b with b|⟨b,x⟩<;>rcases c with c|⟨c,y⟩
  .exact .inl acq
  .exact .inl acq
  .exact .inl acq
  .exact .inr ⟨acq,GV x y⟩
 u3 d p h r:=by rw[wc acq,wc acq];grind[Ad,Int.lt_trichotomy,GW]
theorem Af{z:Nat}{o:Τ->Τ->Int}(C:pt z o):∀ {c a:List Τ},(∀b∈c,α b=z)->a.Perm c->c.Pairwise (λp r=>¬o r p<0)->a.Pairwise (λp r=>¬o r p<0)->a=c
 |[],a,_,d,_,_=>d.eq_nil
 |b::c,a,x,d,h1,E=>by
  cases a with
  |nil=>simp_all
  |cons h a=>
   obtain⟨T,F⟩:=a8R.1 h1;obtain⟨V,G⟩:=a8R.1 E;have D:h∈b::c:=d.mem_iff.1 acr;have L:b∈h::a:=d.mem_iff.2 acr;have k:h=b:=by
    rcases a8E.1 D with k|W
    .exact k
    rcases a8E.1 L with k|e
    .exact k.symm
    rcases C.u3 h b (x h D) (x b acr)with y|y|y
    .grind
    .exact y
    .grind
   subst k;rw[Af C (λP S=>x P (by simp[S])) (List.Perm.cons_inv d) F G]
theorem a4m(c:Nat)(a:Τ)(b:List Τ):(fh c a b).Perm (a::b):=by grind[List.takeWhile_append_dropWhile,decide,cK,fh,List.perm_middle]
def GY{p c:Nat}{d:Τ}(r:α d=p):∀ {h:List Τ},(∀b∈h,α b=p)->h.Pairwise (λx y=>¬cK c y x<0)->(fh c d h).Pairwise (λx y=>¬cK c y x<0)
 |[],_,_=>by simp[fh]
 |b::h,z,D=>by
  obtain⟨E,L⟩:=a8R.1 D;have F:=qA p c;have G:=z b acr;by_cases o:cK c b d<0
  .have C:fh c d (b::h)=b::fh c d h:=by simp[fh,o]
   rw[C];refine a8R.2 ⟨λk a=>?_,GY r (λk a=>z k (by simp[a])) L⟩;rcases zr.1 a with rfl|a
   .exact F.Ae G r o
   .exact E k a
  .have C:fh c d (b::h)=d::b::h:=by simp[fh,o]
   rw[C];refine a8R.2 ⟨λk a=>?_,D⟩;rcases a8E.1 a with rfl|a
   .exact o
   .exact F.GX k b d (z k (by simp[a])) G r (E k a) o
theorem GZ{o d:Nat}:∀(h a:List Τ),(∀b∈h,α b=o)->(∀b∈a,α b=o)->a.Pairwise (λp r=>¬cK d r p<0)->(h.foldl (λx c=>fh d c x) a).Perm (a++h)/\(h.foldl (λx c=>fh d c x) a).Pairwise (λp r=>¬cK d r p<0)
 |[],a,_,_,y=>by simpa using y
 |c::h,a,h1,z,y=>by
  have C:=h1 c acr;have D:∀b∈fh d c a,α b=o:=λb k=>by
   rcases zr.1 k with rfl|k
   .exact C
   .exact z b k
  obtain⟨E,F⟩:=GZ h (fh d c a) (λb k=>h1 b (by simp[k])) D (GY C z y);grind[a4m,trans]
variable{X:List Τ}
def u4(a:∀b∈X,α b=i):(en e X).Perm X/\(en e X).Pairwise (λc d=>¬cK e d c<0):=by simpa[en] using GZ X [] a acr .nil
variable{n b6:R}
def a4n(a:isRow t n):n.one=ζ/\n.cells=[n]:=by obtain⟨b,rfl⟩:=a;trivial
theorem aB.of{k:Type}{o:k->R->Prop}:∀ {b:List k}{aO:Ψ},α aO=α b->(∀(c:Nat) d h,b[c]?=β d->aO[c]?=β h->o d h)->aB o b aO
 |[],[],_,_=>trivial
 |d::b,r::aO,a,p=>⟨p 0 d r rfl rfl,aB.of (by simpa using a) λc x h y z=>p (c+1) x h y z⟩
 |[],_:: _,a,_=>by simp at a
 |_:: _,[],a,_=>by simp at a
variable{b5:FuncId}{m:Program}
def a4o(a:fH m b5=ζ):∀b c,(callFunc b5 b).run m c=.ok (.enter b5 b) c:=by
 unfold fH at a;split at a
 .rename_i k d;rw[Ξ]at a;obtain⟨o,h⟩:=a8X.1 a.1;exact enters_of d (by simpa using a.2) h
 .cases a
variable{f s e5:U}{g B e1:Ψ}
theorem a4p{k:Τ->Τ->Int}(o:pt i k){x:List Τ}(W:f v=β (.cells g))(F:aB isRow X B)(G:α X=e)(j:g.take e=B)(y:e<=4000000)(l:0<e)(L:∀a∈X,α a=i)
  (P:x.Perm X) (m:x.Pairwise (λz c=>¬k c z<0)) (p:FuncId) (C:Ψ) (n:s.sub f) (q:∀c,s c=ε\/∃t,s c=β (.ro t)) (u:fH γ p=ζ)
  (w:∀b d D E,α b=i->α d=i->AC γ p ([.J (af b) D,.J (af d) E]++C) s λa _=>a=.v (.int .i64 (k b d))):
  AC γ 108 [.aq v e O 1,.bL p [] C] f λa S=>a=.aJ []/\∃r,aB isRow x r/\S=f.set v (.cells (r++g.drop e)):=by
 refine(a4j (m:=γ) Tryz.a4l isRow (λ_ _=>a4n) W F.len (λY b z h T=>?_) G j acq p C n q (λa=>α a=i) L l k o.kc o.u2 o.GX (a4o u) λb d z c T y h A=>?_).mono λa S H=>?_
 .obtain⟨c,y,Z⟩:=F.get h;simp_all
 .obtain⟨D,rfl⟩:=T;obtain⟨E,rfl⟩:=y;exact w b d D E h A
 .obtain⟨I,r,k3,V,K,M,N,Q⟩:=H;have:=Af o (λb h=>L b (P.mem_iff.1 h)) (V.trans P.symm) m N;subst this;exact⟨I,r,aB.of (by rw[K,V.length_eq,G]) M,Q⟩
def fW(a:ai)(b:Nat):Nat->au->Option (List Τ)
 |0,_=>ε
 |c+1,d=>if d.live=0 then β []else match kY a b d with
  |none=>ε
  |some (h,bI)=>match fW a b c (bI.getD 0 aw),fW a b c (bI.getD 1 aw)with
   |some k,β o=>β ((if h.2=ζ then [h.1]else [])++k++o)
   |_,_=>ε
variable{A j9:au}{H:ai}
def we{d:Τ×Bool}{o:List au}(a:kY H e A=β (d,o)):∃b c,o=[b,c]/\ei H e A=β (cg d b c)/\A.size=1+b.size+c.size/\0<=b.size/\0<=c.size/\α d.1=e/\A.size<=1048576:=by
 unfold kY at a;split at a
 .cases a
 rename_i y h;split at a
 .rename_i p;simp only[a8t,a9u]at a;obtain⟨rfl,rfl⟩:=a;have k:=Gp h;obtain⟨z,C,E⟩:=Gq k p;have r:=vJ h;obtain⟨F,rows,kids⟩:=y
  dsimp only at*
  obtain⟨d,rfl⟩:=aac.1 z
  match kids,C with
  |[b,c],_=>have D:=r.size;have x:=tZ k;subst p;simp only[a9L,a8C,a9z,a9D,ab3]at D;refine⟨b,c,rfl,h,acq,(jE (x b acr)).1,(jE (x c acr)).1,(lG k).1 _ acr,r.nJ⟩
 .cases a
theorem u5{k:ai}{d:Nat}:∀ {h:Nat}{c:au}{b:List Τ},fW k d h c=β b->(α b:Int)<=max 0 c.size/\∀o∈b,α o=d
 |0,_,_,a=>by cases a
 |h+1,c,b,a=>by
  rw[fW]at a;split at a;grind;split at a
  .cases a
  rename_i y z p;split at a
  .rename_i C D r x;obtain rfl:=Β a;obtain⟨E,F,rfl,_,G,L,P,S,_⟩:=we p;have T:=u5 r;have V:=u5 x;grind
  .cases a
theorem H0(L A:Nat)(h:ai)(c:Nat)(k4:1<=c)(k5:c<=8):∀(d:Nat)(z:U)(_:bs z L A h)(p:au)(P S T:Own),α p.sum=32->p.cE->p.size.toNat<d->
  AC γ 199 [ee L c,.agg (ab p P S T)] z λi C=>z.sub C/\match fW h c d p with
   |none=>i=.aJ [.J [] .nil,.v (.int .i64 21)]
   |some rows=>∃k r,i=.aJ [r,.v (.int .i64 0)]/\av z C 1 k r/\aB isRow rows k
 |0,_,_,_,_,_,_,_,_,F=>by omega
 |d+1,z,k6,p,P,S,T,fp,n4,a38=>by
  have a42:=(aT (M:=P) (e7:=S) (j0:=T) fp).all;refine aL hm QP ?_;refine bp λj a43=>?_;refine dk λk7 a47 a48 a52=>?_;generalize l:(z.set j _).set k7 _=m;have D:z.sub m:=by subst l;exact aR
  have c2:m j=β (.cells [.ptr L 0,.v (.int .i64 (c))]):=by subst l;exact aR
  have aD:m k7=β (.cells (ab p P S T)):=by subst l;exact aR
  clear l;rw[fW];have a56:=ι c2;have a57:=ι aD;refine aG (λn=>?_) λn=>?_
  .exact⟨_,η,D,[],.J [] .nil,rfl,av.nil D,trivial⟩
  rw[if_neg n];refine ag (zZ m L A h (k6.mono D) p P S T fp n4 c k4 k5) ?_;rintro i k8⟨G,q⟩;cases B:kY h c p with
  |none=>rw[B]at q;obtain rfl:=q;refine aa ?_;refine aN λs V=>?_;refine aa ?_;exact κ (ο D G) (Ι (ο D G) V)
  |some n5=>
   obtain⟨b,a61⟩:=n5;rw[B]at q;obtain⟨x,n9,rfl,a62,a63,k9,H⟩:=q;obtain⟨o,cf,rfl,a65,a68,a69,a71,a73,a74⟩:=we B;have a81:=fv k9;have t:=bS.dA k9 acq rfl (H.cells λ_ _=>Κ);have I:=t.len;rw[H.len]at I;have I:fk n9=β (.v (.int .i64 2)):=I;refine aa ?_;refine aN λs V=>?_;have l0:=G _ _ c2;have a00:j≠s:=by rintro rfl;rw[l0]at V;cases V
   have a83:=a00.symm;have u:=κ (Z:=.cells [.J (af b.1) x,.v (.bool b.2)]) (η) V;have bx:=μ k8 s (.cells [.J (af b.1) x,.v (.bool b.2)]);refine aa ?_;rw[ς];have a01:=u _ _ l0;have t:=t.mono u;have K:=ο D (ο G u);have a02:=(k6.mono D).mono (ο G u);generalize k8.set s _=M at*;have a84:=ι bx;refine oX [2,7] (λr:R=>[(9,r)]) (λr C=>M.sub C/\∃k,av M C 1 k r/\aB isRow (if b.2=ζ then [b.1]else []) k) (λa03=>?_) (λa03=>?_) ?_
   .refine aa ?_;refine eP (by simp[aW,ρ]) acr λa86 a04=>?_;refine aa ?_;refine eZ (av.nil (κ η a04)) acq (nR rfl) rfl (by simp[flat,ρ]) (by simp[flat,ρ]) λa05 a06 l1=>?_;refine aa ?_;exact⟨a05,⟨l1.1,_,l1,⟨⟨x,rfl⟩,trivial⟩⟩,rfl⟩
   .refine aa ?_;exact⟨_,⟨[],av.nil η,trivial⟩,rfl⟩
   rintro r a06⟨a88,k,a07,l2⟩a89;refine aa ?_;obtain⟨own,l3⟩:∃own,(if b.2=ζ then [b.1]else [])=own:=⟨_,rfl⟩;have a90:α own<=1:=by subst l3;split<;>simp
   rw[l3]at l2
   let ac:Nat->List Τ:=λa=>own++(if 0<a then(fW h c d o).getD []else [])++(if 1<a then(fW h c d cf).getD []else []);refine cd [2,34,35] (λb:Nat×R=>[(36,.v (.int .i64 (b.1))),(9,b.2)]) (λb C=>b.1<=2/\(∃k,av M C 1 k b.2/\aB isRow (ac b.1) k)/\(0<b.1->(fW h c d o).isSome=ζ)/\(1<b.1->(fW h c d cf).isSome=ζ)) (λb=>2 - b.1) (0,r) ⟨⟨acq,⟨k,a07,by simpa[ac] using l2⟩,λF=>absurd F (Nat.lt_irrefl 0),λF=>absurd F acq⟩,aR⟩ ?_;rintro⟨a,a08⟩ l4 ⟨a09,⟨a10,y,N⟩,O,l5⟩ a92
   dsimp only at a09 y N O l5
   refine aa ?_;refine aG (λn=>?_) λn=>?_
   .have a94:a<2:=acq;obtain⟨_,Q,v,l6,W,e,f,rfl⟩:=H.get (i:=a) (x:=[o,cf].getD a aw) (by simp_all);obtain⟨a11,a95,l7⟩:=t.get a _ Q;have l8:=(aT (M:=W) (e7:=e) (j0:=f) v).all;have a13:du ζ 37 l4 a11=β (.agg (ab ([o,cf].getD a aw) W e f)):=by have:=l7.ld l4 y.1 ζ 37 acq (by rw[hY];omega);rw[this,aQ,if_pos rfl,hY,l8.2.1]
    have a14:=lT (M:=W) (e7:=e) (j0:=f) v;have l9:([o,cf].getD a aw).size.toNat<d:=by
     obtain rfl|rfl:a=0\/a=1:=acq
     .show o.size.toNat<d;omega
     .show cf.size.toNat<d;omega
    obtain⟨E,X⟩:∃E,[o,cf].getD a aw=E:=⟨_,rfl⟩;rw[X]at Q v l6 l8 a13 a14 l9;clear l7 Q;refine aa ?_;refine aN λa15 Y=>?_;have n0:=y.1 _ _ a01;have a16:j≠a15:=by rintro rfl;rw[n0]at Y;cases Y
    have a96:=a16.symm;have Z:=κ (Z:=.cells (ab E W e f)) (η) Y;have a97:=ι n0;refine aa ?_;refine ag (H0 L A h c k4 k5 d _ (a02.mono (ο y.1 Z)) E W e f v l6 l9) ?_;rintro i a98⟨n1,w⟩;have a18:fW h c d E=if a=0 then fW h c d o else fW h c d cf:=by
     rw[<-X];obtain rfl|rfl:a=0\/a=1:=acq
     .rfl
     .rfl
    cases k3:fW h c d E with
    |none=>rw[k3]at w;obtain rfl:=w;refine aa ?_;refine⟨_,η,ο K (ο y.1 (ο Z n1)),?_⟩;grind
    |some ig=>
     rw[k3]at w a18;obtain⟨a99,b00,rfl,n2,n3⟩:=w;obtain⟨b01,a19,a27,b02⟩:=n2.src;have b03:=fv n2;have a29:=y.mono (ο Z n1);have b04:=N.len;have b05:=n3.len;have b06:=(u5 k3).1;have b07:(ac a).length<=3000000:=by
      have:∀x:Option (List Τ),(∀g,x=β g->α g<=1048576)->(x.getD []).length<=1048576:=λx F=>by
       cases x with
       |none=>simp
       |some g=>exact F g rfl
      have G:=this (fW h c d o) λg a30=>by have:=(u5 a30).1;omega
      grind
     have b08:E.size<=1048576:=by
      rw[<-X];obtain rfl|rfl:a=0\/a=1:=acq
      .show o.size<= _;omega
      .show cf.size<= _;omega
     refine aa ?_;refine eZ a29 acq a27 a19 acq acq λa34 b09 a36=>?_;refine aa ?_;refine⟨(a+1,a34),⟨by dsimp only;omega,⟨_,a36,?_⟩,?_,?_⟩,⟨rfl,rfl⟩,by dsimp only;omega⟩
     .have:ac (a+1)=ac a++ig:=by grind
      rw[this];exact N.append n3
     .intro _;obtain rfl|rfl:a=0\/a=1:=acq;grind
      .exact O acq
     grind
   .obtain rfl:a=2:=acq;obtain⟨b10,b11⟩:=a8X.1 (O acq);obtain⟨b12,b13⟩:=a8X.1 (l5 acq);refine aa ?_;refine⟨_,η,ο K y.1,?_⟩;refine⟨a10,a08,rfl,y.base K,?_⟩;grind
end Go.Proofs.YtkafjfkjahgihaaGreat
namespace Go.bD
open Go
def View.freeze{a:U}{b:R}{c:Nat}{d:Ψ}(k:a c=β (.cells d)):View a b (a.set c (.ro d)) b:=λx y v o p=>by
 obtain⟨r,h⟩:=Step.freeze o k;exact⟨r,h,p.mono h.le⟩
variable{f s e5:U}{g B e1:Ψ}{e i v O e0 j6:Nat}
def View.H2(b:f O=β (.ro g))(c:e*i<=α g):View f (.aq O e e0 i) f (.J (eo i e g) .any):=λd k v a h=>⟨d,.refl a,bb.frozen a b c h⟩
variable{u:bk}{l j3:World}
theorem bb.frozenAt{v:Value}(h:Holds u f l)(k:f O=β (.ro g))(S:e+i<=α g)(o:bb u v (.bE O e i e0 1)):bb u v (.J ((g.drop e).take i) .any):=by
 obtain⟨p,r,T,V,W,d,j⟩:=h.cx O _ k;have m:=d.1;cases o with
 |bE O e i e0 n hk x=>
  have y:∀b∈g.drop e,b.one=true:=λb z=>p b (a8O z);obtain⟨C,D,E⟩:=xf (i:=i) acq (by rw[a8z];omega) y;rw[jX,a8Y]at*;by_cases F:i=0
  .subst F;rw[a9Y];exact .dn _ _ _ (λG=>by cases G) trivial
  .refine .J O e i e0 1 (λa=>r.getD (e+a) Go.undef) _ .any hk E.symm x C ?_ ?_ ?_ trivial;grind;grind
   .intro a L c;rw[D]at c;have P:a<i:=by grind
    rw[a9j P,ab0]at c;exact d.2 (e+a) L c
def View.a4q(b:f O=β (.ro g))(c:e+i<=α g):View f (.bE O e i e0 1) f (.J ((g.drop e).take i) .any):=λd k v a h=>⟨d,.refl a,bb.frozenAt a b c h⟩
end Go.bD
namespace Go.Proofs.YtkafjfkjahgihaaGreat
open Go Go.bD
theorem a4r(p:List Τ)(a:Ψ)(c:Own)(b:U)(d:aB isRow p a)(F:α p<=4000000):
  AC γ 107 [.J a c] b λr h=>av b h 1 a r:=by
 have G:=d.len;refine kJ λL=>?_;have x:c=.nil->a=[]:=λk=>by subst k;simp_all
 refine bg hm Ob acr ?_;simp -dsimp -implicitDefEqProofs (disch:=first|omega|assumption|(simp only[aX,Nat.reduceAdd];try omega)) only[go_sem,simprocAttr,↓mE];refine mF (λo=>by rw[x o]) (λo=>?_) ?_
 .have y:a=[]:=by trivial
  subst y;simp -dsimp -implicitDefEqProofs (disch:=first|omega|assumption|(simp only[aX,Nat.reduceAdd];try omega)) only[go_sem,simprocAttr,a8U];exact⟨b,η,av.nil η⟩
 .simp -dsimp -implicitDefEqProofs (disch:=first|omega|assumption|(simp only[aX,Nat.reduceAdd];try omega)) only[go_sem,simprocAttr,nC];have z:bT b 1 (.J a c)=β (α a,a):=by have C:=d.flat;have D:=a8A.2 λk E=>decide_eq_true (d.cells (λ_ _=>υ) k E);simp only[bT,D,if_true,C]
  refine eZ (av.zero (η)) acq z acq acs acs λr h o=>?_;simp -dsimp -implicitDefEqProofs (disch:=first|omega|assumption|(simp only[aX,Nat.reduceAdd];try omega)) only[go_sem,simprocAttr];exact⟨h,η,by trivial⟩
variable{n b6:R}{f s e5:U}{X:List Τ}{g B e1:Ψ}{e i v O e0 j6:Nat}
theorem a4s{y:Τ->Τ->Int}(l:pt e y){z:List Τ}(C:av s e5 1 g n)(D:aB isRow X g)(m:∀h∈X,α h=e)(Q:α X<=4000000)(P:X≠[])
  (S:z.Perm X) (q:z.Pairwise (λn p=>¬y p n<0)) (r:FuncId) (E:Ψ) (F:f.sub e5) (t:∀p,f p=ε\/∃u,f p=β (.ro u)) (v:fH γ r=ζ)
  (w:∀b G x A,α b=e->α G=e->AC γ r ([.J (af b) x,.J (af G) A]++E) f λh _=>h=.v (.int .i64 (y b G))):
  ∃c k,n=.aq c (α X) k 1/\α X<=k/\AC γ 108 [n,.bL r [] E] e5 λh o=>h=.aJ []/\s.sub o/\f.sub o/\∃d T,aB isRow z d/\o c=β (.ro (d++T))/\av s (o.set c (.cells (d++T))) 1 d n:=by
 obtain⟨c,B,k,V,rfl,L,H,I,W,K,i,M⟩:=C.aq (λY=>P (by have:=D.len;grind));rw[a8Y]at I W K;have Z:=D.len;obtain rfl:B=α X:=acq;have N:=a9h.2 P;refine⟨c,k,rfl,i,?_⟩;refine(a4p l H D rfl W acq N m S q r E F t v w).view λh o O=>?_;obtain⟨rfl,d,j,rfl⟩:=O;have k3:=j.len;have k4:=S.length_eq;refine⟨.aJ [],_,View.freeze (μ _ _ _),rfl,?_,?_,d,V.drop (α X),j,μ _ _ _,?_⟩
 .rw[ς];intro b x a;have:b≠c:=by rintro rfl;rw[L]at a;cases a
  rw[ξ _ _ this];exact C.1 _ _ a
 .rw[ς];intro b x a;have:b≠c:=by rintro rfl;have:=F _ _ a;grind
  rw[ξ _ _ this];exact F _ _ a
 .rw[ς,ς];refine⟨λb x a=>?_,.inr ⟨c,α X,k,d++V.drop (α X),rfl,L,μ _ _ _,?_,?_,?_,i,M⟩⟩
  .have:b≠c:=by rintro rfl;rw[L]at a;cases a
   rw[ξ _ _ this];exact C.1 _ _ a
  simp_all;simp_all
  .omega
end Go.Proofs.YtkafjfkjahgihaaGreat
namespace Go.bD
open Go
variable{q Y:R -> U -> Prop}{b5:FuncId}{f s e5:U}{g B e1:Ψ}{e i v O e0 j6:Nat}{m:Program}
def AC.fz(b:f e=β (.cells B))(c:AC m b5 g (f.set e (.ro B)) q):AC m b5 g f q:=
 c.pre λo p r d h=>by
  obtain⟨k,a⟩:=Step.freeze h b;exact⟨k,d.mono a.le,a⟩
def U.one(a:Nat)(b:bt):U:=λc=>if c=a then β b else ε
variable{Z:bt}
def U.a4t:U.one e Z e=β Z:=by simp[U.one]
theorem U.one_sub(b:f e=β Z):(U.one e Z).sub f:=λc d a=>by
 unfold U.one at a;simp_all
theorem U.a4u:∀a,U.one e (.ro g) a=ε\/∃b,U.one e (.ro g) a=β (.ro b):=λa=>by
 unfold U.one;grind
end Go.bD
namespace Go.Proofs.YtkafjfkjahgihaaGreat
open Go Go.bD
variable{n b6:R}{f s e5:U}{X:List Τ}{g B e1:Ψ}{e i v O e0 j6:Nat}
theorem a4v{k:List Τ}(o:av s e5 1 g n)(y:e5.sub f)(z:aB isRow X g)(C:∀a∈X,α a=v)(D:α X<=4000000)(E:X≠[])(w:e<v)(A:v<=8)
  (F:k.Perm X) (G:k.Pairwise (λn L=>¬cK e L n<0)) (P:f i=β (.cells [.v (.int .i64 (e:Int))])) (p:e5 i=ε):
  ∃b d,n=.aq b (α X) d 1/\α X<=d/\AC γ 108 [n,.bL 344 [] [.ptr i 0]] f λa c=>a=.aJ []/\s.sub c/\∃h r,aB isRow k h/\c b=β (.ro (h++r))/\av s (c.set b (.cells (h++r))) 1 h n:=by
 have S:=Ι o.1 p;have T:cN n≠β i:=λV=>av.has o V p;have W:=av.other (o.mono y) (o:=.ro [.v (.int .i64 (e))]) S T;obtain⟨b,d,rfl,j,l⟩:=a4s (qA v e) W z C D E F G 344 [.ptr i 0] (U.one_sub (μ f i (.ro [.v (.int .i64 (e:Int))]))) U.a4u acx (λm q t u B H=>(FT m q t u e _ i (by simp[U.read,U.a4t]) acq acq acq).mono λa c x=>x.2);refine⟨b,d,rfl,j,AC.fz P (l.mono λa c x=>?_)⟩;simp_all
def iY(b:Nat):Nat->ai->List Τ->Nat->Except Int au×ai
 |0,c,_,_=>(.ok aw,c)
 |o+1,c,a,dep=>if a=[]then(.ok aw,c)else
  match iY b o c ((en (dep%b) a).take (α a/2)) (dep+1)with
  |(.error d,h)=>(.error d,h)
  |(.ok p,h)=>match iY b o h ((en (dep%b) a).drop (α a/2+1)) (dep+1)with
   |(.error d,k)=>(.error d,k)
   |(.ok r,k)=>dG k b (cg ((en (dep%b) a).getD (α a/2) [],ζ) p r)
def pv(h a:U)(b c:Nat)(d:Except Int au×ai)(k:R):Prop:=bs a b c d.2/\Ext b c h a/\hf d.1 k
theorem hf.z:hf (.ok aw) (.aJ [.agg (ab aw .nil .nil .nil),.v (.int .i64 0)]):=⟨bm,qg,_,_,_,rfl⟩
theorem pv.z{a b:U}{c d:Nat}{h:ai}(o:bs a c d h)(k:a.sub b):pv a b c d (.ok aw,h) (.aJ [.agg (ab aw .nil .nil .nil),.v (.int .i64 0)]):=⟨o.mono k,ψ k,hf.z⟩
theorem H3(a c:Nat)(h:Nat)(k:Own)(o:Nat)(b:U)(d:ai)(x:bs b a c d):
  AC γ 253 [ee a h,.J [] k,.v (.int .i64 (o:Int))] b λp r=>pv b r a c (.ok aw,d) p:=by
 refine aL hm CR ?_;refine bp λy z=>?_;refine dk λC D E F=>?_;refine⟨_,η,?_⟩;grind[cr,Γ,aT,bm,pv.z,κ,η]
theorem Ag(d C:Nat)(c:Nat)(i:1<=c)(j:c<=8):∀(k:Nat)(b:List Τ)(D:Ψ)(G:Own)(dep:Nat)(r:U)(o:ai),bs r d C o->aB isRow b D->(∀h∈b,α h=c)->α b<=k->k<=4000000->dep+k<=100000000->
  AC γ 253 [ee d c,.J D G,.v (.int .i64 (dep:Int))] r λh a29=>pv r a29 d C (iY c k o b dep) h
 |0,b,D,G,dep,r,o,L,P,B,a30,_,_=>by
  obtain rfl:b=[]:=a8q acq;obtain rfl:D=[]:=a8q P.len;exact H3 d C c G dep r o L
 |k+1,b,D,G,dep,r,o,L,P,B,a30,b01,b02=>by
  have b03:=P.len;by_cases H:b=[]
  .subst H;obtain rfl:D=[]:=a8q P.len;rw[iY,if_pos rfl];exact H3 d C c G dep r o L
  have b04:=a9h.2 H;have b05:¬(α b:Int)=0:=acq;have a34:=aa7 dep i;have k3:=iY.eq_2 c o b dep k;rw[if_neg H]at k3;generalize iY c (k+1) o b dep=b06 at k3;obtain⟨n0,a36⟩:=u4 (e:=dep%c) B;have b07:=qq (dep%c) b;have n1:=λh l=>B h (n0.mem_iff.1 l);generalize en (dep%c) b=E at*;refine aL hm CR ?_;refine bp λn2 a38=>?_;refine dk λm I b08 b09=>?_;generalize K:(r.set n2 _).set m _=M;have n3:r.sub M:=by subst K;exact aR
  have aD:M n2=β (.cells [.ptr d 0,.v (.int .i64 (c))]):=by subst K;exact aR
  have bx:M m=β (.cells (ab aw .nil .nil .nil)):=by subst K;rw[<-cr];exact aR
  clear K;have k4:=L.mono n3;refine ag (a4r b D G M P acq) ?_;intro b10 a42 k5;refine aa ?_;have n4:=ι (k5.1 _ _ aD);refine aa ?_;refine ag (FU d c dep i acq j a42) ?_;rintro _ b11⟨n5,b12,S,n9,rfl⟩;refine aa ?_;obtain⟨z,p,rfl,a43,a00⟩:=a4v k5 n5 P B acq H a34 j n0 a36 S n9;refine ag a00 ?_;rintro _ k6⟨rfl,n,F,k7,N,a01,a02⟩;have a03:=av.fresh a02 rfl;clear a02;have b13:=N.len;have a47:=k4.mono n;have b14:=ι (n _ _ aD);clear a00 k5 S n9 n5 n4;have b15:(α b:Int).tdiv 2=((α b/2:Nat)):=rfl;have b16:ck 1 (.aq z (α b) p 1) ε (β (.v (.int .i64 ((α b/2:Nat))))) ε=β (.aq z (α b/2) p 1):=hZ acq;generalize b17:α b/2=a at*;have b18:a<α b:=acq;refine aa ?_;have b19:(F++k7).length=p\/True:=.inr trivial;have a48:(dep)+1=((dep+1:Nat):Int):=rfl;rw[a48];have a52:View k6 (.aq z a p 1) k6 (.J (F.take a) .any):=by have:=View.H2 (e:=a) (e0:=p) (i:=1) a01 (by rw[Ρ];omega);rwa[jX,a9O acq]at this
  refine ag (AC.lL (g:=[ee d c]) a52 (Ag d C c i j k (E.take a) (F.take a) .any (dep+1) k6 o a47 (N.take a) (λh l=>n1 h (a8v l)) (by rw[a8l];omega) acq acq)) ?_;rintro h a04⟨O,Q,k8⟩;generalize b20:iY c k o (E.take a) (dep+1)=rm at*;obtain⟨a56,a05⟩:=rm
  dsimp only at O k8
  have X:=L.cG a38;have x:=L.cG I;have Y:=k4.cG a03;have a06:=Q _ _ X.1 X.2 (n _ _ aD);have Z:=Q _ _ x.1 x.2 (n _ _ bx);have a57:=Q _ _ Y.1 Y.2 a01;have a07:=((ψ (ο n3 n)).trans Q);cases a56 with
  |error a08=>
   obtain⟨k9,rfl⟩:=k8;refine aa ?_;refine aN λq y=>?_;have l0:q≠m:=by rintro rfl;rw[Z]at y;cases y
   have a61:=l0.symm;have a62:=(aT (M:=.nil) (e7:=.nil) (j0:=.nil) bm).all;have a63:=lT (M:=.nil) (e7:=.nil) (j0:=.nil) bm;refine aa ?_;have a65:=τ Z;have a68:=cF (a:=.nil) (b:=.nil) (c:=.nil) (M:=.nil) (e7:=.nil) (j0:=.nil) bm bm;rw[cr];refine aa ?_;refine⟨_,η,?_⟩;exact⟨(O.mono (κ η y)).set x,(a07.trans (ψ (κ η y))).ef I,k9,rfl⟩
  |ok l1=>
   obtain⟨l2,a69,s,t,u,rfl⟩:=k8;refine aa ?_;refine aN λq y=>?_;have l0:q≠m:=by rintro rfl;rw[Z]at y;cases y
   have a61:=l0.symm;have b21:=(aT (M:=s) (e7:=t) (j0:=u) l2).all;have b22:=lT (M:=s) (e7:=t) (j0:=u) l2;refine aa ?_;have T:=κ (Z:=.cells (ab l1 s t u)) (η) y;have de:=μ a04 q (.cells (ab l1 s t u));have a71:=O.mono T;have n4:=ι (T _ _ a06);have a09:=T _ _ a57;have a73:=T _ _ Z;have a74:=T _ _ a06;have a81:=a07.trans (ψ T);rw[ς];generalize a04.set q _=l3 at*;have a10:∃v,ck 1 (.aq z (α b) p 1) (β (.v (.int .i64 ((a:Int)+1)))) ε ε=β v/\View l3 v l3 (.J (F.drop (a+1)) .any):=by
    by_cases S:a+1<p
    .refine⟨_,gm (e:=a+1) acq a43 S,?_⟩;rw[a8Y];have:=View.a4q (e:=a+1) (i:=α b -(a+1)) (e0:=p -(a+1)) a09 (by rw[Ρ];omega);grind
    .have a83:α b=p:=acq;have b23:a+1=α b:=acq;refine⟨_,by have:=uY (i:=1) (O:=z) (e2:=.i64) a83;rw[show(a)+1=(α b:Int) by omega];exact this,?_⟩;rw[a8Z acq];exact View.J
   obtain⟨l4,a10,a84⟩:=a10;refine aa ?_;refine ag (AC.lL (g:=[ee d c]) a84 (Ag d C c i j k (E.drop (a+1)) (F.drop (a+1)) .any (dep+1) l3 a05 a71 (N.drop (a+1)) (λh l=>n1 h (a8O l)) (by rw[a8z];omega) acq acq)) ?_;rintro h l5⟨l6,w,l7⟩;generalize b24:iY c k a05 (E.drop (a+1)) (dep+1)=nH at*;obtain⟨cI,oW⟩:=nH
   dsimp only at l6 l7 k3
   have b25:=k4.cG a03;have a11:=O.cG y;have a86:=w _ _ X.1 X.2 a74;have l8:=w _ _ x.1 x.2 a73;have a88:=w _ _ Y.1 Y.2 a09;have a89:=w _ _ a11.1 a11.2 de;have a13:=a81.trans w;cases cI with
   |error a08=>
    obtain⟨k9,rfl⟩:=l7;refine aa ?_;refine aN λA V=>?_;have a90:A≠m:=by rintro rfl;rw[l8]at V;cases V
    have b26:=a90.symm;have a62:=(aT (M:=.nil) (e7:=.nil) (j0:=.nil) bm).all;have a63:=lT (M:=.nil) (e7:=.nil) (j0:=.nil) bm;have a65:=τ l8;have a68:=cF (a:=.nil) (b:=.nil) (c:=.nil) (M:=.nil) (e7:=.nil) (j0:=.nil) bm bm;refine aa ?_;rw[cr];refine aa ?_;refine⟨_,η,?_⟩;exact⟨(l6.mono (κ η V)).set x,(a13.trans (ψ (κ η V))).ef I,k9,rfl⟩
   |ok cf=>
    obtain⟨l9,a92,W,e,f,rfl⟩:=l7;refine aa ?_;refine aN λA V=>?_;have b27:=(aT (M:=W) (e7:=e) (j0:=f) l9).all;have b28:=lT (M:=W) (e7:=e) (j0:=f) l9;refine aa ?_;rw[ς];have g:=κ (Z:=.cells (ab cf W e f)) (η) V;have b29:=ι (μ l5 A (.cells (ab cf W e f)));have a94:=l6.mono g;have b30:=ι (g _ _ a86);have b31:=ι (g _ _ a89);have b32:(l5.set A (.cells (ab cf W e f))).read z=β (F++k7):=by have:=g _ _ a88;simp only[U.read,this]
    have a95:=g _ _ l8;have a96:=a13.trans (ψ g);generalize l5.set A _=a97 at*;obtain⟨_,a98,a14,rfl⟩:=N.get (i:=a) (x:=E.getD a []) (by simp_all);have b33:cO 1 (.aq z (α b) p 1) (.v (.int .i64 (a)))=β (.ptr z (a*1)):=by grind[jj,Int.toNat_natCast]
    have b34:aQ θ 1 (List.drop a (F++k7))=.J (af (E.getD a [])) a14:=by obtain⟨a99,S⟩:=a8p.1 a98;rw[a9P acq,a8G a99,S];rfl
    refine aa ?_;refine ag (w7 a97 d C oW a94 (E.getD a [],ζ) l1 cf a14 s t u W e f c i j l2 l9 a69 a92) ?_;rintro h b35⟨b00,a15,a16⟩;have b36:=τ (a15 _ _ x.1 x.2 a95);obtain⟨b37,a18,l4,a19,a08,a27,rfl⟩:=a16.shape;have b38:=(aT (M:=a18) (e7:=l4) (j0:=a19) a27).all;have b39:=cF (a:=.nil) (b:=.nil) (c:=.nil) (M:=a18) (e7:=l4) (j0:=a19) bm a27;have b40:=(aT (M:=.nil) (e7:=.nil) (j0:=.nil) bm).len;refine aa ?_;refine⟨_,η,?_⟩;exact⟨b00.set x,(a96.trans a15).ef I,a16⟩
def mW(a:ai)(b:Nat)(c:au)(h:Nat):Except Int au×ai:=
 match fW a b (c.size.toNat+1) c with
 |none=>(.error 21,a)
 |some d=>iY b (α d) a d h
def H4(k:U)(d x:Nat)(c:ai)(o:bs k d x c)(a:au)(E F G:Own)(e:α a.sum=32)(A:a.cE)(b:Nat)(f:1<=b)(g:b<=8)(h:Nat)(Z:h<=10000000)(k3:a.size<=4000000):
  AC γ 187 [ee d b,.agg (ab a E F G),.v (.int .i64 (h:Int))] k λL B=>pv k B d x (mW c b a h) L:=by
 have k4:=(aT (M:=E) (e7:=F) (j0:=G) e).all;have i:mW c b a h=match fW c b (a.size.toNat+1) a with
  |none=>(.error 21,c)
  |some p=>iY b (α p) c p h:=rfl
 generalize mW c b a h=k5 at*;refine aL hm Qt ?_;refine bp λj k6=>?_;refine dk λH k7 k8 k9=>?_;refine gZ λl y a3 a4 a5 dB=>?_;generalize z:((k.set j _).set H _).set l _=C;have r:k.sub C:=by subst z;exact aR
 have aD:C j=β (.cells [.ptr d 0,.v (.int .i64 (b))]):=by subst z;exact aR
 have bl:C l=β (.cells (ab aw .nil .nil .nil)):=by subst z;rw[<-cr];exact aR
 clear z;refine ag (H0 d x c b f g (a.size.toNat+1) C (o.mono r) a E F G e A acq) ?_;rintro L l0⟨P,D⟩;cases S:fW c b (a.size.toNat+1) a with
 |none=>rw[S]at D i;obtain rfl:=D;have I:=(aT (M:=.nil) (e7:=.nil) (j0:=.nil) bm).all;have l1:=cF (a:=.nil) (b:=.nil) (c:=.nil) (M:=.nil) (e7:=.nil) (j0:=.nil) bm bm;have K:=τ (P _ _ bl);refine aa ?_;refine⟨_,η,?_⟩;rw[cr,Ο (by rw[I.1];omega)];exact⟨((o.mono r).mono P).set (o.cG y),((ψ r).trans (ψ P)).ef y,acv,rfl⟩
 |some p=>rw[S]at D i;obtain⟨M,l2,rfl,m,T⟩:=D;have n:=m;have l3:=ι (m.1 _ _ aD);rw[<-T.flat]at n;obtain⟨N,O,V⟩:=av.F5 n T;obtain⟨l4,Q⟩:=u5 S;have W:=o.cG y;have l5:=(aT (M:=.nil) (e7:=.nil) (j0:=.nil) bm).len;refine aa ?_;have X:=AC.lL (m:=γ) (g:=[ee d b]) O (Ag d x b f g (α p) p M .any h N c (((o.mono r)).mono V) T Q acq acq acq);refine ag X ?_;rintro L l6⟨Y,q,s⟩;obtain⟨l7,t,u,v,l8,w,rfl⟩:=s.shape;have K:=τ (q _ _ W.1 W.2 (V _ _ bl));have l9:=(aT (M:=t) (e7:=u) (j0:=v) w).all;have n0:=cF (a:=.nil) (b:=.nil) (c:=.nil) (M:=t) (e7:=u) (j0:=v) bm w;refine aa ?_;refine⟨_,η,?_⟩;exact⟨Y.set W,(((ψ r).trans (ψ V)).trans q).ef y,s⟩
end Go.Proofs.YtkafjfkjahgihaaGreat
namespace Go.bD
open Go
section
end
end Go.bD
namespace Go.Proofs.YtkafjfkjahgihaaGreat
open Go Go.bD
def mX(k:ai)(c:Nat)(o:Τ×Bool)(d h:au)(p:Nat):Except Int au×ai:=
 match dG k c (cg o d h)with
 |(.error r,a)=>(.error r,a)
 |(.ok b,a)=>if(2*b.size).tdiv 3+1<max d.size h.size then mW a c b p else(.ok b,a)
def jH(b:Nat)(h:Τ):Nat->ai->au->Nat->Except Int au×ai
 |0,a,_,_=>(.error 21,a)
 |r+1,a,k,dep=>if k=aw then dG a b (cg (h,ζ) k k)else match kY a b k with
  |none=>(.error 21,a)
  |some (d,bI)=>if d.1=h then(if d.2=ζ then(.error 8,a)else mX a b (d.1,ζ) (bI.getD 0 aw) (bI.getD 1 aw) dep)
   else if cK (dep%b) h d.1<0 then match jH b h r a (bI.getD 0 aw) (dep+1)with
    |(.error o,c)=>(.error o,c)
    |(.ok p,c)=>mX c b d p (bI.getD 1 aw) dep
   else match jH b h r a (bI.getD 1 aw) (dep+1)with
    |(.error o,c)=>(.error o,c)
    |(.ok p,c)=>mX c b d (bI.getD 0 aw) p dep
variable{A j9:au}{e i v O e0 j6:Nat}{H:ai}
theorem H5{h:ai}{k:Τ×Bool}{b:au}(a:dG H e (cg k A j9)=(.ok b,h)):b.size=1+A.size+j9.size/\0<=A.size/\0<=j9.size/\b.size<=1048576:=by
 unfold dG at a;split at a
 .simp_all
 .rename_i p o;simp only[a9u,Except.ok.injEq]at a;obtain⟨rfl,_⟩:=a;have c:=vH o;have d:=tZ c.ok;have:=c.size;simp only[cg,a9L,a8C,a9z,a9D,ab3]at this;exact⟨acq,(jE (d A (by simp[cg]))).1,(jE (d j9 (by simp[cg]))).1,c.nJ⟩
structure jI(cs:Ψ)(a b:au):Prop where
 len:74<=α cs
 c3:α a.sum=32
 qB:a.cE
 cm:α b.sum=32
 mA:b.cE
 cs:∃o5 o6 c d h k r,cs=ab a o5 o6 c++(ab b d h k++r)
variable{n b6:R}{f s e5:U}{g B e1:Ψ}
theorem jI.of{s:U}(p:av f s 37 (flat g) n)(r:aB bC [A,j9] g):∃a o b,n=.aq a 2 o 37/\f a=ε/\s a=β (.cells b)/\jI b A j9:=by
 match g,r with
 |[_,_],⟨⟨c3,qB,o5,o6,c,rfl⟩,⟨cm,mA,d,h,k,rfl⟩,_⟩=>
  have F:=(aT (M:=o5) (e7:=o6) (j0:=c) c3).len;have G:=(aT (M:=d) (e7:=h) (j0:=k) cm).len;have x:flat [R.agg (ab A o5 o6 c),.agg (ab j9 d h k)]=ab A o5 o6 c++ab j9 d h k:=by simp[flat,ρ]
  rw[x]at p;obtain⟨a,y,o,b,rfl,z,C,L,D,E,P,_⟩:=p.aq (λS=>by simp_all);rw[Ρ]at E;obtain rfl:y=2:=acq;refine⟨a,o,b,rfl,z,C,acq,c3,qB,cm,mA,o5,o6,c,d,h,k,b.drop 74,?_⟩;rw[<-a8w,<-D,a8K]
theorem jI.ld(p:jI g j9 A):∃h k o b c d,aQ ζ 37 g=.agg (ab j9 h k o)/\aQ ζ 37 (g.drop 37)=.agg (ab A b c d)/\aQ θ 1 (g.drop 35)=.v (.int .i64 j9.size)/\aQ θ 1 (g.drop 72)=.v (.int .i64 A.size):=by
 obtain⟨h,k,o,b,c,d,r,rfl⟩:=p.cs;have y:=(aT (M:=h) (e7:=k) (j0:=o) p.c3).len;have D:=(aT (M:=b) (e7:=c) (j0:=d) p.cm).len;have z:∀a,a<=37->(ab j9 h k o++(ab A b c d++r)).drop a=(ab j9 h k o).drop a++(ab A b c d++r):=λa C=>a9P acq;have x:∀a,a<=37->(ab j9 h k o++(ab A b c d++r)).drop (37+a)=(ab A b c d).drop a++r:=λa C=>by
  rw[<-a8T,aaH y,a9P acq]
 refine⟨h,k,o,b,c,d,?_,?_,?_,?_⟩
 .simp only[aQ,if_true];simp_all
 .rw[x 0 acq,a9I];simp only[aQ,if_true];simp_all
 .rw[z 35 acq,(aT p.c3).d35];rfl
 .rw[x 35 acq,(aT p.cm).d35];rfl
variable{M e7 j0:Own}
theorem jI.H6{k:au}(a:jI g k j9)(o:α A.sum=32)(y:A.cE):jI (putAt g 0 (ab A M e7 j0)) A j9:=by
 obtain⟨p,r,x,b,c,d,h,rfl⟩:=a.cs;have C:=(aT (M:=p) (e7:=r) (j0:=x) a.c3).len;have D:=(aT (M:=b) (e7:=c) (j0:=d) a.cm).len;have E:=(aT (M:=M) (e7:=e7) (j0:=j0) o).len;have z:putAt (ab k p r x++(ab j9 b c d++h)) 0 (ab A M e7 j0)=ab A M e7 j0++(ab j9 b c d++h):=by simp_all [putAt]
 rw[z];exact⟨by simp only[Ρ];omega,o,y,a.cm,a.mA,_,_,_,_,_,_,h,rfl⟩
theorem jI.H7{k:au}(a:jI g j9 k)(o:α A.sum=32)(y:A.cE):jI (putAt g 37 (ab A M e7 j0)) j9 A:=by
 obtain⟨b,c,d,p,r,x,h,rfl⟩:=a.cs;have C:=(aT (M:=b) (e7:=c) (j0:=d) a.c3).len;have D:=(aT (M:=p) (e7:=r) (j0:=x) a.cm).len;have E:=(aT (M:=M) (e7:=e7) (j0:=j0) o).len;have z:putAt (ab j9 b c d++(ab k p r x++h)) 37 (ab A M e7 j0)=ab j9 b c d++(ab A M e7 j0++h):=by grind[putAt,List.take_left',List.drop_drop,List.drop_left',List.append_assoc]
 rw[z];exact⟨by simp only[Ρ];omega,a.c3,a.qB,o,y,_,_,_,_,_,_,h,rfl⟩
set_option maxHeartbeats 1600000 in
theorem H8(h C:Nat)(a:Nat)(k9:1<=a)(O:a<=8)(c:Τ)(j:Own)(a16:α c=a):∀(T:Nat)(l:U)(p:ai)(_:bs l h C p)(k:au)(r x y:Own)(dep:Nat),α k.sum=32->k.cE->k.size.toNat<T->dep+T<=4000000->
  AC γ 184 [ee h a,.agg (ab k r x y),.J (af c) j,.v (.int .i64 (dep:Int))] l λQ D=>pv l D h C (jH a c T p k dep) Q
 |0,l,p,W,k,r,x,y,dep,fp,X,a99,b00=>by omega
 |T+1,l,p,W,k,r,x,y,dep,fp,X,a99,b00=>by
  have b01:=(aT (M:=r) (e7:=x) (j0:=y) fp).all;have b:=(jH.eq_2 a c p k dep T).symm;generalize jH a c (T+1) p k dep=a18 at*;refine aL hm Qn ?_;refine bp λv b02=>?_;refine dk λz a00 b43 b44=>?_;refine gZ λw m a3 a4 a5 dB=>?_;generalize l0:((l.set v _).set z _).set w _=n;have Y:l.sub n:=by subst l0;exact aR
  have aP:n v=β (.cells [.ptr h 0,.v (.int .i64 (a))]):=by subst l0;exact aR
  have bl:n z=β (.cells (ab k r x y)):=by subst l0;exact aR
  have bz:n w=β (.cells (ab aw .nil .nil .nil)):=by subst l0;rw[<-cr];exact aR
  clear l0;have b45:=ι aP;have b46:=ι bl;have n0:=W.mono Y;have Z:=W.cG b02;have k3:=W.cG a00;have d:=W.cG m;by_cases l1:k=aw
  .subst l1;refine bh (mL aw r x y n fp λ_=>X) ?_;refine ag (w7 n h C p n0 (c,ζ) aw aw j r x y r x y a k9 O fp fp X X) ?_;rintro Q b47⟨b03,a19,a27⟩;obtain⟨b04,l2,l3,l4,l5,l6,rfl⟩:=a27.shape;have n1:=τ (a19 _ _ d.1 d.2 bz);have b05:=(aT (M:=l2) (e7:=l3) (j0:=l4) l6).all;have A:=(aT (M:=.nil) (e7:=.nil) (j0:=.nil) bm).len;have B:=cF (a:=.nil) (b:=.nil) (c:=.nil) (M:=l2) (e7:=l3) (j0:=l4) bm l6;rw[if_pos rfl]at b;refine aa ?_;refine⟨_,η,?_⟩;rw[<-b];exact⟨b03.set d,((ψ Y).trans a19).ef m,a27⟩
  rw[if_neg l1]at b;refine bh (mL k r x y n fp λ_=>X) ?_;generalize a29:bW (Ctx.of γ) (dV.seq (dV.block 0 _) _)=b48;refine ag (zZ n h C p n0 k r x y fp X a k9 O) ?_;rintro Q a30⟨H,n2⟩;cases a01:kY p a k with
  |none=>
   rw[a01]at n2 b;obtain rfl:=n2
   dsimp only at b
   refine aa ?_;refine aN λe V=>?_;have b06:e≠w:=by rintro rfl;rw[H _ _ bz]at V;cases V
   have b49:=b06.symm;have n1:=τ (H _ _ bz);subst a29;have A:=(aT (M:=.nil) (e7:=.nil) (j0:=.nil) bm).len;have B:=cF (a:=.nil) (b:=.nil) (c:=.nil) (M:=.nil) (e7:=.nil) (j0:=.nil) bm bm;refine aa ?_;refine⟨_,η,?_⟩;rw[<-b,cr,Ο (by rw[A];omega)];exact⟨((n0.mono H).mono (κ η V)).set d,(((ψ Y).trans (ψ H)).trans (ψ (κ η V))).ef m,acv,rfl⟩
  |some b07=>
   obtain⟨o,b50⟩:=b07;rw[a01]at n2 b;obtain⟨E,b51,rfl,b52,b53,b08,b09⟩:=n2;obtain⟨n3,cf,rfl,b54,b55,b56,b57,b10,b58⟩:=we a01;obtain⟨k4,b59,F,rfl,f,a34,g⟩:=jI.of b08 b09;refine aa ?_;refine aN λe V=>?_;refine aa ?_;have a36:=κ (Z:=.cells [.J (af o.1) E,.v (.bool o.2)]) (η) V;have cj:=μ a30 e (.cells [.J (af o.1) E,.v (.bool o.2)]);have l7:=ο H a36;have a02:=l7 _ _ aP;have a38:=l7 _ _ bl;have a03:=l7 _ _ bz;have a42:=a36 _ _ a34;have a04:=n0.mono l7;have a05:=(ψ (l:=h) (lM:=C) Y).trans (ψ l7);have a06:=Ι Y (Ι H V);have n4:=Ι Y f;have b60:k4≠e:=by rintro rfl;rw[a34]at V;cases V
   generalize a30.set e _=k5 at*;subst a29;refine q1 [2,3,4,5,8,10,11] (λ_:(Τ×Bool)×au×au×ai=>[]) (λi D=>mX i.2.2.2 a i.1 i.2.1 i.2.2.1 dep=a18/\bs D h C i.2.2.2/\Ext h C l D/\(∃E,D e=β (.cells [.J (af i.1.1) E,.v (.bool i.1.2)]))/\(∃F,D k4=β (.cells F)/\jI F i.2.1 i.2.2.1)/\D v=β (.cells [.ptr h 0,.v (.int .i64 (a))])/\D z=β (.cells (ab k r x y))/\D w=β (.cells (ab aw .nil .nil .nil))) ?_ ?_
   .have b11:=ι cj;have b12:=ι a02;refine aa ?_;simp only[a8Q,a8V]at b;have b61:=cj;by_cases a07:o.1=c
    .rw[if_pos a07]at b;refine bh (lH o.1 c E j k5 acq) ?_;cases a43:o.2 with
     |true=>rw[if_pos a43]at b;have A:=(aT (M:=.nil) (e7:=.nil) (j0:=.nil) bm).len;have B:=cF (a:=.nil) (b:=.nil) (c:=.nil) (M:=.nil) (e7:=.nil) (j0:=.nil) bm bm;have n1:=τ a03;refine aa ?_;refine⟨_,η,?_⟩;rw[<-b,cr,Ο (by rw[A];omega)];exact⟨a04.set d,a05.ef m,acv,rfl⟩
     |false=>
      rw[if_neg (by rw[a43];decide)]at b;refine aa ?_;refine bh (lH c c E j k5 acq) ?_;have b62:=τ cj;refine aa ?_;have b13:v≠e:=by grind
      have b14:z≠e:=by grind
      have b15:w≠e:=by rintro rfl;exact absurd (H _ _ bz) (by rw[V];simp)
      refine⟨((o.1,ζ),n3,cf,p),b,a04.set (W.cG a06),a05.ef a06,⟨E,by rw[a07]⟩,⟨F,rfl,g⟩,?_,?_,?_⟩
      .rw[ξ _ _ b13];exact a02
      .rw[ξ _ _ b14];exact a38
      .rw[ξ _ _ b15];exact a03
    .rw[if_neg a07]at b;refine bh (lH o.1 c E j k5 acq) ?_;refine bh (lH o.1 c E j k5 acq) ?_;obtain⟨G,q,b63,b16,a47,b17⟩:∃(G:Nat)(q:au),G<2/\(if cK (dep%a) c o.1<0 then(0:Int)else 1)=(G:Int)/\(q.size.toNat<T/\α q.sum=32/\q.cE)/\
       (match jH a c T p q (dep+1)with
        |(.error l5,k6)=>(.error l5,k6)
        |(.ok l1,k6)=>mX k6 a o (if G=0 then l1 else n3) (if G=0 then cf else l1) dep)=a18/\∃I K M,aQ ζ 37 (F.drop (G*37))=.agg (ab q I K M):=by
      obtain⟨I,K,M,a08,a09,a10,a48,a52,_⟩:=g.ld;by_cases F:cK (dep%a) c o.1<0
      .rw[if_pos F]at b;exact⟨0,n3,acq,by rw[if_pos F];rfl,⟨acq,g.c3,g.qB⟩,b,I,K,M,a48⟩
      .rw[if_neg F]at b;exact⟨1,cf,acq,by rw[if_neg F];rfl,⟨acq,g.cm,g.mA⟩,b,a08,a09,a10,a52⟩
     obtain⟨b,I,K,M,b64⟩:=b17;obtain⟨b18,b19,b20⟩:=a47;have a56:=FV c o.1 j E h a dep acq O acq a16 b10 k5;rw[b16]at a56;have b21:=ι a42;have b22:=g.len;refine bh a56 ?_;have b23:(dep)+1=((dep+1:Nat):Int):=rfl;rw[b23];refine ag (H8 h C a k9 O c j a16 T k5 p a04 q I K M (dep+1) b19 b20 b18 acq) ?_;rintro Q b65⟨n5,k7,a57⟩;have N:=W.cG n4;have a61:=W.cG a06;have b66:=k7 _ _ Z.1 Z.2 a02;have b67:=k7 _ _ k3.1 k3.2 a38;have b24:=k7 _ _ d.1 d.2 a03;have b25:=k7 _ _ N.1 N.2 a42;have b68:=k7 _ _ a61.1 a61.2 cj;have n1:=τ b24;have b69:=τ b25;have a62:=a05.trans k7;have b26:k4≠w:=by rintro rfl;rw[bz]at f;cases f
     have b70:=b26.symm;have b71:v≠k4:=by rintro rfl;rw[aP]at f;cases f
     have a63:z≠k4:=by rintro rfl;rw[bl]at f;cases f
     have A:=(aT (M:=.nil) (e7:=.nil) (j0:=.nil) bm).all;have b72:G*37+37<=α F:=acq;generalize b73:jH a c T p q (dep+1)=b27 at*;obtain⟨pS,b28⟩:=b27;cases pS with
     |error l5=>
      obtain⟨a11,rfl⟩:=a57
      dsimp only at b n5
      have B:=cF (a:=.nil) (b:=.nil) (c:=.nil) (M:=.nil) (e7:=.nil) (j0:=.nil) bm bm;refine aa ?_;refine⟨_,η,?_⟩;rw[<-b,cr,Ο (by rw[A.1];omega)];exact⟨(n5.set N).set d,(a62.ef n4).ef m,a11,rfl⟩
     |ok a65=>
      obtain⟨a13,a68,L,P,S,rfl⟩:=a57
      dsimp only at b n5
      have a47:=(aT (M:=L) (e7:=P) (j0:=S) a13).all;refine aa ?_;refine⟨(o,(if G=0 then a65 else n3),(if G=0 then cf else a65),b28),b,n5.set N,a62.ef n4,⟨E,rfl⟩,_,rfl,?_⟩;obtain rfl|rfl:G=0\/G=1:=acq
      .exact g.H6 a13 a68
      .exact g.H7 a13 a68
   .rintro⟨a69,a71,a73,k6⟩ D ⟨s,b29,a74,⟨b30,b31⟩,⟨b74,a81,k8⟩,a14,b32,a83⟩ b75
    dsimp only at*
    have b11:=ι b31;have b12:=ι a14;have b21:=ι a81;obtain⟨I,K,M,a08,a09,a10,a48,a52,b76,b77⟩:=k8.ld;have b22:=k8.len;refine aa ?_;have a84:=w7 D h C k6 b29 a69 a71 a73 b30 I K M a08 a09 a10 a k9 O k8.c3 k8.cm k8.qB k8.mA;refine ag a84 ?_;clear a84;rintro Q l8⟨n9,t,a86⟩;have b78:=ι (t _ _ Z.1 Z.2 a14);have b33:=t _ _ k3.1 k3.2 b32;have b79:=τ b33;have n1:=τ (t _ _ d.1 d.2 a83);have N:=W.cG n4;have b80:=ι (t _ _ N.1 N.2 a81);have b34:=dB;have b35:=b34.symm;unfold mX at s;generalize b36:dG k6 a (cg a69 a71 a73)=b37 at*;obtain⟨r9,a88⟩:=b37;have A:=(aT (M:=.nil) (e7:=.nil) (j0:=.nil) bm).all;have b81:=b01;cases r9 with
    |error l5=>
     obtain⟨a11,rfl⟩:=a86
     dsimp only at s n9
     have B:=cF (a:=r) (b:=x) (c:=y) (M:=.nil) (e7:=.nil) (j0:=.nil) fp bm;have b82:=cF (a:=.nil) (b:=.nil) (c:=.nil) (M:=.nil) (e7:=.nil) (j0:=.nil) bm bm;refine aa ?_;refine⟨_,η,?_⟩;rw[<-s];exact⟨(n9.set k3).set d,((a74.trans t).ef a00).ef m,a11,rfl⟩
    |ok u=>
     obtain⟨l9,a89,L,P,S,rfl⟩:=a86;obtain⟨a90,b83,b84,b85⟩:=H5 b36
     dsimp only at s n9
     have B:=cF (a:=r) (b:=x) (c:=y) (M:=L) (e7:=P) (j0:=S) fp l9;have b86:=(aT (M:=L) (e7:=P) (j0:=S) l9).all;have b87:0<=(2*u.size).tdiv 3/\(2*u.size).tdiv 3<=3000000:=by grind
     have a63:k4≠z:=by rintro rfl;rw[bl]at f;cases f
     have b88:=a63.symm;have a92:v≠z:=acu;have b89:=a92.symm;have b90:=a90.symm;clear a90;refine aa ?_;have a94:bs (l8.set z (.cells (ab u L P S))) h C a88:=n9.set k3;have b38:=μ l8 z (.cells (ab u L P S));have b39:(l8.set z (.cells (ab u L P S))) v=β (.cells [.ptr h 0,.v (.int .i64 (a))]):=by rw[ξ _ _ a92];exact t _ _ Z.1 Z.2 a14
     have a95:(l8.set z (.cells (ab u L P S))) w=β (.cells (ab aw .nil .nil .nil)):=by rw[ξ _ _ b35];exact t _ _ d.1 d.2 a83
     have a96:=(a74.trans t).ef (Z:=.cells (ab u L P S)) a00;generalize l8.set z _=b40 at*;have b91:=ι b39;have b92:=ι b38;have b41:=τ a95;refine aG (λa15=>?_) λa15=>?_
     .rw[if_pos a15]at s;refine ag (H4 b40 h C a88 a94 u L P S l9 a89 a k9 O dep acq acq) ?_;rintro Q b93⟨b42,a97,a98⟩;obtain⟨b04,l2,l3,l4,l5,l6,rfl⟩:=a98.shape;have b41:=τ (a97 _ _ d.1 d.2 a95);have b05:=(aT (M:=l2) (e7:=l3) (j0:=l4) l6).all;have B:=cF (a:=.nil) (b:=.nil) (c:=.nil) (M:=l2) (e7:=l3) (j0:=l4) bm l6;refine aa ?_;refine⟨_,η,?_⟩;rw[<-s];exact⟨b42.set d,(a96.trans a97).ef m,a98⟩
     .rw[if_neg a15]at s;have B:=cF (a:=.nil) (b:=.nil) (c:=.nil) (M:=L) (e7:=P) (j0:=S) bm l9;refine⟨_,η,?_⟩;rw[<-s];exact⟨a94.set d,a96.ef m,l9,a89,_,_,_,rfl⟩
def H9(o:Except Int au)(h:R):Prop:=
 match o with
 |.error k=>k≠0/\∃a b c d,α a.sum=32/\h=.aJ [.agg (ab a b c d),.v (.int .i64 k)]
 |.ok a=>α a.sum=32/\a.cE/\∃b c d,h=.aJ [.agg (ab a b c d),.v (.int .i64 0)]
def hf.x{a:Except Int au}(b:hf a n):H9 a n:=by
 cases a with
 |error c=>exact⟨b.1,aw,_,_,_,bm,b.2⟩
 |ok d=>exact b
def Ah(h a:U)(b c:Nat)(d:Except Int au×ai)(k:R):Prop:=bs a b c d.2/\Ext b c h a/\H9 d.1 k
def gA(b:Nat)(h:Τ):Nat->ai->au->Nat->Except Int au×ai
 |0,a,_,_=>(.error 21,a)
 |p+1,a,r,dep=>if r=aw then(.error 9,a)else match kY a b r with
  |none=>(.error 21,a)
  |some (d,bI)=>if d.1=h then(if d.2=ζ then dG a b (cg (d.1,θ) (bI.getD 0 aw) (bI.getD 1 aw))else(.error 9,a))
   else if cK (dep%b) h d.1<0 then match gA b h p a (bI.getD 0 aw) (dep+1)with
    |(.error k,c)=>(.error k,c)
    |(.ok o,c)=>dG c b (cg d o (bI.getD 1 aw))
   else match gA b h p a (bI.getD 1 aw) (dep+1)with
    |(.error k,c)=>(.error k,c)
    |(.ok o,c)=>dG c b (cg d (bI.getD 0 aw) o)
set_option maxHeartbeats 1600000 in
theorem Ha(k T:Nat)(b:Nat)(k9:1<=b)(Q:b<=8)(c:Τ)(f:Own)(n3:α c=b):∀(z:Nat)(V:U)(o:ai)(_:bs V k T o)(d:au)(C D E:Own)(dep:Nat),α d.sum=32->d.cE->d.size.toNat<z->dep+z<=4000000->
  AC γ 186 [ee k b,.agg (ab d C D E),.J (af c) f,.v (.int .i64 (dep:Int))] V λX p=>Ah V p k T (gA b c z o d dep) X
 |0,V,o,W,d,C,D,E,dep,fp,Y,a38,a42=>by omega
 |z+1,V,o,W,d,C,D,E,dep,fp,Y,a38,a42=>by
  have b16:=(aT (M:=C) (e7:=D) (j0:=E) fp).all;have a:=(gA.eq_2 b c o d dep z).symm;generalize gA b c (z+1) o d dep=n4 at*;refine aL hm Qr ?_;refine bp λB a43=>?_;refine dk λH a47 b17 b18=>?_;refine gZ λs t a3 a4 a5 dB=>?_;generalize I:((V.set B _).set H _).set s _=g;have u:V.sub g:=by subst I;exact aR
  have aP:g B=β (.cells [.ptr k 0,.v (.int .i64 (b))]):=by subst I;exact aR
  have bl:g H=β (.cells (ab d C D E)):=by subst I;exact aR
  have bz:g s=β (.cells (ab aw .nil .nil .nil)):=by subst I;rw[<-cr];exact aR
  clear I;have b19:=ι aP;have b20:=ι bl;have Z:=W.mono u;have n5:=W.cG a43;have n9:=W.cG a47;have G:=W.cG t;by_cases K:d=aw
  .subst K;refine bh (mL aw C D E g fp λ_=>Y) ?_;have k3:=τ bz;have k4:=cF (a:=.nil) (b:=.nil) (c:=.nil) (M:=C) (e7:=D) (j0:=E) bm fp;have i:=(aT (M:=.nil) (e7:=.nil) (j0:=.nil) bm).len;rw[if_pos rfl]at a;refine aa ?_;refine⟨_,η,?_⟩;rw[<-a];exact⟨Z.set G,(ψ u).ef t,acv,aw,_,_,_,fp,rfl⟩
  rw[if_neg K]at a;refine bh (mL d C D E g fp λ_=>Y) ?_;generalize a00:bW (Ctx.of γ) (dV.seq (dV.block 0 _) _)=b21;refine ag (zZ g k T o Z d C D E fp Y b k9 Q) ?_;rintro X a01⟨j,k5⟩;cases l0:kY o b d with
  |none=>
   rw[l0]at k5 a;obtain rfl:=k5
   dsimp only at a
   refine aa ?_;refine aN λL F=>?_;have a48:L≠s:=by rintro rfl;rw[j _ _ bz]at F;cases F
   have b22:=a48.symm;have k3:=τ (j _ _ bz);subst a00;have i:=(aT (M:=.nil) (e7:=.nil) (j0:=.nil) bm).len;have k4:=cF (a:=.nil) (b:=.nil) (c:=.nil) (M:=.nil) (e7:=.nil) (j0:=.nil) bm bm;refine aa ?_;refine⟨_,η,?_⟩;rw[<-a,cr,Ο (by rw[i];omega)];exact⟨((Z.mono j).mono (κ η F)).set G,(((ψ u).trans (ψ j)).trans (ψ (κ η F))).ef t,acv,aw,_,_,_,bm,rfl⟩
  |some a52=>
   obtain⟨h,b23⟩:=a52;rw[l0]at k5 a;obtain⟨r,b24,rfl,b25,b26,a56,a57⟩:=k5;obtain⟨k6,cf,rfl,b27,b28,b29,b30,a61,b31⟩:=we l0;obtain⟨M,b32,x,rfl,l,a02,P⟩:=jI.of a56 a57;refine aa ?_;refine aN λL F=>?_;refine aa ?_;have a03:=κ (Z:=.cells [.J (af h.1) r,.v (.bool h.2)]) (η) F;have cj:=μ a01 L (.cells [.J (af h.1) r,.v (.bool h.2)]);have N:=ο j a03;have l1:=N _ _ aP;have a04:=N _ _ bl;have l2:=N _ _ bz;have a05:=a03 _ _ a02;have l3:=Z.mono N;have l4:=(ψ (l:=k) (lM:=T) u).trans (ψ N);have l5:=Ι u (Ι j F);have l6:=Ι u l;have b33:M≠L:=by rintro rfl;rw[a02]at F;cases F
   generalize a01.set L _=v at*;subst a00;refine q1 [2,3,4,5,8,10,11] (λ_:(Τ×Bool)×au×au×ai=>[]) (λS p=>dG S.2.2.2 b (cg S.1 S.2.1 S.2.2.1)=n4/\bs p k T S.2.2.2/\Ext k T V p/\(∃r,p L=β (.cells [.J (af S.1.1) r,.v (.bool S.1.2)]))/\(∃x,p M=β (.cells x)/\jI x S.2.1 S.2.2.1)/\p B=β (.cells [.ptr k 0,.v (.int .i64 (b))])/\p H=β (.cells (ab d C D E))/\p s=β (.cells (ab aw .nil .nil .nil))) ?_ ?_
   .have a62:=ι cj;have a63:=ι l1;refine aa ?_;simp only[a8Q,a8V]at a;have b34:=cj;by_cases l7:h.1=c
    .rw[if_pos l7]at a;refine bh (lH h.1 c r f v acq) ?_;cases a06:h.2 with
     |false=>rw[if_neg (by rw[a06];decide)]at a;have i:=(aT (M:=.nil) (e7:=.nil) (j0:=.nil) bm).len;have k4:=cF (a:=.nil) (b:=.nil) (c:=.nil) (M:=.nil) (e7:=.nil) (j0:=.nil) bm bm;have k3:=τ l2;refine aa ?_;refine⟨_,η,?_⟩;rw[<-a,cr,Ο (by rw[i];omega)];exact⟨l3.set G,l4.ef t,acv,aw,_,_,_,bm,rfl⟩
     |true=>
      rw[if_pos a06]at a;refine aa ?_;refine bh (lH c c r f v acq) ?_;have b35:=τ cj;refine aa ?_;have a65:B≠L:=by grind
      have a68:H≠L:=by grind
      have a69:s≠L:=by rintro rfl;exact absurd (j _ _ bz) (by rw[F];simp)
      refine⟨((h.1,θ),k6,cf,o),a,l3.set (W.cG l5),l4.ef l5,⟨r,by rw[l7]⟩,⟨x,rfl,P⟩,?_,?_,?_⟩
      .rw[ξ _ _ a65];exact l1
      .rw[ξ _ _ a68];exact a04
      .rw[ξ _ _ a69];exact l2
    .rw[if_neg l7]at a;refine bh (lH h.1 c r f v acq) ?_;refine bh (lH h.1 c r f v acq) ?_;obtain⟨y,e,b36,a71,a07,a73⟩:∃(y:Nat)(e:au),y<2/\(if cK (dep%b) c h.1<0 then(0:Int)else 1)=(y:Int)/\(e.size.toNat<z/\α e.sum=32/\e.cE)/\
       (match gA b c z o e (dep+1)with
        |(.error l8,O)=>(.error l8,O)
        |(.ok K,O)=>dG O b (cg h (if y=0 then K else k6) (if y=0 then cf else K)))=n4/\∃m n q,aQ ζ 37 (x.drop (y*37))=.agg (ab e m n q):=by
      obtain⟨m,n,q,l9,n0,n1,a08,a09,_⟩:=P.ld;by_cases x:cK (dep%b) c h.1<0
      .rw[if_pos x]at a;exact⟨0,k6,acq,by rw[if_pos x];rfl,⟨acq,P.c3,P.qB⟩,a,m,n,q,a08⟩
      .rw[if_neg x]at a;exact⟨1,cf,acq,by rw[if_neg x];rfl,⟨acq,P.cm,P.mA⟩,a,l9,n0,n1,a09⟩
     obtain⟨a,m,n,q,b37⟩:=a73;obtain⟨a74,a81,a83⟩:=a07;have a10:=FV c h.1 f r k b dep acq Q acq n3 a61 v;rw[a71]at a10;have a84:=ι a05;have a86:=P.len;refine bh a10 ?_;have a88:(dep)+1=((dep+1:Nat):Int):=rfl;rw[a88];refine ag (Ha k T b k9 Q c f n3 z v o l3 e m n q (dep+1) a81 a83 a74 acq) ?_;rintro X b38⟨k7,w,a11⟩;have k8:=W.cG l6;have a13:=W.cG l5;have b39:=w _ _ n5.1 n5.2 l1;have b40:=w _ _ n9.1 n9.2 a04;have a89:=w _ _ G.1 G.2 l2;have a90:=w _ _ k8.1 k8.2 a05;have b41:=w _ _ a13.1 a13.2 cj;have k3:=τ a89;have b42:=τ a90;have a14:=l4.trans w;have a92:M≠s:=by rintro rfl;rw[bz]at l;cases l
     have b43:=a92.symm;have b44:B≠M:=by rintro rfl;rw[aP]at l;cases l
     have b45:H≠M:=by rintro rfl;rw[bl]at l;cases l
     have i:=(aT (M:=.nil) (e7:=.nil) (j0:=.nil) bm).all;have b46:y*37+37<=α x:=acq;generalize b47:gA b c z o e (dep+1)=a94 at*;obtain⟨pS,a95⟩:=a94;cases pS with
     |error l8=>
      obtain⟨a96,b48,a97,a98,a99,b00,rfl⟩:=a11
      dsimp only at a k7
      have k4:=cF (a:=.nil) (b:=.nil) (c:=.nil) (M:=.nil) (e7:=.nil) (j0:=.nil) bm bm;have b49:=(aT (M:=a97) (e7:=a98) (j0:=a99) b00).all;refine aa ?_;refine⟨_,η,?_⟩;rw[<-a,cr,Ο (by rw[i.1];omega)];exact⟨(k7.set k8).set G,(a14.ef l6).ef t,a96,aw,_,_,_,bm,rfl⟩
     |ok a15=>
      obtain⟨n2,a16,b01,b02,b03,rfl⟩:=a11
      dsimp only at a k7
      have a07:=(aT (M:=b01) (e7:=b02) (j0:=b03) n2).all;refine aa ?_;refine⟨(h,(if y=0 then a15 else k6),(if y=0 then cf else a15),a95),a,k7.set k8,a14.ef l6,⟨r,rfl⟩,_,rfl,?_⟩;obtain rfl|rfl:y=0\/y=1:=acq
      .exact P.H6 n2 a16
      .exact P.H7 n2 a16
   .rintro⟨b04,b05,b06,O⟩ p ⟨b07,b08,b09,⟨b10,b11⟩,⟨b50,b12,A⟩,b13,b51,b14⟩ b52
    dsimp only at*
    have a62:=ι b11;have a63:=ι b13;have a84:=ι b12;obtain⟨m,n,q,l9,n0,n1,a08,a09,b53,b54⟩:=A.ld;have a86:=A.len;refine aa ?_;have a18:=w7 p k T O b08 b04 b05 b06 b10 m n q l9 n0 n1 b k9 Q A.c3 A.cm A.qB A.mA;refine ag a18 ?_;clear a18;rintro X b55⟨b15,a19,a27⟩;have k3:=τ (a19 _ _ G.1 G.2 b14);obtain⟨b56,a29,a30,a34,l8,a36,rfl⟩:=a27.shape;have b57:=(aT (M:=a29) (e7:=a30) (j0:=a34) a36).all;have i:=(aT (M:=.nil) (e7:=.nil) (j0:=.nil) bm).len;have k4:=cF (a:=.nil) (b:=.nil) (c:=.nil) (M:=a29) (e7:=a30) (j0:=a34) bm a36;refine aa ?_;refine⟨_,η,?_⟩;rw[<-b07];exact⟨b15.set G,(b09.trans a19).ef t,a27.x⟩
def a4w(b:Int)(a:Τ)(d:R)(k:isRow a d)(c:U)(h:Nat)(r:c.read h=β [.v (.int .i64 b)]):
  AC γ 241 [d,.ptr h 0] c λo p=>p=c/\o=.v (.bool (!decide ((α a:Int)=b))):=by
 obtain⟨x,rfl⟩:=k;have y:=bM (t:=a);by_cases z:(α a)=b
 .refine aL hm CP ?_
  repeat' first|refine aG (λ_=>?_) λ_=>?_|trivial
 .refine aL hm CP ?_
  repeat' first|refine aG (λ_=>?_) λ_=>?_|trivial
theorem Hb(a:Nat)(b:List Τ)(d:Ψ)(r:Own)(h:U)(o:aB isRow b d)(x:α b<=1000000000000)(F:1<=a)(G:a<=8)(L:∀c∈b,α c=a):
  AC γ 183 [.v (.int .i64 (a:Int)),.J d r] h λc k=>k=h/\c=.v (.bool ζ):=by
 have P:(1)<=(a:Int):=acq;have S:(a:Int)<=8:=acq;refine aL hm Ql ?_;refine bp λp y=>?_;have T:=κ (Z:=.cells [.v (.int .i64 (a))]) (η) y;have c2:=μ h p (.cells [.v (.int .i64 (a))]);refine ag (EY b d _ _ o (bS.J (o.cells λ_ _=>υ)) x (b5:=241) ⟨by rfl,λz C k D E=>a4w a z C D k p (ι (E _ _ c2))⟩) ?_;rintro _ _⟨rfl,rfl⟩;have:b.any (λc=> !decide ((α c)=(a:Int)))=false:=by simp_all
 rw[this];exact aR
def od(b:Nat)(c:Τ)(d:ai)(a:au):Except Int au×ai:=jH b c (a.size.toNat+1) d a 0
def a4x(c:U)(k y:Nat)(z:ai)(D:bs c k y z)(a:au)(o p r:Own)(E:α a.sum=32)(n:a.cE)(v:a.size<=2000000)(d:Τ)(F:Own)(b:Nat)(G:1<=b)(L:b<=8)(P:α d=b):
  AC γ 126 [.ptr k 0,.agg (ab a o p r),.J (af d) F,.v (.int .i64 (b:Int))] c λS q=>pv c q k y (od b d z a) S:=by
 have w:=(aT (M:=o) (e7:=p) (j0:=r) E).all;refine aL hm ON ?_;refine bp λT A=>?_;refine dk λV W B H=>?_;refine vf λs I _ _ _ _=>?_;generalize x:((c.set T _).set V _).set s _=h;have e:c.sub h:=by subst x;exact aR
 have bl:h T=β (.cells (ab a o p r)):=by subst x;exact aR
 have bz:h V=β (.cells (ab aw .nil .nil .nil)):=by subst x;rw[<-cr];exact aR
 clear x;have t:=D.mono e;have C:=D.cG W;have K:=ι bl;refine bh (Hb b [d] _ _ h ⟨⟨_,rfl⟩,trivial⟩ acr G L (by simp[P])) ?_;refine ag (H8 k y b G L d F P (a.size.toNat+1) h z t a o p r 0 E n acq acq) ?_;rintro S M⟨u,f,g⟩;obtain⟨N,i,j,l,O,m,rfl⟩:=g.shape;have Q:=τ (f _ _ C.1 C.2 bz);have X:=(aT (M:=i) (e7:=j) (j0:=l) m).all;have Y:=(aT (M:=.nil) (e7:=.nil) (j0:=.nil) bm).len;have Z:=cF (a:=.nil) (b:=.nil) (c:=.nil) (M:=i) (e7:=j) (j0:=l) bm m;refine aa ?_;refine⟨_,η,?_⟩;exact⟨u.set C,((ψ e).trans f).ef W,g⟩
theorem a4y{h:ai}{k:Τ×Bool}{b:au}(a:dG H e (cg k j9 b)=(.ok A,h)):0<=A.live/\A.live<=3000000:=by
 unfold dG at a;split at a
 .simp_all
 .rename_i p o;simp only[a9u,Except.ok.injEq]at a;obtain⟨rfl,_⟩:=a;have c:=vH o;have d:=tZ c.ok;have r:=rG (d j9 (by simp[cg]));have x:=rG (d b (by simp[cg]));rw[c.eq];grind[dF,eJ,cg,eA,ea]
variable{t b8:Τ}
theorem a4z:∀ {h:Nat}{c a:ai}{d b:au}{dep:Nat},gA e t h c d dep=(.ok b,a)->∃o p r x,dG o e (cg p r x)=(.ok b,a)
 |0,c,a,d,b,dep,k=>by rw[gA]at k;simp_all
 |h+1,c,a,d,b,dep,k=>by
  grind[gA,Prod.mk.inj]
def jJ(c:Nat)(h:Τ)(k:ai)(d:au):Except Int au×ai:=
 match gA c h (d.size.toNat+1) k d 0 with
 |(.error o,a)=>(.error o,a)
 |(.ok b,a)=>if 2*b.live<b.size then mW a c b 0 else(.ok b,a)
def a4A(S:U)(h T:Nat)(x:ai)(e:bs S h T x)(b:au)(C D E:Own)(f:α b.sum=32)(n2:b.cE)(a18:b.size<=2000000)(k:Τ)(O:Own)(a:Nat)(t:1<=a)(u:a<=8)(Q:α k=a):
  AC γ 128 [.ptr h 0,.agg (ab b C D E),.J (af k) O,.v (.int .i64 (a:Int))] S λv n3=>Ah S n3 h T (jJ a k x b) v:=by
 have a19:=(aT (M:=C) (e7:=D) (j0:=E) f).all;refine aL hm OR ?_;refine bp λd w=>?_;refine dk λF g a27 a29=>?_;refine vf λn4 a30 _ _ _ _=>?_;generalize i:((S.set d _).set F _).set n4 _=G;have X:S.sub G:=by subst i;exact aR
 have bl:G d=β (.cells (ab b C D E)):=by subst i;exact aR
 have bz:G F=β (.cells (ab aw .nil .nil .nil)):=by subst i;rw[<-cr];exact aR
 clear i;refine bh (Hb a [k] _ _ G ⟨⟨_,rfl⟩,trivial⟩ acr t u (by simp[Q])) ?_;refine aN λy L=>?_;have Y:d≠y:=by rintro rfl;rw[bl]at L;cases L
 have n5:=Y.symm;have Z:F≠y:=by rintro rfl;rw[bz]at L;cases L
 have a34:=Z.symm;have n9:=Ι X L;have a36:=ι bl;refine aa ?_;have A:=κ (Z:=.cells [.ptr h 0,.v (.int .i64 (a))]) (η) L;have k3:=ο X A;have k4:=A _ _ bl;have a00:=A _ _ bz;have k5:=μ G y (.cells [.ptr h 0,.v (.int .i64 (a))]);generalize G.set y _=a01 at*;have a02:=e.mono k3;have a38:=ι k4;have a42:=ι k5;have j:=e.cG w;have z:=e.cG g;have k6:=e.cG n9;refine ag (Ha h T a t u k O Q (b.size.toNat+1) a01 x a02 b C D E 0 f n2 acq acq) ?_;rintro v V⟨l,m,k7⟩;have a03:=m _ _ j.1 j.2 k4;have k8:=m _ _ z.1 z.2 a00;have a04:=m _ _ k6.1 k6.2 k5;have a43:=τ a03;have a47:=τ k8;have a48:=(aT (M:=.nil) (e7:=.nil) (j0:=.nil) bm).len;have c:jJ a k x b=match gA a k (b.size.toNat+1) x b 0 with
  |(.error B,n)=>(.error B,n)
  |(.ok q,n)=>if 2*q.live<q.size then mW n a q 0 else(.ok q,n):=rfl
 generalize jJ a k x b=a52 at c|-;have a05:d≠F:=acu;have a06:=a05.symm;have Y:d≠y:=acu;have Z:F≠y:=acu;generalize a07:gA a k (b.size.toNat+1) x b 0=a08 at*;obtain⟨pS,k9⟩:=a08;have l0:=(ψ k3).trans m;cases pS with
 |error B=>
  obtain⟨a09,a10,H,I,K,s,rfl⟩:=k7
  dsimp only at c l
  have M:=cF (a:=C) (b:=D) (c:=E) (M:=H) (e7:=I) (j0:=K) f s;have a56:=cF (a:=.nil) (b:=.nil) (c:=.nil) (M:=H) (e7:=I) (j0:=K) bm s;have a57:=(aT (M:=H) (e7:=I) (j0:=K) s).all;replace c:=c.symm;refine aa ?_;refine⟨_,η,?_⟩;rw[<-c];exact⟨(l.set j).set z,(l0.ef w).ef g,a09,a10,_,_,_,s,rfl⟩
 |ok P=>
  obtain⟨W,l1,o,p,r,rfl⟩:=k7
  dsimp only at c l
  obtain⟨_,_,_,_,l2⟩:=a4z a07;obtain⟨a61,a62⟩:=a4y l2;have a63:=(H5 l2).2.2.2;have M:=cF (a:=C) (b:=D) (c:=E) (M:=o) (e7:=p) (j0:=r) f W;have a65:=(aT (M:=o) (e7:=p) (j0:=r) W).all;replace c:=c.symm;refine aa ?_;have l3:bs (V.set d (.cells (ab P o p r))) h T k9:=l.set j;have a11:=μ V d (.cells (ab P o p r));have l4:(V.set d (.cells (ab P o p r))) F=β (.cells (ab aw .nil .nil .nil)):=by rw[ξ _ _ a06];exact k8
  have a13:(V.set d (.cells (ab P o p r))) y=β (.cells [.ptr h 0,.v (.int .i64 (a))]):=by rw[ξ _ _ n5];exact a04
  have l5:=l0.ef (Z:=.cells (ab P o p r)) w;generalize V.set d _=a14 at*;have a68:=ι a11;have a69:=ι a13;have a15:=τ l4;refine aG (λN=>?_) λN=>?_
  .rw[if_pos N]at c;refine ag (H4 a14 h T k9 l3 P o p r W l1 a t u 0 acq acq) ?_;rintro v a71⟨a16,l6,l7⟩;obtain⟨a73,l8,l9,n0,B,n1,rfl⟩:=l7.shape;have a15:=τ (l6 _ _ z.1 z.2 l4);have a74:=(aT (M:=l8) (e7:=l9) (j0:=n0) n1).all;have M:=cF (a:=.nil) (b:=.nil) (c:=.nil) (M:=l8) (e7:=l9) (j0:=n0) bm n1;refine aa ?_;refine⟨_,η,?_⟩;rw[<-c];exact⟨a16.set z,(l5.trans l6).ef g,l7.x⟩
  .rw[if_neg N]at c;have M:=cF (a:=.nil) (b:=.nil) (c:=.nil) (M:=o) (e7:=p) (j0:=r) bm W;refine⟨_,η,?_⟩;rw[<-c];exact⟨l3.set z,l5.ef g,W,l1,_,_,_,rfl⟩
end Go.Proofs.YtkafjfkjahgihaaGreat
namespace Go.bD
open Go
end Go.bD
namespace Go.Proofs.YtkafjfkjahgihaaGreat
open Go Go.bD
def aC.rows:aC->List Τ
 |.nil=>[]
 |.node a _ b c=>a::(b.rows++c.rows)
theorem aC.gB:∀ {c:aC}{b:Τ},b∈c.all->b∈c.rows
 |.nil,b,a=>a
 |.node d live h k,b,a=>by
  simp only[aC.all,a8u]at a;simp only[aC.rows,a8E,a8u];rcases a with (a|a)|a
  .exact .inr (.inl (aC.gB a))
  .exact .inr (.inr (aC.gB a))
  .cases live<;>simp at a;exact .inl a
def aC.c9(a:Nat)(b:aC):Prop:=∀c∈b.rows,bU a c
def aC.c9.a{a:Nat}{c:Τ}{d:Bool}{b h:aC}(k:(aC.node c d b h).c9 a):b.c9 a:=λo p=>k o (by simp[aC.rows,p])
def aC.c9.b{a:Nat}{c:Τ}{d:Bool}{h b:aC}(k:(aC.node c d h b).c9 a):b.c9 a:=λo p=>k o (by simp[aC.rows,p])
def aC.c9.r{b:Nat}{a:Τ}{c:Bool}{d h:aC}(k:(aC.node a c d h).c9 b):bU b a:=k a (by simp[aC.rows])
variable{I:Bool}{a7:aC}{t b8:Τ}{e i v O e0 j6:Nat}
def aC.c9.mk{b:aC}(d:bU e t)(h:a7.c9 e)(k:b.c9 e):(aC.node t I a7 b).c9 e:=λc a=>by
 simp only[aC.rows,a8E,a8u]at a;rcases a with rfl|a|a
 .exact d
 .exact h c a
 .exact k c a
theorem aC.c9.ok{b:Nat}:∀ {c:aC},c.c9 b->c.Ok b
 |.nil,_=>trivial
 |.node _ _ _ _,a=>⟨a.r.len,a.a.ok,a.b.ok⟩
def bn:aC->au
 |.nil=>aw
 |.node a live b c=>dF (cg (a,live) (bn b) (bn c))
structure jK(d:Nat)(t:aC)(k:au):Prop where
 sum:α k.sum=32
 live:k.live=(α t.all:Int)
 size:k.size=(t.size:Int)
 aS:(α t.all=0/\k.aV=[]/\k.aU=[])\/(0<α t.all/\hl d (k.aV,k.aU))
 key:k.key=[]
 z:t=.nil->k=aw
theorem jK.ok{c:Nat}{a:aC}{d:au}(b:jK c a d)(y:a.size<=1048576):fb c d=true:=by
 have z:=b.size;have C:=b.live;have D:=lO a;unfold fb;cases a with
 |nil=>rw[decide_eq_true (b.z rfl),Bool.true_or]
 |node h k o p=>
  have E:1<=(aC.node h k o p).size:=by simp only[Ζ];omega
  generalize aC.node h k o p=a at*;rw[a9U];right;rw[Ξ];refine⟨acs,?_⟩;rcases b.aS with⟨x,r,F⟩|⟨x,r⟩;grind
  .rw[if_neg acq];exact r.ok
variable{A j9:au}
theorem jK.kU(a:jK e a7 A)(p:a7.size<=1048576):A.In e:=by
 have r:=a.size;have x:=a.live;have y:=lO a7;have b:dm A.aV/\dm A.aU/\α A.aV<=e/\α A.aU<=e:=by
  rcases a.aS with⟨h,c,z⟩|⟨h,c⟩;grind
  .have d:=lN.1 c.ok;have C:α A.aV=e:=d.2.2.1;have D:α A.aU=e:=d.2.2.2.1;exact⟨c.aV,c.aU,acq,acq⟩
 have k:dm A.key:=by rw[a.key];intro E o;cases o
 exact⟨a.sum,b.1,b.2.1,k,b.2.2.1,b.2.2.2,by rw[a.key];simp,acq,acq,acq,acq⟩
theorem Ai{a:gM}(d:mP i e a)(k:jK i a7 A):mP i (e+α a7.all) (eA a A):=by
 have o:(eA a A).live=((e+α a7.all:Nat)):=by show a.live+A.live= _;rw[d.live,k.live];push_cast;rfl
 refine⟨o,?_⟩;show(e+α a7.all=0/\cT a.aS (A.aV,A.aU)=([],[]))\/(0<e+α a7.all/\hl i (cT a.aS (A.aV,A.aU)));rcases k.aS with⟨p,b,r⟩|⟨p,b⟩
 .rw[b,r];rcases d.aS with⟨h,c⟩|⟨h,c⟩;grind[a1Z];grind[FM]
 .right;refine⟨acq,?_⟩;rcases d.aS with⟨h,c⟩|⟨h,c⟩
  .rw[c,qo b];exact b
  .exact zl c b
def Aj:jK e .nil aw:=⟨rfl,rfl,rfl,.inl ⟨rfl,rfl,rfl⟩,rfl,λ_=>rfl⟩
def wg(C:1<=e)(D:e<=8){a:aC}(k:bU e t)(b:jK e a7 A)(c:jK e a j9)(T:a7.size+a.size<1048576):
  (cg (t,I) A j9).In e/\jK e (.node t I a7 a) (dF (cg (t,I) A j9))/\fL e (cg (t,I) A j9)=β (dF (cg (t,I) A j9)):=by
 have p:dZ e (cg (t,I) A j9)=true:=by unfold dZ cg;simp[k.len,b.ok acq,c.ok acq,b.key,c.key]
 have r:=zm C D k;have E:mP e (if I=ζ then 1 else 0) (ea ⟨0,1,([],[])⟩ (t,I)):=by
  cases I with
  |false=>exact⟨rfl,.inl ⟨rfl,rfl⟩⟩
  |true=>refine⟨rfl,.inr ⟨acv,?_⟩⟩;show hl e (cT ([],[]) (gp t));rw[qo r];exact r
 have o:=Ai (Ai E b) c;have x:eJ (cg (t,I) A j9)=eA (eA (ea ⟨0,1,([],[])⟩ (t,I)) A) j9:=rfl;have F:(aC.node t I a7 a).all.length=(if I=ζ then 1 else 0)+α a7.all+α a.all:=by simp only[aC.all,Ρ];split<;>simp<;>omega
 rw[<-x,<-F]at o;have y:(eJ (cg (t,I) A j9)).size=((aC.node t I a7 a).size):=by
  rw[x];have d:(ea ⟨0,1,([],[])⟩ (t,I)).size=1:=by cases I<;>rfl
  show(ea ⟨0,1,([],[])⟩ (t,I)).size+A.size+j9.size= _;rw[d,b.size,c.size,Ζ];push_cast;rfl
 refine⟨⟨p,λG L=>?_,λz P=>?_⟩,⟨p4 _,o.live,y,?_,?_,λS=>by cases S⟩,?_⟩
 .obtain rfl:G=(t,I):=by simpa[cg] using L
  exact k.kh
 .have:z=A\/z=j9:=by simpa[cg] using P
  rcases this with rfl|rfl
  .exact b.kU acq
  .exact c.kU acq
 .rcases o.aS with⟨d,h⟩|⟨d,h⟩
  .left;refine⟨d,?_,?_⟩
   .show(eJ _).aS.1=[];rw[h]
   .show(eJ _).aS.2=[];rw[h]
  .exact .inr ⟨d,h⟩
 .show keyOf (cg (t,I) A j9)=[];unfold keyOf cg;rfl
 .unfold fL;rw[if_pos p,if_neg (by rw[y];simp only[Ζ];omega)]
def eM{a:Nat}(c:1<=a)(d:a<=8):∀ {b:aC},b.c9 a->b.size<=1048576->jK a b (bn b)
 |.nil,_,_=>Aj
 |.node o live p r,h,k=>by
  simp only[Ζ]at k;exact(wg c d h.r (eM c d h.a acq) (eM c d h.b acq) acq).2.1
def eg(a:ai):aC->Prop
 |.nil=>True
 |.node d live b c=>a.m (eb (cY (cg (d,live) (bn b) (bn c))))=β (cY (cg (d,live) (bn b) (bn c)))/\eg a b/\eg a c
def eg.mono{c d:ai}(a:c.le d):∀ {h:aC},eg c h->eg d h
 |.nil,_=>trivial
 |.node _ _ _ _,b=>⟨a.m _ _ b.1,b.2.1.mono a,b.2.2.mono a⟩
def Ak(c:1<=e)(d:e<=8){a:aC}(h:(aC.node t I a7 a).c9 e)(k:(aC.node t I a7 a).size<=1048576):bn (.node t I a7 a)≠aw:=λo=>by
 have b:=(eM c d h k).size;rw[o]at b;have:(aw).size=0:=rfl;simp only[Ζ]at b;omega
variable{H:ai}
def u6(b:1<=e)(c:e<=8){a:aC}(d:(aC.node t I a7 a).c9 e)(h:(aC.node t I a7 a).size<=1048576)(k:eg H (.node t I a7 a)):ei H e (bn (.node t I a7 a))=β (cg (t,I) (bn a7) (bn a)):=by have o:=h;simp only[Ζ]at o;obtain⟨p,x,r⟩:=wg (I:=I) b c d.r (eM b c d.a acq) (eM b c d.b acq) acq;unfold ei;rw[show H.m (bn (.node t I a7 a)).sum=β (cY (cg (t,I) (bn a7) (bn a)))from k.1];simp only;rw[Eo acq p];simp only;rw[r];exact if_pos rfl
def wh(b:1<=e)(c:e<=8){a:aC}(d:(aC.node t I a7 a).c9 e)(h:(aC.node t I a7 a).size<=1048576)(k:eg H (.node t I a7 a)):kY H e (bn (.node t I a7 a))=β ((t,I),[bn a7,bn a]):=by unfold kY;rw[u6 b c d h k];rfl
theorem Al{b:Nat}(c:1<=b)(d:b<=8){x:ai}:∀ {a:aC}{z:Nat},a.c9 b->a.size<=1048576->eg x a->a.size<z->∃y,fW x b z (bn a)=β y/\y.Perm a.all
 |a,0,_,_,_,C=>by omega
 |.nil,z+1,_,_,_,_=>⟨[],by rw[fW];rfl,.refl _⟩
 |.node E live h k,z+1,o,p,r,C=>by
  have F:=eM c d o p;have G:=p;simp only[Ζ]at G C;rw[fW];by_cases D:(bn (.node E live h k)).live=0
  .rw[if_pos D];have S:=F.live;simp_all
  .rw[if_neg D,wh c d o p r];obtain⟨T,L,V⟩:=Al c d (z:=z) o.a acq r.2.1 acq;obtain⟨W,P,e⟩:=Al c d (z:=z) o.b acq r.2.2 acq
   dsimp only
   rw[show [bn h,bn k].getD 0 aw=bn h from rfl,show [bn h,bn k].getD 1 aw=bn k from rfl,L,P];refine⟨_,rfl,?_⟩;grind[aC.all,List.append_assoc]
def a4B(a:1<=e)(b:e<=8)(c:a7.c9 e)(d:a7.size<=1048576)(k:eg H a7):∃h,fW H e ((bn a7).size.toNat+1) (bn a7)=β h/\h.Perm a7.all:=by have o:=(eM a b c d).size;exact Al a b c d k acq
structure gf(a:ai)(t:aC)(r:Except Int au×ai):Prop where
 le:a.le r.2
 ins:r.2.one=θ->r.1=.ok (bn t)/\eg r.2 t
def gf.bind{o:aC}{h:Except Int au×ai}{k:au->ai->Except Int au×ai}(c:gf H a7 h)(p:∀(b:au) (a:ai),a.le (k b a).2)(y:∀a,H.le a->a.one=θ->eg a a7->gf a o (k (bn a7) a)):
  gf H o (match(generalizing:=false) h with
   |(.error r,a)=>(.error r,a)
   |(.ok b,a)=>k b a):=by
 obtain⟨z,a⟩:=h;cases z with
 |error r=>exact⟨c.le,λd=>by cases (c.ins d).1⟩
 |ok b=>refine⟨c.le.trans (p b a),λd=>?_⟩;have x:=(p b a).zero d;obtain⟨C,D⟩:=c.ins x;obtain rfl:=Except.ok.inj C;exact(y a c.le x D).ins d
theorem wi(c:Nat):∀(k:Nat)(d:ai)(b:List Τ)(dep:Nat),d.le (iY c k d b dep).2
 |0,d,_,_=>ai.le_refl
 |k+1,d,b,dep=>by
  rw[iY];split
  .exact ai.le_refl
  have h:=wi c k d ((en (dep%c) b).take (α b/2)) (dep+1);split
  .rename_i a;rw[a]at h;exact h
  rename_i r p a;rw[a]at h;have o:=wi c k p ((en (dep%c) b).drop (α b/2+1)) (dep+1);split
  .rename_i a;rw[a]at o;exact h.trans o
  rename_i x y a;rw[a]at o;exact(h.trans o).trans (ko)
theorem wj(a:ai)(b:Nat)(c:au)(d:Nat):a.le (mW a b c d).2:=by grind[mW,ai.le_refl,wi]
theorem u7(b:ai)(d:Nat)(h:Τ×Bool)(k o:au)(p:Nat):b.le (mX b d h k o p).2:=by
 unfold mX;have a:=ko (H:=b) (e:=d) (c0:=cg h k o);split
 .rename_i c;rw[c]at a;exact a
 rename_i c;rw[c]at a;split
 .exact a.trans (wj _ _ _ _)
 .exact a
def sa(b:1<=e)(c:e<=8){a:aC}(d:(aC.node t I a7 a).c9 e)(k:(aC.node t I a7 a).size<=1048576)(o:eg H a7)(p:eg H a):gf H (.node t I a7 a) (dG H e (cg (t,I) (bn a7) (bn a))):=by simp only[Ζ]at k;obtain⟨y,z,r⟩:=wg (I:=I) b c d.r (eM b c d.a acq) (eM b c d.b acq) acq;rw[s8 r];have h:=lV H (cY (cg (t,I) (bn a7) (bn a)));exact⟨h,λx=>⟨rfl,s7 x,o.mono h,p.mono h⟩⟩
theorem sb{h:Nat}:∀ {k:Nat}{b:List Τ}{dep:Nat}{c:Τ},c∈(fR h k b dep).rows->c∈b
 |0,_,_,_,a=>by trivial
 |k+1,b,dep,c,a=>by
  rw[fR]at a;by_cases d:b=[]
  .rw[if_pos d]at a;trivial
  rw[if_neg d]at a;have o:=a9h.2 d;have p:=qq (dep%h) b;simp only[aC.rows,a8E,a8u]at a;rcases a with rfl|a|a
  .rw[a9c,Μ acq];exact rS.1 (a8L _)
  .exact rS.1 (a8v (sb a))
  .exact rS.1 (a8O (sb a))
def Am(b:Nat)(a:List Τ)(c:Nat)(d:∀h∈a,bU e h):(fR e b a c).c9 e:=λk o=>d k (sb o)
theorem An{b:Nat}(E:1<=b)(F:b<=8):∀(d:Nat)(x:ai)(a k:List Τ)(dep:Nat),k.Perm a->(∀c∈a,bU b c)->α a<=d->α a<=1048576->gf x (fR b d a dep) (iY b d x k dep)
 |0,x,a,k,dep,_,_,_,_=>⟨ai.le_refl,λ_=>⟨rfl,trivial⟩⟩
 |d+1,x,a,k,dep,C,y,s,t=>by
  have T:=C.length_eq;by_cases D:a=[]
  .subst D;obtain rfl:k=[]:=C.eq_nil;rw[iY,if_pos rfl,fR,if_pos rfl];exact⟨ai.le_refl,λ_=>⟨rfl,trivial⟩⟩
  have V:k≠[]:=λW=>D (by subst W;simp_all);have u:=a9h.2 D;have e:en (dep%b) k=en (dep%b) a:=by obtain⟨G,f⟩:=u4 λo z=>(y o z).len;obtain⟨g,i⟩:=u4 λo z=>(y o (C.mem_iff.1 z)).len;exact Af (qA b _) (λo z=>(y o (G.mem_iff.1 z)).len) (g.trans (C.trans G.symm)) f i
  rw[iY,if_neg V,fR,if_neg D,e,T];have v:=qq (dep%b) a;have hm:=λo=>rS (e:=dep%b) (X:=a) (t:=o);generalize en (dep%b) a=h at*;have L:∀c∈h.take (α a/2),bU b c:=λc p=>y c ((hm c).1 (a8v p));have P:∀c∈h.drop (α a/2+1),bU b c:=λc p=>y c ((hm c).1 (a8O p));have w:(h.take (α a/2)).length=α a/2:=by rw[a8l];omega
  have A:(h.drop (α a/2+1)).length=α a -(α a/2+1):=by rw[a8z];omega
  have B:=rT b d (h.take (α a/2)) (dep+1);have H:=rT b d (h.drop (α a/2+1)) (dep+1);have j:bU b (h.getD (α a/2) []):=by grind
  refine gf.bind (An E F d x _ _ (dep+1) (.refl _) L acq acq) (λl S=>?_) λm I K n=>?_
  .have r:=wi b d S (h.drop (α a/2+1)) (dep+1);split
   .rename_i p;rw[p]at r;exact r
   .rename_i p;rw[p]at r;exact r.trans (ko)
  .refine gf.bind (An E F d m _ _ (dep+1) (.refl _) P acq acq) (λl S=>ko) λM r N q=>?_;exact sa E F (aC.c9.mk j (Am _ _ _ L) (Am _ _ _ P)) (by simp only[Ζ];omega) (n.mono r) q
def Hc(b:1<=e)(c:e<=8)(d:a7.c9 e)(k:a7.size<=1048576)(o:eg H a7)(a:Nat):gf H (fR e (α a7.all) a7.all a) (mW H e (bn a7) a):=by
 obtain⟨y,p,h⟩:=a4B b c d k o;have z:=lO a7;unfold mW;rw[p]
 dsimp only
 rw[h.length_eq];exact An b c _ H _ _ a h (λr x=>d r (aC.gB x)) (a8P _) acq
theorem Ao(c:1<=e)(d:e<=8){a:aC}(b:(aC.node t I a7 a).c9 e)(h:(aC.node t I a7 a).size<=1048576)(p:eg H a7)(r:eg H a)(k:Nat):gf H (hE e (.node t I a7 a) k) (mX H e (t,I) (bn a7) (bn a) k):=by
 have x:=h;simp only[Ζ]at x;have C:=(eM c d b h).size;have D:=(eM c d b.a acq).size;have E:=(eM c d b.b acq).size;unfold mX;refine gf.bind (sa c d b h p r) (λF G=>?_) λL P S y=>?_;grind[wj,ai.le_refl]
 .have z:((2*(bn (.node t I a7 a)).size).tdiv 3+1<max (bn a7).size (bn a).size)↔max a7.size a.size>2*(aC.node t I a7 a).size/3+1:=by grind
  unfold hE
  dsimp only
  by_cases o:max a7.size a.size>2*(aC.node t I a7 a).size/3+1;simp_all [Hc]
  .rw[if_neg (λb=>o (z.1 b)),if_neg o];exact⟨ai.le_refl,λ_=>⟨rfl,y⟩⟩
theorem Ap(a:t∈(hE e a7 i).rows):t∈a7.rows:=by unfold hE at a;grind[aC.gB,sb]
theorem u9{h:Nat}{d:Τ}:∀ {r:aC}{dep:Nat}{c:Τ},c∈(da h d r dep).1.rows->c=d\/c∈r.rows
 |.nil,dep,c,b=>by
  grind[da,aC.rows,List.mem_singleton]
 |.node k live o p,dep,c,b=>by
  rw[da]at b;split at b
  .have:=Ap (a7:=.node k ζ o p) b;exact .inr this
  split at b
  .have a:=Ap (a7:=.node k live (da h d o (dep+1)).1 p) b;simp only[aC.rows,a8E,a8u]at a|-;rcases a with a|a|a
   .simp_all
   .exact(u9 a).imp_right λb=>.inr (.inl b)
   .simp_all
  .have a:=Ap (a7:=.node k live o (da h d p (dep+1)).1) b;simp only[aC.rows,a8E,a8u]at a|-;rcases a with a|a|a
   .simp_all
   .simp_all
   .exact(u9 a).imp_right λb=>.inr (.inr b)
def qC(b:bU e t)(c:a7.c9 e):(da e t a7 i).1.c9 e:=λd a=>by
 rcases u9 a with rfl|a
 .exact b
 .exact c d a
theorem Aq{h:Nat}{k:Τ}:∀(d:Nat)(c:ai)(o:au)(dep:Nat),c.le (jH h k d c o dep).2
 |0,c,_,_=>ai.le_refl
 |d+1,c,o,dep=>by
  rw[jH];split
  .exact ko
  split
  .exact ai.le_refl
  rename_i r p x;split;grind[ai.le_refl,u7];split
  .have a:=Aq (h:=h) (k:=k) d c (p.getD 0 aw) (dep+1);split
   .rename_i b;rw[b]at a;exact a
   .rename_i b;rw[b]at a;exact a.trans (u7 _ _ _ _ _ _)
  .have a:=Aq (h:=h) (k:=k) d c (p.getD 1 aw) (dep+1);split
   .rename_i b;rw[b]at a;exact a
   .rename_i b;rw[b]at a;exact a.trans (u7 _ _ _ _ _ _)
def Ar{h:Nat}{k:Τ}:∀(d:Nat)(c:ai)(o:au)(dep:Nat),c.le (gA h k d c o dep).2
 |0,c,_,_=>ai.le_refl
 |d+1,c,o,dep=>by
  rw[gA];split
  .exact ai.le_refl
  split
  .exact ai.le_refl
  rename_i r p x;split
  .split
   .exact ko
   .exact ai.le_refl
  split
  .have a:=Ar (h:=h) (k:=k) d c (p.getD 0 aw) (dep+1);split
   .rename_i b;rw[b]at a;exact a
   .rename_i b;rw[b]at a;exact a.trans (ko)
  .have a:=Ar (h:=h) (k:=k) d c (p.getD 1 aw) (dep+1);split
   .rename_i b;rw[b]at a;exact a
   .rename_i b;rw[b]at a;exact a.trans (ko)
theorem a4C(b:ai)(c:au):b.le (jJ e t b c).2:=by
 unfold jJ;have a:=Ar (h:=e) (k:=t) (c.size.toNat+1) b c 0;split
 .rename_i d;rw[d]at a;exact a
 rename_i d;rw[d]at a;split
 .exact a.trans (wj _ _ _ _)
 .exact a
theorem As{b:Nat}(c:1<=b)(d:b<=8){h:Τ}(y:bU b h):∀(k:aC)(o:ai)(r dep:Nat),k.c9 b->k.size+1<=1048576->eg o k->k.size<r->(da b h k dep).2=ζ->gf o (da b h k dep).1 (jH b h r o (bn k) dep)
 |k,o,0,dep,_,_,_,L,_=>by omega
 |.nil,o,r+1,dep,_,_,_,_,_=>by
  rw[jH,if_pos (show bn .nil=aw from rfl),da];exact sa c d (aC.c9.mk y (λS D=>by cases D) (λS D=>by cases D)) (by trivial) trivial trivial
 |.node P live z C,o,r+1,dep,a,T,p,L,x=>by
  have V:=T;simp only[Ζ]at V L;rw[jH,if_neg (Ak c d a acq),wh c d a acq p]
  dsimp only
  rw[show [bn z,bn C].getD 0 aw=bn z from rfl,show [bn z,bn C].getD 1 aw=bn C from rfl];rw[da]at x|-;by_cases E:P=h
  .simp only[if_pos E]at x|-;have W:live=false:=by simp_all
   rw[if_neg (by rw[W];simp)];exact Ao c d (aC.c9.mk a.r a.a a.b) (by simp only[Ζ];omega) p.2.1 p.2.2 dep
  .by_cases c2:cK (dep%b) h P<0
   .simp only[if_neg E,if_pos c2]at x|-;have e:=qs b h z (dep+1);exact gf.bind (As c d y z o r (dep+1) a.a acq p.2.1 acq x) (λf g=>u7 _ _ _ _ _ _) λi F j G=>Ao c d (aC.c9.mk a.r (qC y a.a) a.b) (by simp only[Ζ];omega) G (p.2.2.mono F) dep
   .simp only[if_neg E,if_neg c2]at x|-;have e:=qs b h C (dep+1);exact gf.bind (As c d y C o r (dep+1) a.b acq p.2.2 acq x) (λf g=>u7 _ _ _ _ _ _) λi F j G=>Ao c d (aC.c9.mk a.r a.a (qC y a.b)) (by simp only[Ζ];omega) (p.2.1.mono F) G dep
def ua{b:Nat}{c:Τ}:∀ {a:aC}{dep:Nat},(cn b c a dep).1.rows=a.rows
 |.nil,dep=>rfl
 |.node d live h k,dep=>by
  rw[cn];split
  .rfl
  split
  .show _::(_++ _)= _::(_++ _);rw[ua]
  .show _::(_++ _)= _::(_++ _);rw[ua]
def ub(a:a7.c9 e):(cn e t a7 i).1.c9 e:=λb c=>a b (by rwa[ua]at c)
def Au{c:Nat}(k:1<=c)(o:c<=8){p:Τ}:∀(d:aC)(h:ai)(x dep:Nat),d.c9 c->d.size<=1048576->eg h d->d.size<x->(cn c p d dep).2=ζ->gf h (cn c p d dep).1 (gA c p x h (bn d) dep)
 |d,h,0,dep,_,_,_,G,_=>by omega
 |.nil,h,x+1,dep,_,_,_,_,b=>by rw[cn]at b;cases b
 |.node L live y z,h,x+1,dep,a,C,r,G,b=>by
  have P:=C;simp only[Ζ]at P G;rw[gA,if_neg (Ak k o a C),wh k o a C r]
  dsimp only
  rw[show [bn y,bn z].getD 0 aw=bn y from rfl,show [bn y,bn z].getD 1 aw=bn z from rfl];rw[cn]at b|-;by_cases D:L=p
  .simp only[if_pos D]at b|-;rw[if_pos b];exact sa k o (aC.c9.mk a.r a.a a.b) (by simp only[Ζ];omega) r.2.1 r.2.2
  .by_cases c2:cK (dep%c) p L<0
   .simp only[if_neg D,if_pos c2]at b|-;have S:=qt c p y (dep+1);exact gf.bind (Au k o y h x (dep+1) a.a acq r.2.1 acq b) (λT V=>ko) λW E e F=>sa k o (aC.c9.mk a.r (ub a.a) a.b) (by simp only[Ζ];omega) F (r.2.2.mono E)
   .simp only[if_neg D,if_neg c2]at b|-;have S:=qt c p z (dep+1);exact gf.bind (Au k o z h x (dep+1) a.b acq r.2.2 acq b) (λT V=>ko) λW E e F=>sa k o (aC.c9.mk a.r a.a (ub a.b)) (by simp only[Ζ];omega) (r.2.1.mono E) F
theorem Av{b:Nat}(h:1<=b)(k:b<=8){o:Τ}{y:ai}:∀(a:aC)(c dep:Nat),a.c9 b->a.size<=1048576->eg y a->a.size<c->(cn b o a dep).2=θ->gA b o c y (bn a) dep=(.error 9,y)
 |a,0,dep,_,_,_,D,_=>by omega
 |.nil,c+1,dep,_,_,_,_,d=>by rw[gA];rfl
 |.node E live p r,c+1,dep,x,z,C,D,d=>by
  have G:=z;simp only[Ζ]at G D;rw[gA,if_neg (Ak h k x z),wh h k x z C]
  dsimp only
  rw[show [bn p,bn r].getD 0 aw=bn p from rfl,show [bn p,bn r].getD 1 aw=bn r from rfl];rw[cn]at d;by_cases F:E=o;simp_all
  .by_cases c2:cK (dep%b) o E<0
   .simp only[if_neg F,if_pos c2]at d|-;rw[Av h k p c (dep+1) x.a acq C.2.1 acq d]
   .simp only[if_neg F,if_neg c2]at d|-;rw[Av h k r c (dep+1) x.b acq C.2.2 acq d]
def a4D(a:1<=e)(b:e<=8)(d:bU e t)(c:a7.c9 e)(h:a7.size+1<=1048576)(k:eg H a7)(o:(da e t a7 0).2=ζ):gf H (da e t a7 0).1 (od e t H (bn a7)):=by have:=(eM a b c acq).size;exact As a b d a7 H _ 0 c h k acq o
theorem a4E(a:1<=e)(b:e<=8)(c:a7.c9 e)(d:a7.size<=1048576)(h:eg H a7)(k:(cn e t a7 0).2=θ):jJ e t H (bn a7)=(.error 9,H):=by have:=(eM a b c d).size;grind[jJ,Av]
theorem a4F(b:1<=e)(c:e<=8)(a:a7.c9 e)(d:a7.size<=1048576)(x:eg H a7)(h:(cn e t a7 0).2=ζ):gf H (lP e t a7).1 (jJ e t H (bn a7)):=by
 have y:=(eM b c a d).size;have z:=qt e t a7 0;have k:=ub (t:=t) (i:=0) a;have o:=eM b c k acq;have C:=o.size;have D:=o.live;unfold jJ;refine gf.bind (Au b c a7 H _ 0 a d x acq h) (λE F=>?_) λG L P p=>?_;grind[wj,ai.le_refl]
 .unfold lP;by_cases r:2*(cn e t a7 0).1.all.length<(cn e t a7 0).1.size
  .rw[if_pos (show(cn e t a7 0).2=ζ/\2*(cn e t a7 0).1.all.length<(cn e t a7 0).1.size from⟨h,r⟩),if_pos (show 2*(bn (cn e t a7 0).1).live<(bn (cn e t a7 0).1).size by omega)];exact Hc b c k acq p 0
  .rw[if_neg (show¬((cn e t a7 0).2=ζ/\2*(cn e t a7 0).1.all.length<(cn e t a7 0).1.size)from λa=>r a.2),if_neg (show¬2*(bn (cn e t a7 0).1).live<(bn (cn e t a7 0).1).size by omega)];exact⟨ai.le_refl,λ_=>⟨rfl,p⟩⟩
def aC.la(a:Nat):aC->Nat->Prop
 |.nil,_=>True
 |.node c _ d h,dep=>(∀b∈d.rows,cK (dep%a) b c<0)/\(∀b∈h.rows,cK (dep%a) c b<0)/\d.la a (dep+1)/\h.la a (dep+1)
def aC.qD{c:Nat}:∀ {k:aC}{dep:Nat},k.c9 c->k.la c dep->k.all.Pairwise (·≠ ·)
 |.nil,_,_,_=>.nil
 |.node y live D E,dep,b,⟨h1,r,z,C⟩=>by
  have o:=qA c (dep%c);rw[aC.all];refine a9r.2 ⟨a9r.2 ⟨aC.qD b.a z,aC.qD b.b C,λd a x h p=>?_⟩,by cases live<;>simp,λd a x h p=>?_⟩
  .subst p;exact o.Ae (b.a d (aC.gB a)).len b.r.len (h1 d (aC.gB a)) (r d (aC.gB h))
  .obtain rfl:x=y:=by cases live<;>simp at h;exact h
   subst p;rcases a8u.1 a with a|a
   .exact o.kc _ b.r.len (h1 _ (aC.gB a))
   .exact o.kc _ b.r.len (r _ (aC.gB a))
variable{X:List Τ}
theorem Hd(a:e<α X):X=X.take e++X.getD e []::X.drop (e+1):=by simp_all
theorem wk{h:Nat}:∀(c:Nat)(a:List Τ)(dep:Nat),α a<=c->(∀b∈a,α b=h)->(fR h c a dep).all.Perm a
 |0,a,dep,x,_=>by
  obtain rfl:a=[]:=a8q acq;rfl
 |c+1,a,dep,x,p=>by
  rw[fR];by_cases k:a=[]
  .rw[if_pos k,k];rfl
  rw[if_neg k];have y:=a9h.2 k;have r:=(u4 (e:=dep%h) p).1;have z:=r.length_eq;have hm:=λb d=>p b (r.mem_iff.1 d);generalize en (dep%h) a=o at*;have C:=Hd (X:=o) (e:=α a/2) acq;have D:=wk c (o.take (α a/2)) (dep+1) (by rw[a8l];omega) λb d=>hm b (a8v d);have E:=wk c (o.drop (α a/2+1)) (dep+1) (by rw[a8z];omega) λb d=>hm b (a8O d);rw[aC.all,if_pos rfl];grind
def Aw(a:a7.c9 e):(hE e a7 i).all.Perm a7.all:=by
 unfold hE;split
 .rfl
 .split
  .exact wk _ _ _ (a8P _) λb c=>(a b (aC.gB c)).len
  .rfl
theorem Ax{d:Nat}{b:Τ}(h:bU d b):∀ {k:aC}{dep:Nat},k.c9 d->(da d b k dep).2=ζ->(da d b k dep).1.all.Perm (b::k.all)
 |.nil,dep,_,_=>.refl _
 |.node p live x y,dep,a,c=>by
  rw[da]at c|-;by_cases o:p=b
  .simp only[if_pos o]at c|-;have r:live=false:=by simp_all
   refine(Aw (aC.c9.mk a.r a.a a.b)).trans ?_;simp only[aC.all,if_pos,r,o];grind
  .by_cases c2:cK (dep%d) b p<0
   .simp only[if_neg o,if_pos c2]at c|-;refine(Aw (aC.c9.mk a.r (qC h a.a) a.b)).trans ?_;exact((Ax h a.a c).append_right _).append_right _
   .simp only[if_neg o,if_neg c2]at c|-;refine(Aw (aC.c9.mk a.r a.a (qC h a.b))).trans ?_;refine(((Ax h a.b c).append_left _).append_right _).trans ?_;exact aaC.append_right _
theorem Ay{c:Nat}{b:Τ}:∀ {d:aC}{dep:Nat},(da c b d dep).2=θ->b∈d.all
 |.nil,dep,a=>by rw[da]at a;cases a
 |.node h live o p,dep,a=>by
  rw[da]at a;simp only[aC.all,a8u];by_cases k:h=b;simp_all
  .by_cases c2:cK (dep%c) b h<0
   .simp only[if_neg k,if_pos c2]at a;exact .inl (.inl (Ay a))
   .simp only[if_neg k,if_neg c2]at a;exact .inl (.inr (Ay a))
theorem wm{d:Nat}{b:Τ}:∀ {h:aC}{dep:Nat},(cn d b h dep).2=ζ->h.all.Perm (b::(cn d b h dep).1.all)
 |.nil,dep,a=>by rw[cn]at a;cases a
 |.node k live o p,dep,a=>by
  rw[cn]at a|-;by_cases c:k=b
  .simp only[if_pos c]at a|-;simp only[aC.all,if_pos a,c];grind
  .by_cases c2:cK (dep%d) b k<0
   .simp only[if_neg c,if_pos c2]at a|-;exact((wm a).append_right _).append_right _
   .simp only[if_neg c,if_neg c2]at a|-;refine(((wm a).append_left _).append_right _).trans ?_;exact aaC.append_right _
theorem Az{b:Nat}{d:Τ}(k:α d=b):∀ {o:aC}{dep:Nat},o.c9 b->o.la b dep->(cn b d o dep).2=θ->d∉o.all
 |.nil,dep,_,_,_=>λh=>by cases h
 |.node r live E F,dep,h,⟨h1,y,C,D⟩,c=>by
  have x:=qA b (dep%b);intro a;rw[cn]at c;simp only[aC.all,a8u]at a;by_cases p:r=d
  .simp only[if_pos p]at c;subst p;rcases a with (a|a)|a
   .exact x.kc _ k (h1 _ (aC.gB a))
   .exact x.kc _ k (y _ (aC.gB a))
   .rw[c]at a;simp at a
  .have z:d∉(if live=ζ then [r]else []):=λh=>by
    simp_all
   by_cases c2:cK (dep%b) d r<0
   .simp only[if_neg p,if_pos c2]at c;rcases a with (a|a)|a
    .exact Az k h.a C c a
    .exact x.Ae k h.r.len c2 (y _ (aC.gB a))
    .exact z a
   .simp only[if_neg p,if_neg c2]at c;rcases a with (a|a)|a
    .exact c2 (h1 _ (aC.gB a))
    .exact Az k h.b D c a
    .exact z a
theorem wo{a:Nat}:∀(p:Nat)(c:List Τ)(dep:Nat),(∀b∈c,α b=a)->c.Pairwise (·≠ ·)->(fR a p c dep).la a dep
 |0,_,_,_,_=>trivial
 |p+1,c,dep,z,D=>by
  rw[fR];by_cases r:c=[]
  .rw[if_pos r];trivial
  rw[if_neg r];have g:=a9h.2 r;obtain⟨x,E⟩:=u4 (e:=dep%a) z;have i:=x.length_eq;have hm:=λb d=>z b (x.mem_iff.1 d);have y:(en (dep%a) c).Pairwise (·≠ ·):=x.symm.pairwise D λk=>k.symm;have F:=qA a (dep%a);have C:(en (dep%a) c).Pairwise (λG L=>cK (dep%a) G L<0):=by
   refine abL ?_ (E.and y);intro h b o d j;rcases F.u3 h b (hm h o) (hm b d)with k|k|k
   .exact k
   .simp_all
   .omega
  generalize en (dep%a) c=P at*;have S:=Hd (X:=P) (e:=α c/2) acq;rw[S]at C y;obtain⟨l,T,V⟩:=a9r.1 C;obtain⟨W,m⟩:=a8R.1 T;obtain⟨e,f,_⟩:=a9r.1 y;refine⟨λh o=>V h (sb o) _ acr,λh o=>W h (sb o),?_,?_⟩
  .exact wo p _ _ (λb d=>hm b (a8v d)) e
  .exact wo p _ _ (λb d=>hm b (a8O d)) (a8R.1 f).2
def AA(a:a7.c9 e)(b:a7.la e i):(hE e a7 i).la e i:=by
 unfold hE;split
 .trivial
 .split
  .exact wo _ _ _ (λc d=>(a c (aC.gB d)).len) (aC.qD a b)
  .exact b
theorem AB{c:Nat}{k:Τ}(h:bU c k):∀ {o:aC}{dep:Nat},o.c9 c->o.la c dep->(da c k o dep).1.la c dep
 |.nil,dep,_,_=>⟨λd b=>(by cases b),λd b=>(by cases b),trivial,trivial⟩
 |.node p live D E,dep,a,⟨h1,r,x,y⟩=>by
  have C:=qA c (dep%c);rw[da];by_cases z:p=k
  .simp only[if_pos z];exact AA (aC.c9.mk a.r a.a a.b) ⟨h1,r,x,y⟩
  .by_cases c2:cK (dep%c) k p<0
   .simp only[if_neg z,if_pos c2];refine AA (aC.c9.mk a.r (qC h a.a) a.b) ⟨λd b=>?_,r,AB h a.a x,y⟩;rcases u9 b with rfl|b
    .exact c2
    .exact h1 d b
   .simp only[if_neg z,if_neg c2];refine AA (aC.c9.mk a.r a.a (qC h a.b)) ⟨h1,λd b=>?_,x,AB h a.b y⟩;rcases u9 b with rfl|b
    .rcases C.u3 d p h.len a.r.len with a|a|a
     .trivial
     .simp_all
     .exact a
    .exact r d b
def AD{a:Nat}{k:Τ}:∀ {b:aC}{dep:Nat},b.la a dep->(cn a k b dep).1.la a dep
 |.nil,dep,_=>trivial
 |.node o live p r,dep,⟨h1,c,d,h⟩=>by
  rw[cn];split
  .trivial
  split
  .exact⟨by rw[ua];exact h1,c,AD d,h⟩
  .exact⟨h1,by rw[ua];exact c,d,AD h⟩
structure lX(d n:Nat)(t:aC):Prop where
 fq:t.c9 d
 wq:t.la d 0
 ch:t.size<=n
theorem lX.nil{a n:Nat}:lX a n .nil:=⟨λc b=>(by cases b),trivial,a8M _⟩
def lX.ins(a:lX e i a7)(b:bU e t):lX e (i+1) (da e t a7 0).1:=⟨qC b a.fq,AB b a.fq a.wq,by have:=qs e t a7 0;have:=a.ch;omega⟩
theorem lX.del(b:lX e i a7):lX e i (lP e t a7).1:=by
 have a:=ub (t:=t) (i:=0) b.fq;have c:=AD (k:=t) b.wq;have p:=qt e t a7 0;have r:=lO (cn e t a7 0).1;have x:=b.ch;unfold lP;split
 .refine⟨Am _ _ _ λd h=>a d (aC.gB h),wo _ _ _ (λk o=>(a k (aC.gB o)).len) (aC.qD a c),?_⟩;grind[rT,cn]
 .exact⟨a,c,acq⟩
def a4G(a:lX e i a7)(b:(cn e t a7 0).2=ζ):a7.all.Perm (t::(lP e t a7).1.all):=by
 have c:=ub (t:=t) (i:=0) a.fq;refine(wm b).trans (.cons _ ?_);unfold lP;split
 .exact(wk _ _ _ (a8P _) λd h=>(c d (aC.gB h)).len).symm
 .rfl
theorem dJ.cells{b:aK}{a:R}(c:dJ b a):α a.cells=76:=by obtain⟨T,rfl,d⟩:=c;exact d.all.1
theorem AE(o:List aK)(a:Ψ)(c:Own)(b:U)(p:aB dJ o a)(F:α o<=1000):
  AC γ 57 [.J a c] b λr d=>av b d 76 (flat a) r:=by
 have G:=p.len;refine kJ λL=>?_;have y:c=.nil->a=[]:=λh=>by subst h;simp_all
 have x:=p.cells λ_ _=>dJ.cells;have P:=cW x;refine bg hm MR acr ?_;simp -dsimp -implicitDefEqProofs (disch:=first|omega|assumption|(simp only[aX,Nat.reduceAdd];try omega)) only[go_sem,simprocAttr,↓mE];refine mF (λk=>by rw[y k]) (λk=>?_) ?_
 .have z:a=[]:=by trivial
  subst z;refine aF @a8U ?_;exact⟨b,η,av.nil η⟩
 .refine aF @nC ?_;have C:bT b 76 (.J a c)=β (α a,flat a):=by have D:=a8A.2 λh E=>decide_eq_true (x h E);simp only[bT,D,if_true]
  refine eZ (av.zero (η)) acq C acq (by simp only[a8s];omega) (by simp only[a8s];omega) λr d k=>?_;refine eH ?_;exact⟨d,η,by trivial⟩
theorem a4H(t k:U)(h:Ψ)(f:R)(y:av t k 76 h f)(G:Nat)(L:α h=G*76)(a:Nat)(n3:a<=G)(n4:G<=1000)(o:Ψ)(u:α o=76)(z:Nat)(v:t z=β (.cells o)):
  AC γ 179 [f,.v (.int .i64 (a:Int)),.aq z 1 1 76] k λk8 P=>av t P 76 (h.take (a*76)++(o++h.drop (a*76))) k8:=by
 have S:=y.1 _ _ v;have g:((1:Nat):Int)=1:=rfl;have w:∀P:U,P z=β (.cells o)->bT P 76 (.aq z 1 1 76)=β (1,o):=λP y=>by
  simp_all [bT,ι,Ο]
 by_cases c1:a=G
 .subst c1;obtain⟨e,E,wl⟩:∃e,ck 76 f (β (.v (.int .i64 (a:Int)))) ε ε=β e/\fk f=β (.v (.int .i64 (a:Int))):=by
   rcases y.2 with⟨i,rfl|rfl⟩|⟨c,b,d,r,rfl,j,C,l,m,k9,A,X⟩
   .rw[i]at L;obtain rfl:a=0:=by rw[a8s]at L;omega
    exact⟨_,Yz,rfl⟩
   .rw[i]at L;obtain rfl:a=0:=by rw[a8s]at L;omega
    exact⟨_,Yy,rfl⟩
   .obtain rfl:b=a:=acq;obtain⟨e,E,_⟩:=pb (i:=76) (j6:=c) (e2:=.i64) acq A;exact⟨e,E,rfl⟩
  refine bg hm CO acr ?_;simp -dsimp -implicitDefEqProofs (disch:=first|omega|assumption|(simp only[aX,Nat.reduceAdd];try omega)) only[go_sem,simprocAttr,↓eQ,E,wl,g];refine eZ y acq (w k S) acq acq acq λn5 P n9=>?_;refine DL ?_;grind[η,Γ,List.drop_eq_nil_of_le]
 have a00:a<G:=acq;obtain⟨c,b,d,r,rfl,j,C,l,m,k9,A,X⟩:=y.aq (λi=>by rw[i]at L;simp at L;omega);obtain rfl:b=G:=acq;have Y:c≠z:=by rintro rfl;rw[j]at v;cases v
 have B:¬(a)=(b:Int):=acq;refine bg hm CO acr ?_;obtain⟨e,E,_,Z⟩:=pb (i:=76) (j6:=c) (e2:=.i64) acq A;have a01:=Z k r h C acq m;have k3:(h.drop (a*76)).length=(b - a)*76:=by rw[a8z];omega
 have l0:r.take (a*76)=h.take (a*76):=by grind
 by_cases c2:(d)<(b:Int)+1
 .have n:ck 76 (.aq c b d 76) ε (β (.v (.int .i64 (a)))) ε=β (.aq c a d 76):=hZ acq;have k4:(b)+1 -(a)=((b+1 - a:Nat):Int):=acq;refine dM (bx @E @B @g @c2 @n @k4) ?_;refine ye C l acq acq acq λp D l1 q s l2 k5=>?_;have l3:a+(b+1 - a)=b+1:=acq;rw[l3]at s k5|-;generalize l4:δ (b+1 - a) _=k6;have l5:α k6.flatten=(b+1 - a)*76:=by rw[<-l4,ly];rfl
  have l6:p≠c:=by rintro rfl;rw[q]at C;cases C
  have l7:p≠z:=by rintro rfl;rw[q]at S;cases S
  obtain⟨F,k7⟩:∃F,F=r.take (a*76)++k6.flatten++l1:=⟨_,rfl⟩;have l8:α F=D*76:=by rw[k7,Ρ,Ρ,l5,a8l,k5];omega
  have l9:F.take (a*76)=h.take (a*76):=by simp_all
  rw[<-k7];have H:ck 76 (.aq p (b+1) D 76) (β (.v (.int .i64 (a)))) ε ε=β (.bE p (a*76) (b+1 - a) (D - a) 76):=gm acq s acq;have I:ck 76 (.aq p (b+1) D 76) (β (.v (.int .i64 ((a)+1)))) ε ε=β (.bE p (a*76+76) (b - a) (D -(a+1)) 76):=by have:=gm (i:=76) (e0:=p) (e:=a+1) (e2:=.i64) acq s acq;grind
  have K:(k.set p (.cells F)) z=β (.cells o):=by rw[ξ _ _ (Δ l7)];exact S
  have T:=ht (O:=a*76) (j6:=D - a) (i:=b+1 - a) (w _ K) (μ k p (.cells F)) acq;have M:o.take ((b+1 - a)*76)=o:=Ο acq;rw[M]at T;obtain⟨x,V⟩:∃x,x=putAt F (a*76) o:=⟨_,rfl⟩;have N:α x=D*76:=by rw[V,eF _ _ _ acq,l8]
  rw[<-V]at T;have n0:(k.set p (.cells x)) c=β (.cells r):=by rw[ξ _ _ (Δ l6)];exact C
  have O:=Z _ r h n0 acq m;have W:=ht (O:=a*76+76) (j6:=D -(a+1)) (i:=b - a) O (μ k p (.cells x)) acq;have Q:(h.drop (a*76)).take ((b - a)*76)=h.drop (a*76):=Ο acq;rw[Q]at W;refine dM (gk @E @B @g @c2 @n @k4 @H @I @T @W @ς) ?_;refine⟨_,η,κ y.1 (Ι y.1 q),.inr ⟨p,b+1,D,_,rfl,Ι y.1 q,μ _ _ _,?_,?_,?_,s,l2⟩⟩
  .rw[eF _ _ _ acq,N]
  .have:=(qj l9 u k3 acq).2;rw[show(b+1)*76=a*76+76+(b - a)*76 by omega,V];exact this
  grind
 .have n:ck 76 (.aq c b d 76) ε (β (.v (.int .i64 ((b)+1)))) ε=β (.aq c (b+1) d 76):=by rw[show(b)+1=((b+1:Nat):Int) by omega];exact hZ acq
  have H:ck 76 (.aq c (b+1) d 76) (β (.v (.int .i64 (a)))) ε ε=β (.bE c (a*76) (b+1 - a) (d - a) 76):=gm acq acq acq;have I:ck 76 (.aq c (b+1) d 76) (β (.v (.int .i64 ((a)+1)))) ε ε=β (.bE c (a*76+76) (b - a) (d -(a+1)) 76):=by have:=gm (i:=76) (e0:=c) (v:=b+1) (O:=d) (e:=a+1) (e2:=.i64) acq acq acq;grind
  have n1:r≠[]:=by rintro rfl;simp at l;omega
  have n2:lx (.aq z 1 1 76) (.bE c (a*76+76) (b - a) (d -(a+1)) 76) k=β (.v (.bool θ)):=yd rfl rfl (Δ Y) (rp S (by rintro rfl;simp at u)) (rp C n1);have O:bT k 76 (.bE c (a*76) (b+1 - a) (d - a) 76)=β (b+1 - a,(r.drop (a*76)).take ((b+1 - a)*76)):=by simp only[bT,ι C];grind
  have W:=ht (O:=a*76+76) (j6:=d -(a+1)) (i:=b - a) O C acq;have Q:((r.drop (a*76)).take ((b+1 - a)*76)).take ((b - a)*76)=h.drop (a*76):=by rw[a9B,<-m,a9F];congr 1;omega
  rw[Q]at W;obtain⟨x,V⟩:∃x,x=putAt r (a*76+76) (h.drop (a*76)):=⟨_,rfl⟩;rw[<-V]at W;have N:α x=α r:=by rw[V,eF _ _ _ acq]
  have K:(k.set c (.cells x)) z=β (.cells o):=by rw[ξ _ _ (Δ Y)];exact S
  have T:=ht (O:=a*76) (j6:=d - a) (i:=b+1 - a) (w _ K) (μ k c (.cells x)) acq;have M:o.take ((b+1 - a)*76)=o:=Ο acq;rw[M]at T;refine dM (gk @E @B @g @c2 @n @H @I @n2 @W @T @ς) ?_;refine⟨_,η,κ y.1 j,.inr ⟨c,b+1,d,_,rfl,j,μ _ _ _,?_,?_,?_,acq,X⟩⟩
  .rw[eF _ _ _ acq,N,l]
  .have:=(qj l0 u k3 acq).1;grind
  grind
variable{g B e1:Ψ}{b4:List aK}
theorem a4I(c:aB dJ b4 g):∀a∈g,∃b,a=.agg b/\α b=76:=λa d=>by
 obtain⟨k,_,T,rfl,h⟩:=c.mem d;exact⟨T,rfl,h.all.1⟩
variable{n b6:R}{f s e5:U}
theorem av.a4J(b:av f s 76 (flat g) n)(c:aB dJ b4 g):∃a,View s n a (.J g .any)/\f.sub a:=by obtain⟨h,a,d,k,o⟩:=View.dA b;rw[cW (c.cells λ_ _=>dJ.cells)]at d;grind[z6,a4I]
def dc(a:List aK)(b:Υ):Nat:=(a.takeWhile λc=>c7 c.name b).length
def He:∀ {c:List aK}{b:Υ}{d:Nat},Place c b d->d=dc c b
 |[],b,d,a=>by have:=a.1;simpa[dc] using this
 |o::c,b,0,a=>by
  have:=a.2.2 0 acr acq;simp only[a8Q]at this;simp[dc,this]
 |o::c,b,d+1,a=>by
  have k:=a.2.1 0 acq;simp only[a8Q]at k;have:=He ⟨by have:=a.1;simpa using this,λh p=>by have:=a.2.1 (h+1) acq;trivial,λh p r=>by have:=a.2.2 (h+1) acs acq;trivial⟩;simp only[dc,a9G,k,if_true,a8m];rw[this];rfl
def gC(a:List aK)(b:Υ):Bool:=decide (dc a b<α a)&&decide ((a.getD (dc a b) default).name=b)
theorem AF{c:List aK}(d:c8 c=ζ):∀b a,b<a->a<α c->c7 (c.getD b default).name (c.getD a default).name=ζ
 |b,0,h1,_=>by omega
 |b,a+1,h1,p=>by
  have h:=d;simp only[c8,Ξ,a8A,a9C,a9U,decide_eq_true_eq]at h;have k:=(h.1 (a+1) p).2.resolve_left acq;rw[Nat.add_sub_cancel]at k;rcases acn b a with o|o
  .exact w9 _ _ _ (AF d b a o acq) k
  grind
def AG(a:List aK)(c:Ψ)(h:Own)(b:Υ)(r:aB dJ a c)(k:c8 a=ζ)(d:U):
  AC γ 178 [.J c h,bc b] d λo p=>p=d/\o=.aJ [.v (.int .i64 (dc a b:Int)),.v (.bool (gC a b))]:=by
 have z:α a<=8:=by simp only[c8,Ξ,decide_eq_true_eq]at k;omega
 refine(a3X a c h b r acq (AF k) d).mono λo p x=>?_;obtain⟨C,D,y,rfl⟩:=x;obtain rfl:=He y;trivial
def wu(d:Except Int (List aK))(a:R):Prop:=
 match d with
 |.error b=>b≠0/\a=.aJ [.J [] .nil,.v (.int .i64 b)]
 |.ok h=>∃c,aB dJ h c/\a=.aJ [.J c .any,.v (.int .i64 0)]
def kp(a:List aK)(b:aK):Except Int (List aK):=
 if(c8 a&&fG b)=ζ then(if gC a b.name=ζ then .error 4 else if 8<=α a then .error 10 else .ok (a.take (dc a b.name)++b::a.drop (dc a b.name)))else .error 1
def kq(a:List aK)(b:aK):Except Int (List aK):=
 if(c8 a&&fG b)=ζ then(if gC a b.name=ζ then .ok (a.set (dc a b.name) b)else .error 3)else .error 1
def uc(a b:U)(o:Except Int (List aK))(c:R):Prop:=
 match o with
 |.error d=>a.sub b/\d≠0/\c=.aJ [.J [] .nil,.v (.int .i64 d)]
 |.ok p=>∃h k,aB dJ p k/\av a b 76 (flat k) h/\c=.aJ [h,.v (.int .i64 0)]
def uc.AH{a:Except Int (List aK)}(b:uc f s a n):∃c d,View s n d c/\f.sub d/\wu a c:=by
 cases a with
 |error x=>exact⟨_,_,View.refl,b.1,b.2⟩
 |ok y=>obtain⟨z,k,h,o,rfl⟩:=b;obtain⟨C,p,r⟩:=av.a4J o h;exact⟨_,_,View.aJ (a:=[]) p,r,k,h,rfl⟩
def a4K(a:List aK)(b:Υ):dc a b<=α a:=by unfold dc;have:=congrArg α (a9b (p:=λc:aK=>c7 c.name b) (l:=a));rw[Ρ]at this;omega
def a4L(a:List aK)(d:Ψ)(r:Own)(b:aK)(c:Ψ)(D:eL b c)(V:b.Fit)(p:aB dJ a d)(L:∀b∈a,b.Fit)(W:α a<=1000)(x:U):
  AC γ 120 [.J d r,.agg c] x λz E=>x.sub E/\wu (kp a b) z:=by
 have q:AC γ 120 [.J d r,.agg c] x λz E=>uc x E (kp a b) z:=?_
 .exact q.view λz E s=>s.AH
 have t:=p.len;obtain⟨e,Q,X,Y,Z,k3,k4,k5,k6,k7,k8,k9,l0⟩:=D.all;refine aL hm OB ?_;refine bp λf u=>?_;have C:=κ (Z:=.cells c) (η) u;have aD:=μ x f (.cells c);generalize x.set f _=o at*;have v:=ι aD;have h:(if(c8 a&&fG b)=ζ then(if gC a b.name=ζ then .error 4 else if 8<=α a then .error 10 else .ok (a.take (dc a b.name)++b::a.drop (dc a b.name)))else .error 1)=kp a b:=rfl;generalize kp a b=l1 at*;cases P:c8 a with
 |false=>rw[if_neg (by rw[P];simp)]at h;refine bh (ob a d r p L acq o) ?_;rw[<-h];exact⟨_,η,C,acv,rfl⟩
 |true=>
 cases g:fG b with
 |false=>rw[if_neg (by rw[g];simp)]at h;refine bh (ob a d r p L acq o) ?_;refine bh (s5 b c D V o) ?_;rw[<-h];exact⟨_,η,C,acv,rfl⟩
 |true=>
 rw[if_pos (by rw[P,g];rfl)]at h;refine bh (ob a d r p L acq o) ?_;refine bh (s5 b c D V o) ?_;have F:=AG a d r b.name p P o;have w:=a4K a b.name;generalize dc a b.name=k at*;cases G:gC a b.name with
 |true=>rw[if_pos G]at h;rw[G]at F;refine bh F ?_;rw[<-h];exact⟨_,η,C,acv,rfl⟩
 |false=>
 rw[if_neg (by rw[G];simp)]at h;rw[G]at F;refine bh F ?_;refine aG (λA=>?_) λA=>?_
 .rw[if_pos acq]at h;rw[<-h];exact⟨_,η,C,acv,rfl⟩
 rw[if_neg acq]at h;have i:aW 76 [R.agg c]:=λj B=>by rw[a8B.1 B];exact e
 refine(sJ (eP i acr λy l2=>trivial)).mpr ?_;have v:=ι aD;refine aa ?_;refine ag (AE a d r o p W) ?_;intro l m S;have l3:=ι (S.1 _ _ aD);refine aa ?_;have H:flat [R.agg c]=c:=by simp[flat,ρ]
 refine eP i acr λy n=>?_;rw[H];have T:=p.cells λ_ _=>dJ.cells;have I:av (o.set y (.cells c)) (m.set y (.cells c)) 76 (flat d) l:=S.new n;have K:(flat d).length=α a*76:=by rw[cW T,t]
 have M:=a4H (o.set y (.cells c)) (m.set y (.cells c)) (flat d) l I (α a) K k w W c e y (μ _ _ _);refine aa ?_;refine ag M ?_;intro z l4 N;refine aa ?_;refine⟨_,η,?_⟩;rw[<-h];have O:x.sub (o.set y (.cells c)):=κ C (Ι C (Ι S.1 n));refine⟨z,d.take k++ .agg c::d.drop k,(p.take k).append ⟨⟨c,rfl,D⟩,p.drop k⟩,?_,rfl⟩;have j:flat (d.take k++ .agg c::d.drop k)=(flat d).take (k*76)++(c++(flat d).drop (k*76)):=by rw[(ga k T).1,(ga k T).2];simp[flat,ρ]
 rw[j];exact N.base O
theorem av.mf(c:av s f e (flat g) n)(d:aW e g)(y:0<e)(o:i<α g)(p:α B=e):
  ∃b h a,n=.aq b (α g) h e/\f b=β (.cells a)/\i*e+e<=α a/\av s (f.set b (.cells (putAt a (i*e) B))) e (flat (g.set i (.agg B))) n:=by
 have z:=cW d;have C:(i+1)*e<=α g*e:=a8x _ o;rw[a9s,aaW]at C;obtain⟨b,D,h,a,rfl,r,E,F,G,W,x,L⟩:=c.aq (λk=>by rw[k,a8s]at z;omega);obtain rfl:D=α g:=aay y acq;have j:=a8x e x;refine⟨b,h,a,rfl,E,acq,κ c.1 r,.inr ⟨b,α g,h,_,rfl,r,μ _ _ _,?_,?_,?_,x,L⟩⟩
 .rw[eF _ _ _ acq,F]
 .have P:g.set i (.agg B)=g.take i++ .agg B::g.drop (i+1):=a9t .. |>.trans (by rw[if_pos o])
  have S:flat (g.take i++ .agg B::g.drop (i+1))=(flat g).take (i*e)++(B++(flat g).drop ((i+1)*e)):=by rw[(ga (i+1) d).1,(ga i d).2];simp[flat,ρ]
  have l:(a.take (i*e)).length=i*e:=by rw[a8l];omega
  have T:(i+1)*e=i*e+e:=by grind
  rw[P,S,putAt,p,<-G,a9B,a9T acq,T,a9F];have m:(a.take (i*e)++B).length=i*e+e:=by simp_all
  have q:α g*e=(i*e+e)+(α g*e -(i*e+e)):=acq;grind
 .rw[cW (d:=e)]
  .simp
  .intro k V;rcases aai V with c|rfl
   .exact d k c
   .exact p
theorem a4M(a:List aK)(c:Ψ)(o:Own)(b:aK)(d:Ψ)(z:eL b d)(S:b.Fit)(k:aB dJ a c)(L:∀b∈a,b.Fit)(g:α a<=1000)(r:U):
  AC γ 182 [.J c o,.agg d] r λC D=>r.sub D/\wu (kq a b) C:=by
 have i:AC γ 182 [.J c o,.agg d] r λC D=>uc r D (kq a b) C:=?_
 .exact i.view λC D E=>E.AH
 have j:=k.len;obtain⟨l,u,v,w,A,B,H,I,K,M,N,O,Q⟩:=z.all;refine aL hm Qj ?_;refine bp λT m=>?_;have F:=κ (Z:=.cells d) (η) m;have aD:=μ r T (.cells d);generalize r.set T _=p at*;have X:=ι aD;have h:(if(c8 a&&fG b)=ζ then(if gC a b.name=ζ then .ok (a.set (dc a b.name) b)else .error 3)else .error 1)=kq a b:=rfl;generalize kq a b=Y at*;cases P:c8 a with
 |false=>rw[if_neg (by rw[P];simp)]at h;refine bh (ob a c o k L acq p) ?_;rw[<-h];exact⟨_,η,F,acv,rfl⟩
 |true=>
 cases V:fG b with
 |false=>rw[if_neg (by rw[V];simp)]at h;refine bh (ob a c o k L acq p) ?_;refine bh (s5 b d z S p) ?_;rw[<-h];exact⟨_,η,F,acv,rfl⟩
 |true=>
 rw[if_pos (by rw[P,V];rfl)]at h;refine bh (ob a c o k L acq p) ?_;refine bh (s5 b d z S p) ?_;have G:=AG a c o b.name k P p;have W:gC a b.name=ζ->dc a b.name<α a:=λE=>by
  simp only[gC,Ξ,decide_eq_true_eq]at E;exact E.1
 generalize dc a b.name=x at*;cases y:gC a b.name with
 |false=>rw[if_neg (by rw[y];simp)]at h;rw[y]at G;refine bh G ?_;rw[<-h];exact⟨_,η,F,acv,rfl⟩
 |true=>
 rw[if_pos y]at h;rw[y]at G;have W:=W y;refine bh G ?_;refine ag (AE a c o p k g) ?_;intro Z k3 e;have n:=k.cells λ_ _=>dJ.cells;obtain⟨f,q,k4,rfl,s,k5,t⟩:=av.mf e n acq (i:=x) acq l;have k6:=ι (e.1 _ _ aD);have k7:cO 76 (.aq f (α c) q 76) (.v (.int .i64 (x)))=β (.ptr f (x*76)):=by grind[jj,Int.toNat_natCast]
 have k8:=τ s;refine aa ?_;refine⟨_,η,?_⟩;rw[<-h];exact⟨_,c.set x (.agg d),k.set x ⟨d,rfl,z⟩,t.base F,by rw[j]⟩
theorem a4N(F o:U)(d:Ψ)(G:R)(L:av F o 76 d G)(r:Nat)(P:α d=r*76)(a:Nat)(M:a<r)(N:r<=1000):
  AC γ 180 [G,.v (.int .i64 (a:Int)),.v (.int .i64 ((a:Int)+1))] o λi j=>av F j 76 (d.take (a*76)++d.drop ((a+1)*76)) i:=by
 obtain⟨c,b,k,x,rfl,S,T,l,V,m,C,n⟩:=L.aq (λq=>by rw[q,a8s]at P;omega);obtain rfl:b=r:=acq;refine bg hm Qf acr ?_;have s:(a)+1=((a+1:Nat):Int):=acq;rw[s];obtain⟨O,t⟩:=Fc (O:=76) (a:=c) (b:=b) (j6:=a) (e:=a+1) (e2:=.i64) (c:=.i64) (d:=.i64) acq acq C;have u:ck 76 (.aq c b k 76) ε (β (.v (.int .i64 (a)))) ε=β (.aq c a k 76):=hZ acq;obtain⟨Q,v,_,D⟩:=pb (i:=76) (j6:=c) (e:=a+1) (e2:=.i64) acq C;have D:=D o x d T acq V;have w:¬(a)=((a+1:Nat):Int):=acq;simp -dsimp -implicitDefEqProofs (disch:=first|omega|assumption|(simp only[aX,Nat.reduceAdd];try omega)) only[go_sem,simprocAttr,↓eQ,t,u,v,w];refine vF T l D acq acq acq ?_;have A:a+(b -(a+1))=b - 1:=acq;rw[A];have W:(d.drop ((a+1)*76)).length=(b -(a+1))*76:=by rw[a8z];omega
 obtain⟨h,y⟩:∃h,h=putAt x (a*76) (d.drop ((a+1)*76)):=⟨_,rfl⟩;have E:α h=k*76:=by rw[y,eF _ _ _ acq];omega
 have B:h.take ((b - 1)*76)=d.take (a*76)++d.drop ((a+1)*76):=by
  rw[y,putAt];have H:(x.take (a*76)).length=a*76:=by rw[a8l];omega
  rw[show(b - 1)*76=(x.take (a*76)++d.drop ((a+1)*76)).length by rw[Ρ,H,W];omega,aaL];grind
 rw[<-y];have I:(o.set c (.cells h)) c=β (.cells h):=μ _ _ _;have X:ck 76 (.aq c (b - 1) k 76) (β (.v (.int .i64 ((b - 1:Nat))))) (β (.v (.int .i64 ((b))))) ε=β (.bE c ((b - 1)*76) (b -(b - 1)) (k -(b - 1)) 76):=DH acq C acq;have e:∀z:Ψ,α z=76->lv 76 z (.bE c ((b - 1)*76) (b -(b - 1)) (k -(b - 1)) 76) (o.set c (.cells h))=β ((o.set c (.cells h)).set c (.cells (putAt h ((b - 1)*76) (δ (b -(b - 1)) z).flatten))):=λz Y=>yc I (by rw[E];omega);have p:=gS.all.1;rw[<-jG]at p;have e:=(e _ p).trans acx;have K:(d.take (a*76)++d.drop ((a+1)*76)).length=(b - 1)*76:=by rw[Ρ,a8l,a8z];omega
 clear p y W V m P;refine aa ?_;have p:=gS.all.1;rw[<-jG]at p;refine⟨_,η,?_⟩;generalize f:putAt h ((b - 1)*76) _=g;have cu:α g=k*76:=by rw[<-f,eF _ _ _ (by rw[ly,p,E];omega),E]
 have cp:g.take ((b - 1)*76)=h.take ((b - 1)*76):=by rw[<-f,putAt,a8w,a9O (by rw[a8l];omega),a9B,aak]
 refine⟨κ L.1 S,.inr ⟨c,b - 1,k,_,rfl,S,μ _ _ _,cu,by rw[cp,B],K,acq,n⟩⟩
def cL(a:List aK)(b:Υ):Except Int (List aK):=
 if c8 a=ζ then(if gC a b=ζ then .ok (a.take (dc a b)++a.drop (dc a b+1))else .error 3)else .error 1
def a4O(a:List aK)(c:Ψ)(p:Own)(b:Υ)(h:aB dJ a c)(G:∀S∈a,S.Fit)(L:α a<=1000)(d:U):
  AC γ 122 [.J c p,bc b] d λr y=>d.sub y/\wu (cL a b) r:=by
 have T:AC γ 122 [.J c p,bc b] d λr y=>uc d y (cL a b) r:=?_
 .exact T.view λr y z=>z.AH
 have V:=h.len;refine aL hm OF ?_;have k:(if c8 a=ζ then(if gC a b=ζ then .ok (a.take (dc a b)++a.drop (dc a b+1))else .error 3)else .error 1)=cL a b:=rfl;generalize cL a b=i at*;cases D:c8 a with
 |false=>rw[if_neg (by rw[D];simp)]at k;refine bh (ob a c p h G acq d) ?_;rw[<-k];exact⟨_,η,η,acv,rfl⟩
 |true=>
 rw[if_pos D]at k;refine bh (ob a c p h G acq d) ?_;have C:=AG a c p b h D d;have E:gC a b=ζ->dc a b<α a:=λz=>by
  simp only[gC,Ξ,decide_eq_true_eq]at z;exact z.1
 generalize dc a b=o at*;cases x:gC a b with
 |false=>rw[if_neg (by rw[x];simp)]at k;rw[x]at C;refine bh C ?_;rw[<-k];exact⟨_,η,η,acv,rfl⟩
 |true=>
 rw[if_pos x]at k;rw[x]at C;have E:=E x;refine bh C ?_;refine ag (AE a c p d h L) ?_;intro W e f;have F:=h.cells λ_ _=>dJ.cells;have g:(flat c).length=α a*76:=by rw[cW F,V]
 refine aa ?_;refine ag (a4N d e (flat c) W f (α a) g o E L) ?_;intro r j P;refine aa ?_;refine⟨_,η,?_⟩;rw[<-k];rw[(ga (o+1) F).1,(ga o F).2,<-pO]at P;exact⟨r,c.take o++c.drop (o+1),(h.take o).append (h.drop (o+1)),P,rfl⟩
theorem a4P(a:Υ)(d:Own)(c:U)(y:α a<=1000000000):
  AC γ 102 [.J (a.map ah) d] c λk h=>av c h 1 (a.map ah) k:=by
 refine kJ λz=>?_;have o:d=.nil->a.map ah=[]:=λp=>by subst p;simp_all
 have C:(a.map ah).length=α a:=a8o _;have r:bT c 1 (.J (a.map ah) d)=β (α a,a.map ah):=y4;refine bg hm O1 acr ?_;simp -dsimp -implicitDefEqProofs (disch:=first|omega|assumption|(simp only[aX,Nat.reduceAdd];try omega)) only[go_sem,simprocAttr,↓mE];refine mF (λb=>by rw[o b]) (λb=>?_) ?_
 .have x:a=[]:=by simpa using b
  subst x;simp -dsimp -implicitDefEqProofs (disch:=first|omega|assumption|(simp only[aX,Nat.reduceAdd];try omega)) only[go_sem,simprocAttr,a8U];exact⟨c,η,av.nil η⟩
 .simp -dsimp -implicitDefEqProofs (disch:=first|omega|assumption|(simp only[aX,Nat.reduceAdd];try omega)) only[go_sem,simprocAttr,nC];refine eZ (av.zero (η)) acq r acq (by simp only[a8s];omega) (by simp only[a8s];omega) λk h b=>?_;simp -dsimp -implicitDefEqProofs (disch:=first|omega|assumption|(simp only[aX,Nat.reduceAdd];try omega)) only[go_sem,simprocAttr];exact⟨h,η,by simpa using b⟩
def a4Q(h a:U)(d:Nat)(b:Υ)(c:cz h d b a)(k:α b<=1000000000):
  AC γ 48 [.ptr d 0] a λo p=>av a p 1 (b.map ah) o:=by
 obtain⟨r,c⟩:=c;have x:=c.sub _ _ (μ _ _ _);refine bg hm CC acr ?_;simp -dsimp -implicitDefEqProofs (disch:=first|omega|assumption|(simp only[aX,Nat.reduceAdd];try omega)) only[go_sem,simprocAttr,aY,aZ,ι x,ne_eq,not_true_eq_false];refine ag (a4P b r a k) ?_;rintro C y z;simp -dsimp -implicitDefEqProofs (disch:=first|omega|assumption|(simp only[aX,Nat.reduceAdd];try omega)) only[go_sem,simprocAttr,aY,aZ];exact⟨y,η,z⟩
variable{q Y:R -> U -> Prop}{K:Ctx}{b5:FuncId}{w j8:Υ}
def fJ{d:U->Prop}(h:∀w a,cz s e w a->d a)(c:AC K.p b5 g f λ_ a=>cz s e w a)(k:∀b a,cz s e w a->Y b a)
  (o:∀b a,d a->q b a=Y b a:=by intro b f c;simp -dsimp -implicitDefEqProofs (disch:=first|omega|assumption|exact U.v7 acu acu|(simp only[aX,Nat.reduceAdd];try omega)) only[go_sem,simprocAttr,-List.reduceReplicate,↓eQ,v8,uZ, *]<;>rfl):oM K b5 g f (bR q ()):=ag c λb a c=>(o b a (h w a c)).mpr (k b a c)
theorem Hf(D e:U)(c:Nat)(d:Υ)(a:au)(r x y:Own)(G:cz D c d e)(X:α d<=1000000000)(f:α a.sum=32)(n:a.hA):
  AC γ 47 [.ptr c 0,.agg (ab a r x y)] e λ_ h=>cz D c (d++dN a) h:=by
 have Y:=(aT (M:=r) (e7:=x) (j0:=y) f).all;generalize ab a r x y=L at*;obtain⟨Z,k3,k4,q,k5,s,k6⟩:=n;obtain⟨P,t⟩:=aa9 q;obtain⟨S,u⟩:=aa9 s;have k7:∀z:Υ,(.agg (z.map ah))=bo z:=λ_=>rfl;refine aL hm MG ?_;refine aN λz v=>?_;obtain⟨w,A,g⟩:=G.new (ob:=.cells L) v;have E:∀d h,cz (D.set z (.cells L)) c d h->h.read z=β L:=λd h G=>ι (G.get w (μ _ _ _));refine aa ?_;refine fJ E (E9 _ _ c _ _ f g acq) λ_ i o=>?_;refine fJ E (tn _ _ c _ _ acq o acs) λ_ i o=>?_;refine fJ E (tn _ _ c _ _ acq o (by simp[kL];omega)) λ_ i o=>?_;refine ic λk8 B=>?_;have T:aB isRow [a.aV,a.aU,a.key] [.J (af a.aV) r,.J (af a.aU) x,.J (af a.key) y]:=⟨⟨_,rfl⟩,⟨_,rfl⟩,⟨_,rfl⟩,trivial⟩;have p:∀C∈ [a.aV,a.aU,a.key],α C<=8:=acs;have H:∀C:Τ,(dE C).length=8*α C+1:=λC=>by rw[dE,a8m,oY]
 have V:dN a=a.sum++ft P++ft S++[a.aV,a.aU,a.key].flatMap dE:=by rw[dN,t,u];simp
 obtain⟨k,F⟩:∃k,[a.aV,a.aU,a.key]=k:=⟨_,rfl⟩;have k9:α k=3:=by rw[<-F];rfl
 rw[F]at T p V;have I:∀b,b<=3->((k.take b).flatMap dE).length<=65*b:=λb j=>by
  rw[<-F]at p|-;have:=p a.aV acr;have:=p a.aU acr;have:=p a.key acr;rcases(by omega:b=0\/b=1\/b=2\/b=3)with rfl|rfl|rfl|rfl<;>simp[H]<;>omega
 generalize (([.J (af a.aV) r,.J (af a.aU) x,.J (af a.key) y]):Ψ)=l at*;obtain⟨_,W,K⟩:=o.new (ob:=.buf 1 (α l) (α l)) B;have W:=(U.set_nil W).1;have l0:=T.len;rw[V,<-a8w,<-a8w,<-a8w];have l1:(d++a.sum++ft P++ft S).length<=1000001000:=by simp[kL];omega
 generalize d++a.sum++ft P++ft S=M at*;clear E F V o g;refine cd [0,26,27] (λb:Nat=>[(28,.v (.int .i64 b))]) (λb h=>b<=3/\cz D c (M++(k.take b).flatMap dE) h) (λb=>3 - b) 0 ⟨⟨acq,by simpa using K.base (κ (κ η A) W)⟩,aR⟩ ?_;rintro b l2⟨j,N⟩l3;refine aa ?_;refine aG (λO=>?_) λO=>?_
 .have m:k[b]?=β (k.getD b []):=by grind
  obtain⟨_,l4,Q,rfl⟩:=T.get m;have l5:=p _ (a8r m);have l6:=I b j;refine aa ?_;refine ib (tp _ _ c _ _ Q acq N (by rw[Ρ];omega)) λ_ l7 l8=>?_;refine⟨b+1,⟨acq,?_⟩,rfl,acq⟩;grind[fa,List.append_assoc]
 .obtain rfl:b=3:=acq;grind[Γ,η]
variable{e8:aK}
theorem Hg(b:fG e8=ζ):e8.hA:=by
 simp only[fG,eU,o2,ki,Ξ,decide_eq_true_eq,a9U]at b;obtain⟨⟨⟨_,c⟩,a⟩,d,h,P,S,T⟩:=b;rw[if_pos acv]at a;simp only[Ξ,decide_eq_true_eq,a8A,a9C,mQ,ki]at a;obtain⟨k,o,p,r,x,y⟩:=rG d;obtain⟨z,C,D,E,F,G⟩:=rG h;refine⟨c.2,a.1.2.2,λV L=>?_,⟨k,o,acq,p,r,x,y⟩,⟨z,C,?_,D,E,F,G⟩⟩
 .obtain⟨W,e,rfl⟩:=a8S L;simp_all
 grind[aw]
theorem hG(a:c8 b4=ζ):(∀b∈b4,b.hA)/\α b4<=8:=by simp only[c8,Ξ,a8A,a9C,decide_eq_true_eq]at a;refine⟨λb c=>?_,a.2⟩;obtain⟨d,h,rfl⟩:=a8S c;grind[Hg,List.getD]
theorem Hh(b:List aK)(P:Ψ)(f:Own)(z:aB dJ b P)(t:∀a∈b,a.Fit)(u:α b<=1000000)(k:U):
  AC γ 19 [.J P f] k λg o=>k.sub o/\if c8 b=ζ then∃C,av k o 1 ((cA b).map ah) C/\g=.aJ [C,.v (.int .i64 0)]else g=.aJ [.J [] .nil,.v (.int .i64 1)]:=by
 have k6:=z.len;have k7:=λS=>iH S;refine aL hm M7 ?_;refine bh (ob b P f z t u _) ?_;refine aG (λD=>?_) λD=>?_
 .trivial
 obtain⟨i,k8⟩:=hG D;refine bp λh j=>?_;have v:cz k h [] (k.set h (.cells [.J [] .nil,.v (.int .i64 0)])):=⟨.nil,Ν η⟩;refine ib (nL k _ h [] (ν (α b)) v acr) λ_ k9 l0=>?_;have dd:=G8 z i;refine cd [0,4,19,20] (λc:Nat=>[(21,.v (.int .i64 c))]) (λc o=>c<=α b/\cz k h (ν (α b)::(b.take c).flatMap fT) o) (λc=>α b - c) 0 ⟨⟨acq,by trivial⟩,aR⟩ ?_;rintro c w⟨l1,x⟩A;refine aa ?_;refine aG (λB=>?_) λB=>?_
 .have l:b[c]?=β (b.getD c default):=by simp_all
  obtain⟨_,l2,T,rfl,r⟩:=z.get l;have p:=i _ (a8r l);have m:=dd c;have H:(b.take (c+1)).flatMap fT=(b.take c).flatMap fT++fT (b.getD c default):=by rw[fa (b:=default) acq,a9a];simp
  generalize b.getD c default=a at*;have I:=zM p r.k.1 r.z.1;obtain⟨K,l3,l4,l5,l6,l7,l8,l9,n0,n1,n2,n3,n4⟩:=r.all;obtain⟨_,_,n5,n9⟩:=ps r;have a00:=lC (n:=.agg T) K;have a01:=jG;have a02:=hn (h5:=a.aE);have a03:=@tS a.aE;refine aa ?_;refine aN λV S=>?_;obtain⟨M,N,E⟩:=x.new (ob:=.cells T) S;have F:∀aO o,cz (k.set V (.cells T)) h aO o->o.read V=β T:=λaO o O=>ι (O.get M (μ _ _ _));have a04:∀aO:Υ,uT (bc aO)=β (.J (aO.map ah) .any):=λaO=>rfl;obtain⟨y,W⟩:∃y,ν (α b)::(b.take c).flatMap fT=y:=⟨_,rfl⟩;rw[W]at E;have a05:α y<=9000:=by rw[<-W,a8m];omega
  rw[fT,Ρ]at I;have a06:=yw a.name;have a07:=p.n;have a08:=p.c;refine aa ?_;refine fJ F (Eg _ _ h _ a.name .any acq E acq) λ_ n E=>?_;refine fJ F (nL _ _ h _ (ν (α a.aE)) E (by rw[Ρ];omega)) λ_ a09 Q=>?_;have a10:(y++gJ a.name++[ν (α a.aE)]).length<=10000:=by grind
  have q:∀d,((a.aE.take d).flatMap gJ).length<=200:=λd=>by
   have:=G7 (h5:=a.aE.take d) λD X=>p.cs D (a8v X);rw[a8l]at this;omega
  refine cd [4,6,21,37,38] (λd:Nat=>[(39,.v (.int .i64 d))]) (λd o=>d<=α a.aE/\cz (k.set V (.cells T)) h (y++gJ a.name++[ν (α a.aE)]++(a.aE.take d).flatMap gJ) o) (λd=>α a.aE - d) 0 ⟨⟨acq,by simpa using Q⟩,aR⟩ ?_;rintro d a11⟨a13,G⟩A;have a14:=F _ _ G;refine aa ?_;refine aG (λc2=>?_) λc2=>?_
  .have s:=q d;have a15:=p.cs (a.aE.getD d []) (by simp_all);refine ib (Eg _ _ h _ (a.aE.getD d []) .any acq G (by rw[Ρ];omega)) λ_ Y e=>?_;refine⟨d+1,⟨acq,?_⟩,rfl,acq⟩;rw[fa (b:=[]) acq,a9a,<-a8w];simpa using e
  .obtain rfl:d=α a.aE:=acq;have s:=q (α a.aE);rw[a8F]at G s;have a16:=tx r.k.1 p.k;refine fJ F (Hf _ _ h _ a.bq _ _ _ G (by rw[Ρ];omega) r.k.1 p.k) λ_ Y e=>?_;refine ib (Hf _ _ h _ a.bu _ _ _ e (by grind) r.z.1 p.z) λ_ a18 Z=>?_;refine⟨c+1,⟨acq,?_⟩,rfl,acq⟩;have k3:=Z.base (κ η N);rw[H,<-a9v,W,fT];simpa using k3
 .obtain rfl:c=α b:=acq;have m:=dd (α b);rw[a8F]at x m;refine ag (a4Q k w h _ x (by rw[a8m];omega)) ?_;rintro C n L;have a19:=fv L;have k4:=ο (x.sub j) L.1;have k5:=L.base (x.sub j);refine aa ?_;refine bh (Eh k n h _ (x.mono L.1)) ?_;exact⟨_,η,k4,C,k5,rfl⟩
def wv(a:List aK)(d:Ψ)(p:Own)(x:aB dJ a d)(y:∀z∈a,z.Fit)(C:α a<=1000000)(h:U):
  AC γ 19 [.J d p] h λk o=>h.sub o/\if c8 a=ζ then∃D,k=.aJ [.J ((cA a).map ah) D,.v (.int .i64 0)]else k=.aJ [.J [] .nil,.v (.int .i64 1)]:=
 AC.view (Hh a d p x y C h) λk o ⟨E,b⟩=>by
  by_cases c:c8 a=ζ
  .rw[if_pos c]at b;obtain⟨S,F,rfl⟩:=b;obtain⟨G,L,T,P,r⟩:=View.dA F;rw[show eo 1 G ((cA a).map ah)=(cA a).map ah by rw[jX,Ο acq]]at r;exact⟨_,L,View.aJ (a:=[]) r,P,by rw[if_pos c];exact⟨_,rfl⟩⟩
  .rw[if_neg c]at b;exact⟨_,o,View.refl,E,by rw[if_neg c];exact b⟩
theorem Hi(n k5:U)(h:Nat)(A:au)(D:Υ)(l5:n h=ε)(l6:A.In 8)(e:bP n h ⟨dN A++D,0⟩ k5):
  AC γ 156 [.ptr h 0] k5 λq S=>bP n h ⟨D,0⟩ S/\∃F G L,q=.agg (ab A F G L):=by
 have eX:=aT (M:=.nil) (e7:=.nil) (j0:=.nil) bm;have a13:=eX.len;have a14:=eX.t37;obtain⟨a,b,c,a15,ch,d⟩:=A;obtain⟨P,l7,l8,l9,n0,n1,n2,n3,a16,n4,a18⟩:=l6;obtain⟨o,rfl⟩:=aa9 n3;obtain⟨r,rfl⟩:=aa9 n4
 dsimp only at*
 have n5:dN ⟨a,b,c,(o),(r),d⟩++D=a++(ft o++(ft r++(dE b++(dE c++(dE d++D))))):=by simp[dN]
 rw[n5]at e;have a19:(bo a).cells=a.map ah:=rfl;have a27:(a.map ah).length=32:=by simp[P]
 have a29:=cr;have a30:putAt (ab aw .nil .nil .nil) 0 (a.map ah)=ab ⟨a,[],[],0,0,[]⟩ .nil .nil .nil:=tz bm P;have a34:∀(b c)(T V)(d)(F G L),putAt (ab aw .nil .nil .nil) 0 (ab ⟨a,b,c,T,V,d⟩ F G L)=ab ⟨a,b,c,T,V,d⟩ F G L:=λb c T V d F G L=>cF bm P;have cl:∀(b c)(T V)(d)(F G L),(ab ⟨a,b,c,T,V,d⟩ F G L).length=37/\(ab ⟨a,b,c,T,V,d⟩ F G L).take 37=ab ⟨a,b,c,T,V,d⟩ F G L:=λb c T V d F G L=>by
  have:=aT (A:=⟨a,b,c,T,V,d⟩) (M:=F) (e7:=G) (j0:=L) P;exact⟨this.len,this.t37⟩
 refine aL hm CM ?_;refine aN λq n9=>?_;rw[cr];obtain⟨B,k6,e⟩:=e.new (ob:=.cells (ab aw .nil .nil .nil)) n9;refine aa ?_;have k7:=yu _ _ h _ e;rw[Em _ _ P]at k7;refine ag k7 ?_;rintro _ a36⟨M,rfl⟩
 dsimp only at M|-
 refine aa ?_;refine aN λz N=>?_;obtain⟨f,k8,k9⟩:=M.new (ob:=.cells (ab ⟨a,[],[],0,0,[]⟩ .nil .nil .nil)) N;have a00:q≠z:=by rintro rfl;rw[M.get B (μ _ _ _)]at N;cases N
 obtain⟨W,H⟩:∃W,n.set q (.cells (ab aw .nil .nil .nil))=W:=⟨_,rfl⟩;have a01:W h=none:=by rw[<-H,ξ _ _ (Δ B)];exact l5
 have a02:W q=β (.cells (ab aw .nil .nil .nil)):=by rw[<-H,μ]
 have l0:n.sub W:=by rw[<-H];exact κ η k6
 rw[H]at k9 k8;have l1:∀ {g O S},bP (W.set z g) h O S->S z=β g:=λe=>e.get f (μ _ _ _);refine aa ?_;have s:=q9 _ _ h 1048576 acq _ k9;rw[vs _ acq]at s;refine ag s ?_;rintro _ a38⟨t,rfl⟩;have a42:=τ (l1 t);have i:putAt (ab ⟨a,[],[],0,0,[]⟩ .nil .nil .nil) 34 [.v (.int .i64 (o))]=ab ⟨a,[],[],(o),0,[]⟩ .nil .nil .nil:=rH P;have t:=t.put (.cells (ab ⟨a,[],[],(o),0,[]⟩ .nil .nil .nil)) f
 dsimp only at t|-
 refine aa ?_;have s:=q9 _ _ h 1048576 acq _ t;rw[vs _ acq]at s;refine ag s ?_;rintro _ a43⟨u,rfl⟩;have a47:=τ (l1 u);have a48:putAt (ab ⟨a,[],[],(o),0,[]⟩ .nil .nil .nil) 35 [.v (.int .i64 (r))]=ab ⟨a,[],[],(o),(r),[]⟩ .nil .nil .nil:=rI P;have u:=u.put (.cells (ab ⟨a,[],[],(o),(r),[]⟩ .nil .nil .nil)) f
 dsimp only at u|-
 refine aa ?_;refine ic λQ a03=>?_;obtain⟨a04,a05,X⟩:=u.new (ob:=.buf 1 3 3) a03;have Y:z≠Q:=by grind
 have a06:W Q=none:=by rwa[ξ _ _ (Δ Y)]at a05
 rw[U.dL _ Y]at X;obtain⟨E,I⟩:∃E,W.set Q (.buf 1 3 3)=E:=⟨_,rfl⟩;rw[I]at X;have Z:W.sub E:=by rw[<-I];exact κ η a06
 have a07:E h=none:=by rw[<-I,ξ _ _ (Δ a04)];exact a01
 have a08:E z=none:=by rw[<-I,ξ _ _ Y];exact k8
 have j:∀ {g O S},bP (E.set z g) h O S->S z=β g:=λe=>e.get f (μ _ _ _);have k3:∀g,(E.set z g) h=none:=λg=>by rw[ξ _ _ (Δ f)];exact a07
 let a09:Nat->au:=λk=>⟨a,if 0<k then b else [],if 1<k then c else [],(o),(r),if 2<k then d else []⟩
 let a10:Nat->Υ:=λk=>if k=0 then dE b++(dE c++(dE d++D))else if k=1 then dE c++(dE d++D)else if k=2 then dE d++D else D;refine cd [0,2,3,20,21] (λk:Nat=>[(22,.v (.int .i64 k))]) (λk S=>k<=3/\∃x y i,bP (E.set z (.cells (ab (a09 k) x y i))) h ⟨a10 k,0⟩ S) (λk=>3 - k) 0 ⟨⟨acq,.nil,.nil,.nil,X⟩,aR⟩ ?_;rintro k K⟨a52,x,y,m,p⟩a56;refine aa ?_;refine aG (λa11=>?_) λa11=>?_
 .have k4:=τ (j p);rcases(by omega:k=0\/k=1\/k=2)with rfl|rfl|rfl
  .have p:bP (E.set z (.cells (ab ⟨a,[],[],(o),(r),[]⟩ x y m))) h ⟨dE b++(dE c++(dE d++D)),0⟩ K:=p;have k4:=τ (j p);have l:=mJ _ _ h 8 acq _ (k3 _) p;rw[qc b 8 _ n0 acq l7]at l;refine aa ?_;refine ag l ?_;rintro _ l2⟨C,l3,rfl⟩;have l4:=τ (j C);have v:=λx y i w=>yN (A:=⟨a,[],[],(o),(r),[]⟩) (a:=x) (M:=y) (e7:=i) (j0:=w) (t:=b) P
   dsimp only at v C|-
   refine aa ?_;exact⟨1,⟨acq,_,_,_,C.put _ f⟩,rfl,acq⟩
  .have p:bP (E.set z (.cells (ab ⟨a,b,[],(o),(r),[]⟩ x y m))) h ⟨dE c++(dE d++D),0⟩ K:=p;have k4:=τ (j p);have l:=mJ _ _ h 8 acq _ (k3 _) p;rw[qc c 8 _ n1 acq l8]at l;refine aa ?_;refine ag l ?_;rintro _ l2⟨C,l3,rfl⟩;have l4:=τ (j C);have v:=λx y i w=>yO (A:=⟨a,b,[],(o),(r),[]⟩) (M:=x) (a:=y) (e7:=i) (j0:=w) (t:=c) P
   dsimp only at v C|-
   refine aa ?_;exact⟨2,⟨acq,_,_,_,C.put _ f⟩,rfl,acq⟩
  .have p:bP (E.set z (.cells (ab ⟨a,b,c,(o),(r),[]⟩ x y m))) h ⟨dE d++D,0⟩ K:=p;have k4:=τ (j p);have l:=mJ _ _ h 8 acq _ (k3 _) p;rw[qc d 8 _ n2 acq l9]at l;refine aa ?_;refine ag l ?_;rintro _ l2⟨C,l3,rfl⟩;have l4:=τ (j C);have v:=λx y i w=>rJ (A:=⟨a,b,c,(o),(r),[]⟩) (M:=x) (e7:=y) (a:=i) (j0:=w) (t:=d) P
   dsimp only at v C|-
   refine aa ?_;exact⟨3,⟨acq,_,_,_,C.put _ f⟩,rfl,acq⟩
 .obtain rfl:k=3:=acq;have p:bP (E.set z (.cells (ab ⟨a,b,c,(o),(r),d⟩ x y m))) h ⟨D,0⟩ K:=p;have a57:=ι (j p);have a61:=τ (p.get B (by rw[ξ _ _ a00];exact Z _ _ a02));have de:=cl b c o r d x y m;refine aa ?_;have C:=p.other (ob:=.cells (ab ⟨a,b,c,(o),(r),d⟩ x y m)) B;refine⟨_,η,C.base ?_,_,_,_,rfl⟩;exact κ (κ (ο l0 Z) (Ι (ο l0 Z) a08)) k6
theorem a4R(a b:Nat)(d:a<=b)(h:b<=1048576)(c:Υ):ez b ⟨ft a++c,0⟩=(a,⟨c,0⟩):=by have k:=rB (ft a) c;grind[kL,ez,fs,ft,UInt8.toNat_ofNat',Nat.shiftRight_eq_div_pow]
def wx(a:Υ)(b:Nat)(d:α a<=b)(h:b<=1048576)(c:Υ):fu b ⟨gJ a++c,0⟩=(a,⟨c,0⟩):=by unfold fu;rw[gJ,a8w,a4R _ _ d h,rB];rfl
structure aK.In(t:aK):Prop where
 le:t.hA
 k:t.bq.In 8
 z:t.bu.In 8
variable{h5:List Υ}
def pw:aW 1 (bB h5):=λb a=>by obtain⟨_,_,rfl⟩:=a8D.1 a;rfl
theorem a4S(V N:U)(p:Nat)(i:aK)(y:Υ)(l5:V p=ε)(l6:i.In)(D:bP V p ⟨fT i++y,0⟩ N):
  AC γ 86 [.ptr p 0] N λW E=>bP V p ⟨y,0⟩ E/\dJ i W:=by
 obtain⟨h,a,e,F⟩:=i;obtain⟨⟨l7,a18,a3,_,_⟩,G,L⟩:=l6
 dsimp only at*
 have l8:fT ⟨h,a,e,F⟩++y=gJ h++(ν (α a)::(a.flatMap gJ++(dN e++(dN F++y)))):=by simp[fT]
 rw[l8]at D;have a19:=jG;refine aL hm CF ?_;refine aN λW l9=>?_;rw[jG];obtain⟨j,O,D⟩:=D.new (ob:=.cells eV) l9;refine aa ?_;have f:=vr _ _ p 16 acq _ D;rw[wx _ _ l7 acq]at f;refine ag f ?_;rintro _ a27⟨g,t,_,rfl⟩;have a29:=@nE h t
 dsimp only at g|-
 refine aa ?_;have u:∀(z) b c k,α c=37->α k=37->(bc h::R.J (bB z) b::(c++k)).length=76/\(bc h::R.J (bB z) b::(c++k)).take 76=bc h::R.J (bB z) b::(c++k)/\putAt eV 0 (bc h::R.J (bB z) b::(c++k))=bc h::R.J (bB z) b::(c++k):=λz b c k g l=>by
  have n0:(bc h::R.J (bB z) b::(c++k)).length=76:=by simp[g,l]
  exact⟨n0,Ο acq,rf (by trivial)⟩
 obtain⟨o,Q⟩:∃o,ab aw .nil .nil .nil=o:=⟨_,rfl⟩;have v:α o=37:=by rw[<-Q];rfl
 have a30:=gS.all.1;refine aN λP w=>?_;obtain⟨S,X,l⟩:=g.new (ob:=.cells (bc h::.J [] .nil::(o++o))) w;have n1:=u [] .nil o o v v;rw[show bB []=[]from rfl]at n1;have Y:W≠P:=by rintro rfl;rw[g.get j (μ _ _ _)]at w;cases w
 obtain⟨r,m⟩:∃r,V.set W (.cells eV)=r:=⟨_,rfl⟩;have n2:r p=none:=by rw[<-m,ξ _ _ (Δ j)];exact l5
 have n3:r W=β (.cells eV):=by rw[<-m,μ]
 have Z:V.sub r:=by rw[<-m];exact κ η O
 rw[m]at l X;rw[Q];refine aa ?_;have k3:=nN _ _ p _ l;rw[oZ]at k3;have n4:(ν (α a)).toNat=α a:=by rw[a9k];omega
 have a34:min (α a:Int) 8=(α a):=acq;refine ag k3 ?_;rintro _ a36⟨A,rfl⟩;obtain⟨n5,A⟩:=A;rw[n4];refine aa ?_;have a38:∀x B,((r.set P x).set p B) p=β B:=λx B=>μ _ _ _;have k4:∀x,(r.set P x) p=none:=λx=>by rw[ξ _ _ (Δ S)];exact n2
 have T:∀ {x n9 E},bP (r.set P x) p n9 E->E P=β x:=λD=>D.get S (μ _ _ _);refine cd [0,2,3,11] (λd:Nat=>[(12,.v (.int .i64 d))]) (λd E=>d<=α a/\∃b t,bf ((r.set P (.cells (bc h::.J (bB (a.take d)) b::(o++o)))).set p (ha ⟨(a.drop d).flatMap gJ++(dN e++(dN F++y)),0⟩ t)) E 1 (bB (a.take d)) b) (λd=>α a - d) 0 ⟨⟨acq,.nil,n5,Ν A⟩,aR⟩ ?_;rintro d a00⟨a42,b,a43,k5⟩a47;have n:=ct.rs k5;have a01:=ι (T n);refine aa ?_;refine aG (λa02=>?_) λa02=>?_
 .have a03:=a3 (a.getD d []) (by simp_all);have a04:=drop_cons (a:=a) (b:=[]) (e:=d) acq;have k6:=fa (a:=a) (b:=[]) (e:=d) acq;have f:=vr _ _ p 16 acq _ n.full;rw[a04,a8I,a8w,wx _ _ a03 acq]at f;refine ag f ?_;rintro _ a05⟨q,a06,_,rfl⟩;obtain⟨a48,H⟩:=ct.step k5 (k4 _) q;have a07:=T (ct.rs H);have a52:=ι a07;have a56:=@nE (a.getD d []) a06
  dsimp only at H|-
  refine aa ?_;refine ic (λa57 a08=>?_) (d:=pw (h5:=[_]));have a61:=λd=>hn (h5:=a.take d);refine dW (H.mono (κ η a08)) pw (pw (h5:=[_])) (by simp[hn];omega) (by simp[hn];omega) λa09 a62 C=>?_;have k7:bB (a.take d)++[bc (a.getD d [])]=bB (a.take (d+1)):=by rw[k6];simp[bB]
  rw[k7]at C|-;clear k6 k7;have a10:=τ (T (ct.rs C));refine aa ?_;have s:=C.set (ob:=.cells (bc h::.J (bB (a.take (d+1))) a09::(o++o))) (by rw[ξ _ _ S];exact μ _ _ _);rw[U.dL _ (Δ S),ς]at s;grind
 .obtain rfl:d=α a:=acq;rw[aag,a8F]at n;rw[a8F]at a01;have k8:=k4;have a11:=Hi _ a00 p e (dN F++y) (k8 _) G n;refine ag a11 ?_;rintro _ a05⟨q,k9,l0,l1,rfl⟩;obtain⟨c,I⟩:∃c,ab e k9 l0 l1=c:=⟨_,rfl⟩;have K:α c=37:=by rw[<-I];exact(aT G.sum).len
  have a63:=τ (T q);have a65:putAt (bc h::R.J (bB a) b::(o++o)) 2 c=bc h::R.J (bB a) b::(c++o):=by simp only[putAt,aaD,a9Y,K,a9v,a8y,Nat.reduceAdd,a9A];simp_all
  have a13:=q.put (.cells (bc h::.J (bB a) b::(c++o))) S;have a68:=u a b c o K v;rw[I];refine aa ?_;have a14:=Hi _ _ p F y (k8 _) L a13;refine ag a14 ?_;rintro _ a69⟨C,l2,l3,l4,rfl⟩;obtain⟨k,M⟩:∃k,ab F l2 l3 l4=k:=⟨_,rfl⟩;have a15:α k=37:=by rw[<-M];exact(aT L.sum).len
  have a10:=τ (T C);have a71:putAt (bc h::R.J (bB a) b::(c++o)) 39 k=bc h::R.J (bB a) b::(c++k):=by simp_all [putAt]
  have s:=C.put (.cells (bc h::.J (bB a) b::(c++k))) S;have a73:=u a b c k K a15;have a74:=τ (C.get j (by rw[ξ _ _ Y];exact n3));have a81:=ι (T s);have a83:=Δ Y;rw[M];refine aa ?_;have a16:=s.other (ob:=.cells (bc h::.J (bB a) b::(c++k))) j;refine⟨_,η,a16.base ?_,_,rfl,⟨b,k9,l0,l1,l2,l3,l4,by rw[I,M]⟩,⟨G.sum,?_⟩,⟨L.sum,?_⟩,(show α a<=1000000 by omega)⟩
  .exact κ (κ Z (Ι Z X)) O
  .exact⟨a8W G.p0 acv,a8W G.p1 acv,a8W G.p2 acv⟩
  .exact⟨a8W L.p0 acv,a8W L.p1 acv,a8W L.p2 acv⟩
def aK.In.fit(a:e8.In):e8.Fit:=⟨by have:=a.le.n;omega,by have:=a.le.c;omega,λb c=>by have:=a.le.cs b c;omega⟩
theorem wy(b:∀c∈b4,c.In):(b4.flatMap fT).length<=1000*α b4:=by
 induction b4 with
 |nil=>simp
 |cons d b4 ih=>have a:=b d acr;have:=zM a.le a.k.sum a.z.sum;grind
theorem a4T(a:List aK)(x:Own)(o:U)(P:c8 a=ζ)(y:∀z∈a,z.In):
  AC γ 36 [.J ((cA a).map ah) x] o λl C=>∃c S,bf o C 76 c S/\aB dJ a c/\l=.aJ [.J c S,.v (.int .i64 0)]:=by
 obtain⟨k3,k4⟩:=hG P;have k5:=wy y;have k6:(cA a).length<=9000:=by rw[cA,a8m];omega
 refine kJ λk7=>?_;have m:x=.nil->cA a=[]:=λn=>by simp_all
 refine aL hm CA ?_;have q:(ν (α a)).toNat=α a:=by rw[a9k];omega
 have k8:min (α a:Int) 9=(α a):=acq;refine ag (yt (cA a) x o m acq) ?_;rintro _ k9⟨k,D,rfl,s⟩;refine aa ?_;have V:=nN _ _ k _ s;rw[cA,oZ]at V;refine ag V ?_;rintro _ l0⟨⟨t,u⟩,rfl⟩;rw[q];refine aa ?_;refine cd [0,4,13] (λb:Nat×Ψ×Own=>[(14,.v (.int .i64 b.1)),(5,.J b.2.1 b.2.2)]) (λb C=>b.1<=α a/\aB dJ (a.take b.1) b.2.1/\∃v,bf (o.set k (ha ⟨(a.drop b.1).flatMap fT,0⟩ v)) C 76 b.2.1 b.2.2) (λb=>α a - b.1) (0,[],.nil) ⟨⟨acq,trivial,t,Ν u⟩,aR⟩ ?_;rintro⟨d,c,W⟩ e ⟨w,h,l1,p⟩ l2
 dsimp only at w h p|-
 have E:=ct.rs p;have l3:α c=d:=by rw[h.len,a8l];omega
 refine aa ?_;refine aG (λA=>?_) λA=>?_
 .have l4:=drop_cons (a:=a) (b:=default) (e:=d) acq;have B:=fa (a:=a) (b:=default) (e:=d) acq;have H:=y (a.getD d default) (by simp_all);have I:=a4S (e.del k) e k (a.getD d default) ((a.drop (d+1)).flatMap fT) (by simp[U.del]) H (by have:=E.full;grind);refine ag I ?_;rintro l5 f⟨F,g⟩;obtain⟨i,G⟩:=ct.step p D F;have K:=g;obtain⟨T,rfl,M⟩:=g;have N:=M.all.1;refine aa ?_;refine ic (λl6 O=>?_);refine dW (G.mono (κ η O)) (h.cells λ_ _ L=>by obtain⟨_,rfl,L⟩:=L;exact L.all.1) (λn r=>by rw[a8B]at r;subst r;exact N) acs acs λQ l7 X=>?_;refine aa ?_;refine⟨(d+1,c++[.agg T],Q),⟨by simp only;omega,?_,i,X⟩,⟨rfl,rfl⟩,by simp only;omega⟩;simp only[B];exact h.snoc K
 .obtain rfl:d=α a:=acq;rw[aag]at E;rw[a8F]at h;have r:=yv _ _ k _ E.full;refine ag r ?_;rintro _ f⟨F,rfl⟩;have l8:(mI ⟨List.flatMap fT [],0⟩).e=0:=rfl;refine aa ?_;have j:=wv a c W h (λz Y=>(y z Y).fit) acq f;simp only[P,if_true]at j;refine ag j ?_;rintro _ l9⟨Z,n0,rfl⟩;refine aa ?_;refine bh (yB _ _ _ _ _ acq) ?_;obtain⟨i,G⟩:=ct.step p D F;exact⟨_,η,c,W,(G.base (κ η D)).mono Z,h,rfl⟩
def a4U(a:List aK)(h:Own)(c:U)(k:c8 a=ζ)(o:∀p∈a,p.In):
  AC γ 36 [.J ((cA a).map ah) h] c λr x=>c.sub x/\∃b d,aB dJ a b/\r=.aJ [.J b d,.v (.int .i64 0)]:=
 (a4T a h c k o).mono λ_ _ ⟨b,d,y,z⟩=>⟨y.sub,b,d,z⟩
theorem a4V(a:List Υ)(d:Own)(c:U)(C:α a<=1000000):
  AC γ 121 [.J (bB a) d] c λh k=>c.sub k/\∃o,h=.J (bB a) o:=by
 have D:=hn (h5:=a);refine kJ λE=>?_;have p:d=.nil->bB a=[]:=λF=>by simp_all
 refine bg hm OD acr ?_;simp -dsimp -implicitDefEqProofs (disch:=first|omega|assumption|(simp only[aX,Nat.reduceAdd];try omega)) only[go_sem,simprocAttr,↓mE];refine mF (λb=>by rw[p b]) (λb=>?_) ?_
 .have r:bB a=[]:=by trivial
  rw[r];simp -dsimp -implicitDefEqProofs (disch:=first|omega|assumption|(simp only[aX,Nat.reduceAdd];try omega)) only[go_sem,simprocAttr,a8U];exact⟨c,η,η,_,rfl⟩
 .simp -dsimp -implicitDefEqProofs (disch:=first|omega|assumption|(simp only[aX,Nat.reduceAdd];try omega)) only[go_sem,simprocAttr];refine dD η (by simp[aW]) λG L x=>?_;simp -dsimp -implicitDefEqProofs (disch:=first|omega|assumption|(simp only[aX,Nat.reduceAdd];try omega)) only[go_sem,simprocAttr];refine dW x (λ_ b=>by cases b) pw (by rw[a8s];omega) (by rw[a8s];omega) λP y z=>?_;simp -dsimp -implicitDefEqProofs (disch:=first|omega|assumption|(simp only[aX,Nat.reduceAdd];try omega)) only[go_sem,simprocAttr,a8y];exact⟨y,η,z.sub,_,rfl⟩
structure dg(b:U)(a fV c:Nat)(h:ai)(l:List aK):Prop where
 hg:bs b fV c h
 x:∃d o,b a=β (.cells [.ptr fV 0,.J d o])/\aB dJ l d
 oe:a≠fV
 og:a≠c
def cH(c d h:Nat)(k o:U):Prop:=∀a b,a≠c->a≠d->a≠h->k a=β b->o a=β b
theorem cH.of{X lM:Nat}{s:U}(a:s.sub f):cH X e lM s f:=λb c _ _ _ d=>a b c d
def cH.ext(a:Ext e i f s):cH v e i f s:=λb c _ d h k=>a b c d h k
theorem cH.trans(k:cH e i v f s)(o:cH e i v s e5):cH e i v f e5:=λa b c d h p=>o a b c d h (k a b c d h p)
variable{Z:bt}
def cH.AI(b:cH e i v f s):cH e i v f (s.set e Z):=λc d a h k o=>by rw[ξ _ _ a];exact b c d a h k o
def dg.sub(a:dg f e i v H b4)(b:f.sub s):dg s e i v H b4:=⟨a.hg.mono b,by obtain⟨c,d,h,k⟩:=a.x;exact⟨c,d,b _ _ h,k⟩,a.oe,a.og⟩
variable{M e7 j0:Own}
def dg.put{b:List aK}(a:dg f e i v H b)(c:aB dJ b4 g):dg (f.set e (.cells [.ptr i 0,.J g M])) e i v H b4:=⟨a.hg.set ⟨a.oe,a.og⟩,⟨g,M,μ _ _ _,c⟩,a.oe,a.og⟩
def iZ(a:Except Int (List aK))(b:List aK):Int×List aK:=match a with
 |.error c=>(c,b)
 |.ok d=>(0,d)
def a4W(d:U)(b r x:Nat)(C:ai)(a:List aK)(D:dg d b r x C a)(f:∀c∈a,c.Fit)(g:α a<=1000)(h:df):
  AC γ 60 [.ptr b 0,h.V] d λE F=>dg F b r x C (iZ (cL a h.d.table) a).2/\cH b r x d F/\E=.v (.int .i64 (iZ (cL a h.d.table) a).1):=by
 obtain⟨i,j,y,l⟩:=D.x;obtain⟨⟨G,c,L,P⟩,S,T⟩:=h
 dsimp only
 show AC γ _ [.ptr b 0,.agg [ah G,bc c,.J (bB L) S,.J (af P) T]] d _;refine aL hm MX ?_;refine bp λV z=>?_;have k:=κ (Z:=.cells [ah G,bc c,.J (bB L) S,.J (af P) T]) (η) z;have s:=ι y;have m:b≠V:=by rintro rfl;rw[y]at z;cases z
 have t:=m.symm;refine aa ?_;generalize d.set V _=n at*;refine ag (a4O a i j c l f g n) ?_;rintro E u⟨o,p⟩;have v:=τ (o _ _ (k _ _ y));have W:=D.sub (ο k o);cases e:cL a c with
 |error w=>rw[e]at p;obtain⟨A,rfl⟩:=p;refine aa ?_;exact⟨_,η,W,cH.of (ο k o),rfl⟩
 |ok B=>rw[e]at p;obtain⟨H,q,rfl⟩:=p;refine aa ?_;exact⟨_,η,W.put q,(cH.of (ο k o)).AI,rfl⟩
def a4X(h:U)(k E F:Nat)(g:ai)(a:List aK)(i:dg h k E F g a)(v:∀b∈a,b.Fit)(w:α a<=1000)(d:df)(A:d.d.Fit):
  AC γ 59 [.ptr k 0,d.V] h λj l=>dg l k E F g (iZ (kp a ⟨d.d.table,d.d.aE,aw,aw⟩) a).2/\cH k E F h l/\j=.v (.int .i64 (iZ (kp a ⟨d.d.table,d.d.aE,aw,aw⟩) a).1):=by
 obtain⟨B,H,r,I⟩:=i.x;obtain⟨⟨G,b,c,L⟩,x,P⟩:=d;obtain⟨K,S,M,k3⟩:=A
 dsimp only at*
 show AC γ _ [.ptr k 0,.agg [ah G,bc b,.J (bB c) x,.J (af L) P]] h _;refine aL hm MV ?_;refine bp λT V=>?_;have W:=κ (Z:=.cells [ah G,bc b,.J (bB c) x,.J (af L) P]) (η) V;have k4:=ι r;have N:k≠T:=by rintro rfl;rw[r]at V;cases V
 have k5:=N.symm;refine aa ?_;have aD:=μ h T (.cells [ah G,bc b,.J (bB c) x,.J (af L) P]);generalize h.set T _=O at*;refine ag (a4V c x O S) ?_;rintro _ Q⟨y,m,rfl⟩;have fl:=ι (y _ _ (W _ _ r));have k6:=ι (y _ _ aD);refine aa ?_;rw[jG];have e:eL ⟨b,c,aw,aw⟩ (bc b::.J (bB c) m::(ab aw .nil .nil .nil++ab aw .nil .nil .nil)):=⟨⟨m,_,_,_,_,_,_,rfl⟩,⟨bm,qg⟩,⟨bm,qg⟩,S⟩;have n:eV=bc []::.J [] .nil::(ab aw .nil .nil .nil++ab aw .nil .nil .nil):=rfl;have X:∀z C o:R,∀p:Ψ,putAt (z::C::p) 0 [o]=o::C::p:=λ_ _ _ _=>rfl;have k7:∀z C o:R,∀p:Ψ,putAt (z::C::p) 1 [o]=z::o::p:=λ_ _ _ _=>rfl;rw[n,X];generalize ab aw .nil .nil .nil++ab aw .nil .nil .nil=k8 at*;have q:=a4L a B H ⟨b,c,aw,aw⟩ _ e ⟨K,S,M⟩ I v w Q;have k9:=e.all.1;clear n e;refine aa ?_;refine ag q ?_;clear q;rintro j l0⟨s,D⟩;have Y:=y _ _ (W _ _ r);have l1:=τ (s _ _ Y);have f:=ο W (ο y s);have t:=i.sub f;cases u:kp a ⟨b,c,aw,aw⟩with
 |error l2=>rw[u]at D;obtain⟨l3,rfl⟩:=D;refine aa ?_;exact⟨_,η,t,cH.of f,rfl⟩
 |ok l4=>rw[u]at D;obtain⟨l5,Z,rfl⟩:=D;refine aa ?_;exact⟨_,η,t.put Z,(cH.of f).AI,rfl⟩
def px(c:List aK)(b:db):Int×Option aK:=match c.find? (λa=>decide (a.name=b.table))with
 |none=>(3,ε)
 |some a=>if α b.row=α a.aE+1 then(0,β a)else(6,β a)
theorem Hj(b:U)(r n q:Nat)(s:ai)(x:List aK)(t:dg b r n q s x)(Y:α x<=1000)(E:df)(u:E.d.Fit):
  AC γ 123 [.ptr r 0,E.V] b λG v=>b.sub v/\match px x E.d with
   |(L,ε)=>G=.aJ [.agg eV,.v (.int .i64 L)]
   |(L,β a)=>∃T,eL a T/\G=.aJ [.agg T,.v (.int .i64 L)]:=by
 obtain⟨w,A,P,B⟩:=t.x;obtain⟨⟨y,a,z,c⟩,C,D⟩:=E;obtain⟨Z,k3,k4,k5⟩:=u
 dsimp only at*
 have k6:=bM (t:=c);show AC γ _ [.ptr r 0,.agg [ah y,bc a,.J (bB z) C,.J (af c) D]] b _;refine aL hm OH ?_;refine bp λd S=>?_;refine dk λh V k7 H=>?_;have k8:=ι P;have I:r≠d:=by rintro rfl;rw[P]at S;cases S
 have k9:=I.symm;have K:r≠h:=by rintro rfl;rw[P]at V;cases V
 have l0:=K.symm;refine aa ?_;rw[jG];have l1:=gS.all.1;have W:∀a T,eL a T->putAt eV 0 T=T:=λa T M=>(ps M).2.2.1;have l2:=gS.all.2.1;have l3:=W _ _ gS;generalize i:eV=e at*;have l4:b.sub ((b.set d (.cells [ah y,bc a,.J (bB z) C,.J (af c) D])).set h (.cells e)):=κ (κ η S) V;have aD:((b.set d (.cells [ah y,bc a,.J (bB z) C,.J (af c) D])).set h (.cells e)) d=β (.cells [ah y,bc a,.J (bB z) C,.J (af c) D]):=by rw[ξ _ _ H,μ]
 have aP:=μ (b.set d (.cells [ah y,bc a,.J (bB z) C,.J (af c) D])) h (.cells e);generalize (b.set d _).set h _=N at*;refine ag (find_spec x w A a B acq N) ?_;rintro G _⟨rfl,o⟩;have l5:=ι aD;have l6:=τ aP;unfold Found at o;rw[i]at o;clear i;unfold px
 dsimp only
 cases j:x.find? (λp=>decide (p.name=a))with
 |none=>
  rw[j]at o;obtain rfl:=o;refine aa ?_;refine aN λF k=>?_;have f:F≠h:=by rintro rfl;rw[aP]at k;cases k
  have O:=f.symm;exact aR
 |some p=>
  rw[j]at o;obtain⟨T,g,rfl⟩:=o;obtain⟨l7,l8,l9,_⟩:=g.all;have n0:=W _ _ g;have l:=λb=>u1 p T g b;clear W;refine aa ?_;refine aN λF k=>?_;have f:F≠h:=by rintro rfl;rw[aP]at k;cases k
  have O:=f.symm;have Q:F≠d:=by rintro rfl;rw[aD]at k;cases k
  have n1:=Q.symm;refine aa ?_;by_cases m:α c=α p.aE+1
  .have X:(α c)=((α p.aE+1:Nat):Int):=acq
   dsimp only
   rw[if_pos m];refine bh (l _) ?_;simp_all
  .have X:¬(α c)=((α p.aE+1:Nat):Int):=acq
   dsimp only
   rw[if_neg m];refine bh (l _) ?_;simp_all
def a4Y(a:U)(b c d:Nat)(h:ai)(k:List aK)(o:dg a b c d h k):
  AC γ 30 [.ptr b 0] a λp r=>r=a/\p=.ptr c 0:=by
 obtain⟨y,z,x,C⟩:=o.x;have D:=ι x;refine aL hm Mh ?_
 repeat' first|refine aG (λ_=>?_) λ_=>?_|trivial
def Hk(a:U):AC γ 8 [] a λx p=>∃b c d,x=.ptr b 0/\a.sub p/\a b=ε/\a c=ε/\a d=ε/\dg p b c d Λ []:=by refine aL hm LO ?_;refine ag (qe a) ?_;rintro _ C⟨c,d,y,z,rfl,r,h⟩;refine aa ?_;refine aN λb k=>?_;refine aa ?_;have o:=r.cG k;exact⟨_,η,b,c,d,rfl,κ h (Ι h k),Ι h k,y,z,r.set o,⟨[],.nil,μ _ _ _,trivial⟩,o.1,o.2⟩
end Go.Proofs.YtkafjfkjahgihaaGreat
