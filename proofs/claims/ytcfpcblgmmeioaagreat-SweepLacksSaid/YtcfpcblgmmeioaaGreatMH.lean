import Derived.Test.YtcfpcblgmmeioaaGreatMG
import Derived.Test.YtcfpcblgmmeioaaGreatMF
import Derived.Test.YtcfpcblgmmeioaaGreatMB
import Derived.Shelf.SlSortCmp.NoneTotal
import Derived.Shelf.SlLaysF
import Derived.Test.YtcfpcblgmmeioaaGreatProg
import Derived.Test.YtcfpcblgmmeioaaGreatME
set_option linter.all false
open Option renaming some->β,none->ζ
open Go.Proofs.Tryz renaming prog->γ
open List renaming replicate->ε,take_of_length_le->Ε,length->α
open Bool renaming true->η,false->ι
open Go.bD.U renaming a6->θ,ae->κ,ag->μ,ai->ξ,an->ο,au->π,set_set->τ,aI->χ,set_nil->Η,bK->Ο
open UInt8 renaming ofNat->ν
open Go.bD.R renaming cells->σ
open Go.Proofs.YtcfpcblgmmeioaaGreat.isRow renaming cells->φ
open Go.Proofs.YtcfpcblgmmeioaaGreat.Ext renaming of->Α
open Prod renaming fst->Γ
open Go.Proofs.YtcfpcblgmmeioaaGreat.aC renaming size->Κ
open Go.Proofs.YtcfpcblgmmeioaaGreat.bB renaming cells->Ξ
open Go.bD.bj renaming nil->Τ
set_option maxRecDepth 100000
namespace Go.Proofs.YtcfpcblgmmeioaaGreat
open Go Go.bD
def eM(c:af->Nat->ao->List ϊ->Int×List ϊ)(d:af):List aU->List ϊ->Int×List ϊ
 |[],b=>(0,b)
 |a::h,b=>if 8<α a.aD+1 then(1,b)else if(ey (c d (α a.aD+1)) [a.bf,a.bm] b).1=0 then eM c d h (ey (c d (α a.aD+1)) [a.bf,a.bm] b).2 else ey (c d (α a.aD+1)) [a.bf,a.bm] b
def mL(a:aU):Nat:=bJ a.bf+bJ a.bm
def a3n:(ε 32 (R.v (.int .u8 0))++[R.J [] .nil,.J [] .nil]++[R.v (.int .i64 0),.v (.int .i64 0)]++[R.J [] .nil]++ε 32 (R.v (.int .u8 0))++[R.J [] .nil,.J [] .nil]++[R.v (.int .i64 0),.v (.int .i64 0)]++[R.J [] .nil]).length=74:=ς
def Gi(M:Nat)(D:af->Nat->ao->List ϊ->Int×List ϊ)(k3:vN M D)(k4:fA γ M=η)(E g:U)(p r F G:Nat)(h:af)(i:bq g F G h)(q:G≠r)(W:List ϊ)(j:eg E g p r W)(c:List aU)(k5:ύ)(n0:Own)(k6:aB ed c k5)(a34:α c<=1000)
  (s:∀a∈c,(a.bf≠az->1<=a.bf.size)/\(a.bm≠az->1<=a.bm.size)) (n1:α W+(c.map mL).sum<=1000000000):
  AC γ 31 [.ptr p 0,.ptr F 0,.J k5 n0,.bG M [] []] g λn2 d=>dh p r g d/\eg E d p r (eM D h c W).2/\n2=.v (.int .i64 (eM D h c W).1):=by
 have a36:=k6.len;refine aK hm LX ?_;refine cc [0,1,3,15,16] (λb:Nat×List ϊ=>[(17,.v (.int .i64 (b.1:Int)))]) (λb d=>b.1<=α c/\eg E d p r b.2/\dh p r g d/\bq d F G h/\α b.2+((c.drop b.1).map mL).sum<=1000000000/\eM D h (c.drop b.1) b.2=eM D h c W) (λb=>α c - b.1) (0,W) ⟨⟨a7N _,j,uZ,i,n1,rfl⟩,aO⟩ ?_;rintro⟨L,y⟩ N ⟨n3,t,l,n4,k7,o⟩ n5
 dsimp only at n3 t k7 o|-
 refine aa ?_;refine aF (λn9=>?_) λn9=>?_
 .have O:L<α c:=δ;have k8:=drop_cons (a:=c) (b:=default) O;have k9:c[L]?=β (c.getD L default):=by simp[List.getD,O]
  have a00:=a7r k9;generalize c.getD L default=a at*;obtain⟨_,a38,T,rfl,u⟩:=k6.get k9;rw[k8,eM]at o;rw[k8,a7C,a8E,mL]at k7;have a01:=u.all;have s:=s a a00;obtain⟨a42,a02,_,a43,v,w,A,B,H,I,_,l0,l1⟩:=a01;obtain⟨l2,a03⟩:=u.k;obtain⟨l3,a04⟩:=u.z;have m:=(aP (N:=v) (e6:=w) (h6:=A) l2).len;have l4:=(aP (N:=B) (e6:=H) (h6:=I) l3).len;have a05:aM η 37 (T.drop 2)=.agg (ab a.bf v w A):=by rw[aM,if_pos rfl,l0]
  have a06:aM η 37 (T.drop 39)=.agg (ab a.bm B H I):=by rw[aM,if_pos rfl,l1]
  have a47:aM η 76 T=.agg T:=by rw[aM,if_pos rfl,a02]
  have a48:=@τ;refine aa ?_;refine bs λl5 a07=>?_;have P:=μ (Y:=.cells T) (θ (f:=N)) a07;have cg:=ξ N l5 (.cells T);have a52:=κ cg;generalize N.set l5 (.cells T)=l6 at*;refine bp (tC a T u l6) ?_;refine aF (λbw=>?_) λbw=>?_
  .rw[if_pos δ]at o;rw[<-o];exact⟨_,θ,l.trans (dh.of P),t.mono P,rfl⟩
  rw[if_neg δ]at o;have l7:=a3n;have a08:=λd y (i:bq d F G h) (j:eg E d p r y) (Q:α y+bJ a.bf<=1000000000)=>k3 E d p r F G h (α a.aD+1) y a.bf v w A δ δ i q j l2 (λ_=>a03) s.1 Q;have a09:=λd y (i:bq d F G h) (j:eg E d p r y) (Q:α y+bJ a.bm<=1000000000)=>k3 E d p r F G h (α a.aD+1) y a.bm B H I δ δ i q j l3 (λ_=>a04) s.2 Q;generalize a10:ab a.bf v w A=x at*;generalize a11:ab a.bm B H I=z at*;generalize ε 32 (R.v (.int .u8 0))++[R.J [] .nil,.J [] .nil]++[R.v (.int .i64 0),.v (.int .i64 0)]++[R.J [] .nil]++ε 32 (R.v (.int .u8 0))++[R.J [] .nil,.J [] .nil]++[R.v (.int .i64 0),.v (.int .i64 0)]++[R.J [] .nil]=l8 at*;have a13:(putAt l8 0 x).length=74:=by simp[putAt,m,l7]
  have a14:putAt (putAt l8 0 x) 37 z=x++z:=by simp[putAt,m,l4,l7,a8P,aa5]
  have a56:(R.agg z).cells=z:=rfl;have a57:(R.agg x).cells=x:=rfl;have a61:(x++z).length=74:=by simp[m,l4]
  have a62:(x++z).take 37=x:=a9C m;have a63:(x++z).drop 37=z:=a9V m;have a65:x.take 37=x:=Φ δ;have a68:z.take 37=z:=Φ δ;have a15:=n4.mono P;have a16:=t.mono P;refine aa ?_;clear a10 a11 a05 a06 l0 l1 a13 a14;refine cc [0,1,3,11,15,16,17,29] (λb:Nat×List ϊ=>[(30,.v (.int .i64 (b.1:Int)))]) (λb d=>b.1<=2/\eg E d p r b.2/\dh p r l6 d/\bq d F G h/\α b.2+(([a.bf,a.bm].drop b.1).map bJ).sum+((c.drop (L+1)).map mL).sum<=1000000000/\ey (D h (α a.aD+1)) ([a.bf,a.bm].drop b.1) b.2=ey (D h (α a.aD+1)) [a.bf,a.bm] y) (λb=>2 - b.1) (0,y) ⟨⟨δ,a16,uZ,a15,by simp only[a8O,a7C,a8K,a8E,aah];omega,rfl⟩,aO⟩ ?_;rintro⟨X,S⟩ l9 ⟨a18,e,Y,K,f,k⟩ n5
  dsimp only at a18 e f k|-
  generalize ey (D h (α a.aD+1)) [a.bf,a.bm] y=a69 at*;refine aa ?_;refine aF (λc2=>?_) λc2=>?_
  .rcases(by omega:X=0\/X=1)with rfl|rfl
   .have Z:α S+bJ a.bf<=1000000000:=by simp at f;omega
    refine aa ?_;refine bs λa19 j9=>?_;have C:=μ (Y:=.cells x) (θ (f:=l9)) j9;refine eR k4 (a08 _ S (K.mono C) (e.mono C) Z) ?_;rintro _ a27⟨n,V,k0,rfl⟩;have a29:=(K.mono C).fl (e.mono C) n q;have k1:=Y.trans ((dh.of C).trans n);rw[show [a.bf,a.bm].drop 0=a.bf::[a.bm]from rfl,ey]at k;generalize D h (α a.aD+1) a.bf S=res at*;obtain⟨a30,k2⟩:=res
    dsimp only at V k0 k|-
    refine aa ?_;refine aF (λaE=>?_) λaE=>?_
    .rw[if_neg aE]at k;subst k;rw[if_neg aE]at o;rw[<-o];exact⟨_,θ,l.trans ((dh.of P).trans k1),V,rfl⟩
    .rw[if_pos aE]at k;exact⟨(1,k2),⟨δ,V,by have:=f;simp only[a8O,a8G,abq,a7C,a8K,a8E,aah]at this|-;omega,k⟩,rfl,δ⟩
   .have Z:α S+bJ a.bm<=1000000000:=by simp at f;omega
    refine aa ?_;refine bs λa19 j9=>?_;have C:=μ (Y:=.cells z) (θ (f:=l9)) j9;refine eR k4 (a09 _ S (K.mono C) (e.mono C) Z) ?_;rintro _ a27⟨n,V,k0,rfl⟩;have a29:=(K.mono C).fl (e.mono C) n q;have k1:=Y.trans ((dh.of C).trans n);rw[show [a.bf,a.bm].drop 1=a.bm::[]from rfl,ey]at k;generalize D h (α a.aD+1) a.bm S=res at*;obtain⟨a30,k2⟩:=res
    dsimp only at V k0 k|-
    refine aa ?_;refine aF (λaE=>?_) λaE=>?_
    .rw[if_neg aE]at k;subst k;rw[if_neg aE]at o;rw[<-o];exact⟨_,θ,l.trans ((dh.of P).trans k1),V,rfl⟩
    .rw[if_pos aE]at k;exact⟨(2,k2),⟨δ,V,by have:=f;simp only[a8O,a8G,abq,a7C,a8K,a8E,aah]at this|-;omega,k⟩,rfl,δ⟩
  .obtain rfl:X=2:=δ;rw[show [a.bf,a.bm].drop 2=[]from rfl,ey]at k;subst k;rw[if_pos rfl]at o;exact⟨(L+1,S),⟨O,e,l.trans ((dh.of P).trans Y),by have:=f;simp only[a8O,a8G,abq,a8K,aah]at this|-;omega,o⟩,rfl,by dsimp only;omega⟩
 .obtain rfl:L=α c:=δ;rw[a9v,eM]at o;rw[<-o];exact⟨_,θ,l,t,rfl⟩
def a3o(h:U)(k o:Nat)(b:af)(x:bq h k o b)(a:List aU)(p:ύ)(c:Own)(F:aB ed a p)(G:α a<=1000)(L:∀d∈a,(d.bf≠az->1<=d.bf.size)/\(d.bm≠az->1<=d.bm.size))(P:(a.map mL).sum<=1000000000):
  AC γ 9 [.ptr k 0,.J p c] h λy S=>h.sub S/\((eM iB b a []).1=0->∃c,y=.aJ [.J ((eM iB b a []).2.map br) c,.v (.int .i64 0)])/\((eM iB b a []).1≠0->y=.aJ [.J [] .nil,.v (.int .i64 (eM iB b a []).1)]):=by
 refine aK hm Lj ?_;refine ah (y9 _) ?_;rintro _ T⟨V,z,j,C,rfl,D⟩;have W:=x.mono D.sub;have e:o≠z:=by obtain⟨_,⟨_,_,f,_⟩,_⟩:=x.mp;rintro rfl;rw[f]at C;cases C
 refine aa ?_;refine ah (Gi _ _ G8 Χ _ T V z k o b W e [] D a p c F G L (by simpa using P)) ?_;rintro _ l⟨m,E,rfl⟩;have n:=E.sub;obtain⟨⟨c,g,_⟩,_⟩:=id E;have eP:=κ g;generalize eM iB b a []=res at*;obtain⟨q,s⟩:=res
 dsimp only at*
 refine aa ?_;refine aF (λi=>?_) λi=>?_
 .exact⟨λr=>r.elim,λ_=>trivial⟩
 .exact⟨λ_=>⟨c,rfl⟩,λr=>r.elim⟩
def a3p(h:U)(k o:Nat)(b:af)(x:bq h k o b)(a:List aU)(p:ύ)(c:Own)(F:aB ed a p)(G:α a<=1000)(L:∀d∈a,(d.bf≠az->1<=d.bf.size)/\(d.bm≠az->1<=d.bm.size))(P:(a.map mL).sum<=1000000000):
  AC γ 17 [.ptr k 0,.J p c] h λy S=>h.sub S/\((eM dm b a []).1=0->∃c,y=.aJ [.J ((eM dm b a []).2.map br) c,.v (.int .i64 0)])/\((eM dm b a []).1≠0->y=.aJ [.J [] .nil,.v (.int .i64 (eM dm b a []).1)]):=by
 refine aK hm Lx ?_;refine ah (y9 _) ?_;rintro _ T⟨V,z,j,C,rfl,D⟩;have W:=x.mono D.sub;have e:o≠z:=by obtain⟨_,⟨_,_,f,_⟩,_⟩:=x.mp;rintro rfl;rw[f]at C;cases C
 refine aa ?_;refine ah (Gi _ _ G9 Χ _ T V z k o b W e [] D a p c F G L (by simpa using P)) ?_;rintro _ l⟨m,E,rfl⟩;have n:=E.sub;obtain⟨⟨c,g,_⟩,_⟩:=id E;have eP:=κ g;generalize eM dm b a []=res at*;obtain⟨q,s⟩:=res
 dsimp only at*
 refine aa ?_;refine aF (λi=>?_) λi=>?_
 .exact⟨λr=>r.elim,λ_=>trivial⟩
 .exact⟨λ_=>⟨c,rfl⟩,λr=>r.elim⟩
abbrev kZ(a b:U)(c:List ϊ)(d:R):Prop:=av a b 32 (flat (c.map br)) d
variable{e4:List ϊ}
def vQ(c:∀a∈e4,α a=32):aY 32 (e4.map br):=λa d=>by
 obtain⟨b,h,rfl⟩:=a7G.1 d;show(b.map aj).length=32;simp[c b h]
variable{w j4:ϊ}
def tD(c:∀a∈e4,α a=32)(d:α w=32):∀a∈cX e4 w,α a=32:=by
 unfold cX;split
 .exact c
 .intro a h;rcases a7z.1 h with b|b
  .exact c a b
  .obtain rfl:=a7I.1 b;exact d
def zz(E o:U)(a:List ϊ)(F:R)(h:kZ E o a F)(x:∀d∈a,α d=32)(b:ϊ)(p:α b=32)(v:α a<=1000000000):
  AC γ 36 [F,br b] o λW e=>kZ E e (cX a b) W:=by
 have w:(b.map aj).length=32:=by simp[p]
 have A:aM η 32 (b.map aj)=br b:=by rw[aM,if_pos rfl,Φ δ];rfl
 have G:(br b).cells=b.map aj:=rfl;refine aK hm M8 ?_;refine bs λf g=>?_;have i:=μ (Y:=.cells (b.map aj)) (θ (f:=o)) g;have aE:=ξ o f (.cells (b.map aj));have B:=κ aE;have h:=h.mono i;have L:=bO.dK h δ rfl (vQ x);have j:=L.len;rw[a7w]at j;refine gv [0,3] (λc:Nat=>[(5,.v (.int .i64 (c:Int)))]) (λc=>c<=α a/\b∉a.take c) (λc=>α a - c) 0 ⟨a7N _,ς⟩ aO ?_;rintro c⟨H,y⟩I;refine aa ?_;refine aF (λk=>?_) λk=>?_
 .have z:c<α a:=δ;have l:=eX (a:=a) (b:=[]) z;have P:a[c]?=β (a.getD c []):=by simp[List.getD,z]
  have S:=a7r P;generalize a.getD c []=d at*;have C:=x d S;obtain⟨K,M,m⟩:=L.get c (br d) (by simp[P]);have n:=m.ld _ θ η 32 δ (by show 32<=(d.map aj).length;simp[C]);rw[show aM η 32 (br d).cells=br d by rw[aM,if_pos rfl,Φ (by show(d.map aj).length<=32;simp[C])];rfl]at n;have N:=λq=>uR (I:=ι) (a:=q) C p;refine aa ?_;refine aF (λk=>?_) λk=>?_
  .subst k;exact⟨_,θ,by rw[cX,if_pos S];exact h⟩
  .exact⟨c+1,⟨z,by rw[l,a7z,a7I];exact λD=>D.elim y λD=>k D.symm⟩,rfl,δ⟩
 .obtain rfl:c=α a:=δ;rw[a7K]at y;refine aa ?_;refine eQ (by simp[aY,G,p]) ς λO s=>?_;have t:=h.mono (μ (Y:=.cells (flat [br b])) θ s);have T:(flat (a.map br)).length=α a*32:=by rw[cU (vQ x),a7w]
  have r:(flat [br b]).length=1*32:=by simp[flat,G,p]
  have u:flat (a.map br)++flat [br b]=flat ((a++[b]).map br):=by simp[flat]
  refine aa ?_;refine fj t δ (nF r) r (by rw[T,r];omega) (by rw[T,r];omega) λQ X V=>?_;rw[u]at V;refine aa ?_;rw[cX,if_neg y];exact⟨_,θ,V⟩
structure af.le(a c:af):Prop where
 m:∀d b,a.m d=β b->c.m d=β b
 one:a.one=η->c.one=η
variable{B:af}
theorem af.le_refl:B.le B:=⟨λ_ _ a=>a,λa=>a⟩
theorem af.le.trans{b c:af}(d:B.le b)(h:b.le c):B.le c:=⟨λ_ _ a=>h.m _ _ (d.m _ _ a),λa=>h.one (d.one a)⟩
def af.le.zero{a:af}(c:B.le a)(b:a.one=ι):B.one=false:=by
 cases d:B.one with
 |false=>rfl
 |true=>rw[c.one d]at b;cases b
theorem lQ(b:af)(c:ϊ):b.le (dA b c):=by
 unfold dA;split
 .rename_i a;refine⟨λd h k=>?_,λa=>a⟩;grind
 .split
  .exact⟨λ_ _ a=>a,λ_=>rfl⟩
  .exact af.le_refl
theorem rG(a:(dA B w).one=ι):(dA B w).m (eb w)=β w:=by unfold dA at a|-;grind
variable{e i v M b9 j1:Nat}{b3:bY}
theorem qf(b:fP e b3=β (fr b3))(a:af):dF a e b3=(.ok (fr b3),dA a (cH b3)):=by unfold dF;rw[b]
def fc(c:af):(b:Nat)->a1.T b->Prop
 |0,a=>c.m (bL 0 a).sum=β (cH (dH 0 a))
 |b+1,a=>c.m (bL (b+1) a).sum=β (cH (dH (b+1) a))/\∀d∈a1.kids a,fc c b d
def fc.mono{c d:af}(b:c.le d):∀ {a:Nat}{h:a1.T a},fc c a h->fc d a h
 |0,_,a=>b.m _ _ a
 |_+1,_,a=>⟨b.m _ _ a.1,λk o=>fc.mono b (a.2 k o)⟩
def fc.a3q:∀ {a:Nat}{b:a1.T a},fc B a b->B.m (bL a b).sum=β (cH (dH a b))
 |0,_,a=>a
 |_+1,_,a=>a.1
def Gj{a:a1.T e}:(dH e a).kind=if e=0 then 2 else 3:=by cases e<;>rfl
def tE(c:1<=i)(d:i<=8){a:a1.T e}(h:ds i e a)(k:fc B e a):de B i (bL e a)=β (dH e a):=by have b:=(lJ c d e a h).1;unfold de;rw[k.a3q];simp only;rw[E1 δ b.tn];simp only;rw[b.oQ,tm,if_pos rfl]
theorem rH(b:1<=i)(c:i<=8){a:a1.T e}(d:ds i e a)(h:fc B e a):iU B i (bL e a)=β (dH e a):=by simp_all [iU,tE,Gj]
theorem zA{r:Type}{b:List r->bY}{x:Nat}:∀(gs:List (List r))(c:af)(h:List ao),(∀a∈gs,fP x (b a)=β (fr (b a)))->
  ∃d,dB b x c gs h=(.ok (h++gs.map λa=>fr (b a)),d)/\c.le d/\(d.one=ι->∀a∈gs,d.m (eb (cH (b a)))=β (cH (b a)))
 |[],c,h,_=>⟨c,by simp[dB],af.le_refl,λ_ a z=>by cases z⟩
 |a::gs,c,h,C=>by
  obtain⟨d,E,o,D⟩:=zA gs (dA c (cH (b a))) (h++[fr (b a)]) (λp k=>C p (by simp[k]));refine⟨d,?_,(lQ _ _).trans o,λy p k=>?_⟩;grind[dB,qf]
  .rcases a7J.1 k with rfl|k
   .exact o.m _ _ (rG (o.zero y))
   .exact D y p k
structure Laid(a:af)(h:Nat)(sJ:List (a1.T h))(r:Except Int (List ao)×af):Prop where
 ok:r.1=.ok (sJ.map (bL h))
 le:a.le r.2
 ins:r.2.one=ι->∀c∈sJ,fc r.2 h c
def Gk{a:a1.T e}(b:a1.WF e a)(c:∀d∈a1.bc e a,bQ i d)(h:(a1.bc e a).length<=1048576):ds i e a:=⟨a1.jX.of b,c,h⟩
theorem Gl(o:1<=e)(p:e<=8)(h:af)(a:List Ω)(r:1<=α a)(L:α a<=5)(x:∀c∈a,bQ e c):Laid h 0 ((a1.chunks a).map a1.leaf) (oN h e a):=by
 have k:∀b∈a1.chunks a,1<=α b/\α b<=4/\∀c∈b,c∈a:=by
  by_cases y:α a=5
  .rw[a1.tc y];grind
  .rw[a1.oK r δ];grind
 obtain⟨P,z,C,D⟩:=zA (a1.chunks a) h [] (λb d=>(vt o p (k b d).1 (k b d).2.1 (λc E=>x c ((k b d).2.2 c E))).oQ);unfold oN;rw[z];refine⟨?_,C,λF S G=>?_⟩
 .rw[a7H,a9s];rfl
 .obtain⟨b,d,rfl⟩:=a7G.1 G;exact D F b d
theorem zB(C:1<=i)(D:i<=8)(p:af)(a:List (a1.T e))(f:2<=α a)(g:α a<=5)(E:∀d∈a,a1.WF e d)(j:∀F∈a.flatMap (a1.bc e),bQ i F)(l:(a.flatMap (a1.bc e)).length<=1048576)
  (G:∀o,p.le o->o.one=ι->∀d∈a,fc o e d):Laid p (e+1) ((a1.chunks a).map a1.node) (jZ p i (a.map (bL e))):=by
 have r:∀b∈a1.chunks a,2<=α b/\α b<=4/\(∀d∈b,d∈a)/\(b.flatMap (a1.bc e)).length<=(a.flatMap (a1.bc e)).length:=by
  by_cases x:α a=5
  .rw[a1.tc x];simp only[a7J,a8J,or_false,forall_eq_or_imp,forall_eq,a7q,a7F];have L:a.flatMap (a1.bc e)=(a.take 3).flatMap (a1.bc e)++(a.drop 3).flatMap (a1.bc e):=by rw[<-a8f,a7V]
   grind
  .rw[a1.oK δ δ];grind
 have P:∀b∈a1.chunks a,ds i (e+1) (a1.node b):=λb h=>by
  obtain⟨m,n,d,L⟩:=r b h;refine Gk (a1.hi.2 ⟨by rw[a1.dN];omega,by rw[a1.dN];omega,λc k=>E c (d c k)⟩) (λc k=>?_) (by rw[a1.fU];omega);grind[a1.fU]
 have S:a1.chunks (a.map (bL e))=(a1.chunks a).map (List.map (bL e)):=by by_cases x:α a=5;simp_all [a1.tc];grind[a1.oK,bL]
 obtain⟨o,T,y,V⟩:=zA (b:=ew) ((a1.chunks a).map (List.map (bL e))) p [] (λb h=>by
  obtain⟨c,k,rfl⟩:=a7G.1 h;exact(lJ C D (e+1) (a1.node c) (P c k)).1.oQ)
 unfold jZ;rw[S,T];refine⟨?_,y,λz d W=>?_⟩
 .rw[a7H,a9s,a9s];rfl
 .obtain⟨b,h,rfl⟩:=a7G.1 W;exact⟨V z _ (a7G.2 ⟨b,h,rfl⟩),λc k=>G o y z c ((r b h).2.2.1 c k)⟩
variable{q b7:Ω}
theorem Gm:kJ q b7<0↔bC q b7=true:=by grind[kJ]
theorem zC(b:1<=e)(c:e<=8)(d:bQ e q)(h:bQ e b7):kJ q b7=0↔q=b7:=by
 unfold kJ;constructor
 .intro a;split at a
  .omega
  .rename_i k;split at a
   .omega
   .rename_i o;exact(gi b c).total q b7 d h (by simpa using k) (by simpa using o)
 .rintro rfl;rw[q1];simp
theorem zD{y:Nat}(z:1<=y)(C:y<=8){c:List Ω}{k:Ω}(E:a1.hj bC c)(r:∀d∈c,bQ y d)(D:bQ y k):∀(p h b:Nat),h<=b->b<=α c->b - h<=p->
  (∀a d,c[a]?=β d->a<h->bC d k=η)->(∀a d,c[a]?=β d->b<=a->bC d k=ι)->
  (∀a d,c[a]?=β d->a<mD c k p h b->bC d k=η)/\(∀a d,c[a]?=β d->mD c k p h b<=a->bC d k=ι)/\mD c k p h b<=α c
 |0,h,b,T,G,V,h1,L=>by
  obtain rfl:h=b:=δ;trivial
 |p+1,h,b,T,G,V,h1,L=>by
  rw[mD];by_cases W:h<b
  .rw[if_pos W];have hm:(h+b)/2<α c:=δ;have e:=Ρ hm;rw[e];simp only;have P:=a8M.1 E;have S:=r _ (a7O hm);by_cases o:kJ c[(h+b)/2] k<0
   .rw[if_pos o];have o:=Gm.1 o;refine zD z C E r D p _ _ δ G δ (λa d F f=>?_) L;by_cases he:a=(h+b)/2;simp_all
    .obtain⟨x,rfl⟩:=a7u.1 F;exact(gi z C).trans _ _ _ (r _ (a7O x)) S D (P a _ x hm δ) o
   .rw[if_neg o];have o:bC c[(h+b)/2] k=false:=by simp_all [absurd,Gm]
    refine zD z C E r D p _ _ δ δ δ h1 (λa d F f=>?_);by_cases he:a=(h+b)/2;simp_all
    .obtain⟨x,rfl⟩:=a7u.1 F;cases g:bC c[a] k with
     |false=>rfl
     |true=>have:=(gi z C).trans _ _ _ S (r _ (a7O x)) D (P _ a hm x δ) g;rw[this]at o;cases o
  grind
variable{O:List Ω}
theorem Gn(c:1<=e)(d:e<=8)(h:a1.hj bC O)(k:∀a∈O,bQ e a)(o:bQ e q):
  (∀b a,O[b]?=β a->b<eZ O q->bC a q=η)/\(∀b a,O[b]?=β a->eZ O q<=b->bC a q=ι)/\eZ O q<=α O:=
 zD c d h k o (α O) 0 (α O) δ (a7T _) δ (λb a _ p=>by omega) (λb a r p=>by
  simp_all)
theorem a3r(h:1<=e)(k:e<=8)(o:a1.hj bC O)(p:∀b∈O,bQ e b)(r:bQ e q):O.take (eZ O q)++q::O.drop (eZ O q)=a1.dX bC O q:=by
 obtain⟨D,x,E⟩:=Gn h k o p r;generalize eZ O q=a at*;have y:∀b∈O.take a,bC b q=true:=λb z=>by
  obtain⟨F,G,rfl⟩:=a8a z;grind
 conv=>rhs;rw[<-a7V a O]
 rw[a1.yp y];congr 1;unfold a1.dX;cases C:O.drop a with
 |nil=>rfl
 |cons c d=>
  have:O[a]?=β c:=by have:=congrArg (λd=>d[0]?) C;simpa using this
  have:=x a c this (a7T _);simp[this]
theorem zE(d:1<=e)(h:e<=8)(k:a1.hj bC O)(r:∀x∈O,bQ e x)(c:bQ e q):kL O q=decide (q∈O):=by
 obtain⟨F,y,G⟩:=Gn d h k r c;unfold kL;by_cases o:q∈O
 .obtain⟨a,hm,z⟩:=a8a o;have C:O[a]?=β q:=by simp_all
  have D:=a8M.1 k;have E:a=eZ O q:=by
   rcases aaJ a (eZ O q)with b|b|b;grind[q1]
   .exact b
   .have p:=D (eZ O q) a δ hm b;rw[z]at p;have:=y (eZ O q) _ (Ρ δ) (a7T _);rw[p]at this;cases this
  rw[<-E,C,decide_eq_true o];simp only;rw[decide_eq_true];exact(zC d h c c).2 rfl
 grind[decide_eq_false,eZ,List.mem_of_getElem?,zC]
theorem a3s(d:1<=e)(h:e<=8)(p:a1.hj bC O)(k:∀b∈O,bQ e b)(o:bQ e q)(r:q∈O):O.take (eZ O q)++O.drop (eZ O q+1)=O.filter λb=>decide (b≠q):=by
 have a:=zE d h p k o;rw[decide_eq_true r]at a;unfold kL at a;generalize eZ O q=x at*;cases c:O[x]? with
 |none=>rw[c]at a;cases a
 |some b=>rw[c]at a;simp only[decide_eq_true_eq]at a;obtain rfl:=(zC d h (k b (a7r c)) o).1 a;have y:=a1.rl c;grind[List.pairwise_cons,List.filter_cons_of_neg,a1.filter_none,q1]
def ki:B.le (dF B e b3).2:=by
 unfold dF;split
 .exact af.le_refl
 .exact lQ _ _
def zF{h:Type}{c:List h->bY}{d:Nat}:∀(gs:List (List h))(a:af)(b:List ao),a.le (dB c d a gs b).2
 |[],a,b=>af.le_refl
 |k::gs,a,b=>by
  have o:=ki (B:=a) (e:=d) (b3:=c k);rw[dB];generalize dF a d (c k)=p at*;obtain⟨r,x⟩:=p;cases r with
  |error z=>exact o
  |ok y=>exact o.trans (zF gs x (b++[y]))
def Gp:B.le (oN B e O).2:=zF _ _ _
def zG{a:List ao}:B.le (jZ B e a).2:=zF _ _ _
def Gq{c:Nat}{b:Ω}:∀(d:Nat)(a:af)(h:ao),a.le (gB c b d a h).2
 |0,a,h=>af.le_refl
 |d+1,a,h=>by
  rw[gB];cases iU a c h with
  |none=>exact af.le_refl
  |some k=>
   simp only;by_cases o:k.kind=2
   .rw[if_pos o];by_cases p:kL (k.rows.map Γ) b=η
    .rw[if_pos p];exact af.le_refl
    .rw[if_neg p];exact Gp
   .rw[if_neg o];cases k.kids[hN b k]? with
    |none=>exact af.le_refl
    |some r=>
     have x:=Gq (c:=c) (b:=b) d a r;simp only;generalize gB c b d a r=y at*;obtain⟨z,C⟩:=y;cases z with
     |error D=>exact x
     |ok E=>exact x.trans zG
def Gr{d:Nat}:∀(h:Nat)(a:af)(b:List ao),a.le (hn d h a b).2
 |0,a,b=>af.le_refl
 |h+1,a,b=>by
  rw[hn];by_cases c:1<α b
  .rw[if_pos c];have c:=zG (B:=a) (e:=d) (a:=b);generalize jZ a d b=k at*;obtain⟨o,p⟩:=k;cases o with
   |error x=>exact c
   |ok r=>exact c.trans (Gr h p r)
  .rw[if_neg c];exact af.le_refl
variable{A j2:ao}
def Gs:B.le (lG e q B A).2:=by
 unfold lG;split
 .exact ki
 .have a:=Gq (c:=e) (b:=q) (A.size.toNat+1) B A;generalize gB e q (A.size.toNat+1) B A=b at*;obtain⟨c,d⟩:=b;cases c with
  |error h=>exact a
  |ok k=>exact a.trans (Gr _ _ _)
variable{I:Bool}
theorem Gt{a:List ao}:B.le (mC B e I O a).2:=by unfold mC;split<;>exact ki
theorem join_le{a b:iu}:B.le (kM B e a b).2:=by
 unfold kM;split
 .exact Gp
 .exact zG
theorem a3t{c:List ao}{a:iu}:B.le (kc B e c i a).2:=by
 unfold kc;by_cases b:2<=α a.rows+α a.kids
 .rw[if_pos b];grind[Gt,mC]
 .rw[if_neg b];grind[af.le_refl,iU,join_le,ho,kM]
def Gu{d:Nat}{b:Ω}:∀(k:Nat)(c:af)(o:ao),c.le (iv d b k c o).2
 |0,c,o=>af.le_refl
 |k+1,c,o=>by
  rw[iv];cases iU c d o with
  |none=>exact af.le_refl
  |some a=>
   simp only;by_cases h:a.kind=2
   .rw[if_pos h];by_cases y:kL (a.rows.map Γ) b=η
    .rw[if_pos y];exact af.le_refl
    .rw[if_neg y];exact af.le_refl
   .rw[if_neg h];cases a.kids[hN b a]? with
    |none=>exact af.le_refl
    |some z=>
     have p:=Gu (d:=d) (b:=b) k c z;simp only;generalize iv d b k c z=r at*;obtain⟨x,C⟩:=r;cases x with
     |error E=>exact p
     |ok D=>
      have h:=a3t (B:=C) (e:=d) (c:=a.kids) (i:=hN b a) (a:=D);simp only;generalize kc C d a.kids (hN b a) D=r at*;obtain⟨x,F⟩:=r;cases x with
      |error E=>exact p.trans h
      |ok G=>exact p.trans h
theorem Gv:B.le (lH e q B A).2:=by
 unfold lH;split
 .exact af.le_refl
 .have a:=Gu (d:=e) (b:=q) (A.size.toNat+1) B A;generalize iv e q (A.size.toNat+1) B A=b at*;obtain⟨c,d⟩:=b;cases c with
  |error h=>exact a
  |ok k=>
   simp only;split
   .exact a
   .split
    .exact a
    .exact a.trans Gt
end Go.Proofs.YtcfpcblgmmeioaaGreat
namespace Go.bD
open Go
variable{f s e0:U}{u:bn}{l h9:World}
theorem Step.a3u{p:bn}(b:Step u f l p s h9)(r:∀a,f a=ζ\/∃c,f a=β (.ro c)):∃x k,h9=Sort.grow (l.drewN x) k:=by
 have d:∀a,a<l.heap.size->h9.heap[a]?=l.heap[a]? :=λa d=>by
  rcases r a with h|⟨c,h⟩
  .exact b.block a d h
  .exact(b.jL a c d h).1
 have y:=b.os;have z:=b.tape;have o:=b.output;have C:=b.size;refine⟨h9.drawn - l.drawn,h9.heap.extract l.heap.size h9.heap.size,?_⟩;obtain⟨D,E,F,k,G⟩:=l;obtain⟨L,P,S,T,V⟩:=h9;simp only at*;obtain⟨rfl,o⟩:=o;subst y;subst z;simp only[Sort.grow,World.drewN,World.mk.injEq,true_and,and_true];grind
theorem Step.grown(d:Holds u f l)(o:Nat)(os:Array Obj):Step u f l u f (Sort.grow (l.drewN o) os):=by
 have c:∀a,a<l.heap.size->(Sort.grow (l.drewN o) os).heap[a]?=l.heap[a]? :=λa c=>by
  show(l.heap++os)[a]?= _;grind
 exact {holds:=⟨λa h v p=>by rw[<-d.ro a h v p];exact World.cell?_of_block (c a (d.lt p)),λk h r=>(d.cT k h r).kept (.refl u) (c k (d.cT k h r).lt) (λ_ x=>x)⟩,le:=.refl u,os:=rfl,tape:=rfl,output:=⟨rfl,Nat.le_add_right _ _⟩,size:=ς,block:=λa b _=>c a b,ek:=λ_ b=>.inl b,mP:=λ_ _ b=>.inl b,jL:=λa y b z=>⟨c a b,.inr ⟨y,z⟩⟩}
variable{b0:Type}
theorem a3v[Inhabited b0](h:b0->Value)(b:World)(a:Nat)(c:Array b0)(d:Array Value)(k:TypeId)(o:Nat×Nat)(p:b.heap[a]?=β (.cells d k o))(x:c.size<=d.size):
  Sort.putRow h b a 0 c=b.setRow a (df d 0 (c.toList.map h)):=by
 unfold Sort.putRow Sort.mapBlock World.setRow;congr 1;apply Array.ext_getElem?;intro r;simp only[Array.getElem?_modify];by_cases hk:a=r
 .subst hk;simp only[if_true,p,a8u,Sort.onCells];congr 2;apply abk;apply aaL;intro y;simp only[Sort.putCells,df,a8X,Array.getElem?_mapIdx,a9m,a7H,a7Q,a7w,aaz];grind
 .simp[hk]
variable{g H c0:ύ}{e i v M b9 j1:Nat}{m:Program}
theorem a3w{k6:Shelf.Ren}(n5:Proofs.SlLaysF.n6 m k6)(S:b0->R->Prop)(n9:∀a d,S a d->d.one=η/\d.cells=[d]){C:List b0}
  (Y:f e=β (.cells g)) (a69:α H=α C) (a00:∀(b:Nat) a d,C[b]?=β a->H[b]?=β d->S a d) (a01:α C=i) (k7:g.take i=H) (a71:i<4611686018427387904)
  (V:FuncId) (I:ύ) (k8:s.sub f) (k9:∀c,s c=ζ\/∃Z,s c=β (.ro Z)) (x:b0->Prop) (a02:∀j∈C,x j) (a03:0<i)
  (y:b0->b0->Int) (a73:∀a,x a->¬y a a<0) (a74:∀a h D,x a->x h->x D->y a h<0->y h D<0->y a D<0) (a81:∀a h D,x a->x h->x D->¬y a h<0->¬y h D<0->¬y a D<0)
  (a04:∀l0 p,(callFunc V l0).run m p=.ok (.enter V l0) p)
  (a05:∀a h d c,S a d->S h c->x a->x h->AC m V ([d,c]++I) s λj _=>j=.v (.int .i64 (y a h))):
  AC m (k6.f 6) [.aq e i M 1,.bG V [] I] f λj l1=>j=.aJ []/\∃o j9,j9.Perm C/\α o=i/\(∀(b:Nat) a d,j9[b]?=β a->o[b]?=β d->S a d)/\List.Pairwise (λd c=>¬y c d<0) j9/\l1=f.set e (.cells (o++g.drop i)):=by
 intro K p z k0 w;have l2:=k0.2 0 _ rfl;have l3:=k0.2 1 _ rfl;have a06:K.size=2:=k0.1;generalize a07:K.getD 0 undef=a83 at l2;generalize a08:K.getD 1 undef=a84 at l3;cases l2 with
 |aq e i M a86 a88 a89=>
 cases l3 with
 |bG a90 ws iz cL a92 hw a94 a09 a10=>
 obtain rfl:ws=#[]:=aaw hw;have al:K=#[.slice (β ⟨e,0,ζ⟩) i M,.func (.func V) #[] iz]:=by
  apply Array.ext
  .exact a06
  .intro b G L
   match b,G with
   |0,G=>rw[<-a07];simp_all
   |1,G=>rw[<-a08];simp_all
   |b+2,G=>omega
 rw[al];obtain⟨a95,l,T,k1,l4,a11⟩:=w.cT e _ Y;have a96:i<=α g:=by grind
 have a97:=l4.1
 let W:= {P:Value×b0//(∃d,S P.2 d/\aZ z P.1 d)/\x P.2};have l5:∀b (n:b<i),∃a:W,a.1.1=l[b]'δ/\a.1.2=C[b]'δ:=λb n=>by
  have G:g[b]?=β (H[b]'δ):=by grind
  have L:=l4.2 b _ G;have A:l.getD b undef=l[b]'δ:=by simp[show b<l.size by omega]
  rw[A]at L;exact⟨⟨(l[b]'δ,C[b]'δ),⟨_,a00 b _ _ (Ρ _) (Ρ _),L⟩,a02 _ (a7O _)⟩,rfl,rfl⟩
 haveI:Inhabited W:=⟨(l5 0 a03).choose⟩
 obtain⟨E,l6,a98⟩:∃E:Array W,E.size=i/\∀b (n:b<i) (a13),E[b].1.1=l[b]'δ/\E[b].1.2=C[b]'δ:=
  ⟨Array.ofFn λb=>(l5 b b.2).choose,ς,λb n a13=>by grind[Array.getElem_ofFn]⟩
 let k:W->Value:=λa=>a.1.1;have G:Proofs.OneCell k:=λa=>by
  obtain⟨⟨d,L,A⟩,_⟩:=a.2;exact A.o3 (n9 _ _ L).1
 have a14:Sort.Holds k p e 0 E:=λr k2=>by
  have a99:r<i:=δ;rw[getElem!_pos E r k2];constructor
  .simp only[World.cell?,k1,a7Q,a9a,a8o,if_false];grind
  .simp[World.frozen?,k1]
 have a15:=(a8D.1 k1).1
 let k3:W->W->Int:=λa h=>y a.1.2 h.1.2;have a16:Proofs.CmpLays1 m V iz k k3 e 0 E.size p:=λl7 q l8 b00 a h=>by
  have l9:∀c,c<p.heap.size->c≠e->(Proofs.sortWorld k p e 0 l7 l8 q).heap[c]?=p.heap[c]? :=λc N O=>by
   show(((p.heap.modify e _)++q)[c]?)= _;grind
  have a18:Holds z s (Proofs.sortWorld k p e 0 l7 l8 q):=⟨λc k4 v t=>by
   have O:c≠e:=by rintro rfl;rw[a11]at t;cases t
   rw[<-w.ro c k4 v t];exact World.cell?_of_block (l9 c (w.lt t) O),λc k4 N=>by
   have O:c≠e:=by
    rintro rfl;rcases k9 c with B|⟨Z,B⟩
    .rw[B]at N;cases N
    .have:=k8 _ _ B;rw[Y]at this;cases this
   have L:=w.cT c k4 (k8 _ _ N);exact L.kept (.refl z) (l9 c L.lt O) λ_ n=>n⟩
  obtain⟨⟨d,aK,a19⟩,a27⟩:=a.2;obtain⟨⟨c,a29,a30⟩,a34⟩:=h.2;have a36:bx z (#[k a,k h]++iz) ([d,c]++I):=⟨by simp[a09];omega,λr Q u=>by
   match r,u with
   |0,u=>obtain rfl:=Δ u;rw[show(#[k a,k h]++iz).getD 0 undef=k a by rw[a8k,aa7 ς];rfl];exact a19
   |1,u=>obtain rfl:=Δ u;rw[show(#[k a,k h]++iz).getD 1 undef=k h by rw[a8k,aa7 ς];rfl];exact a30
   |r+2,u=>
    have A:I[r]?=β Q:=by trivial
    have k2:r<iz.size:=by grind
    have b01:=a10 r Q A;simp_all [a8k,Array.getElem?_append_right]⟩
  refine(a05 _ _ d c aK a29 a27 a34 _ _ z a36 a18).mono ?_;rintro a38 a42⟨v,j,b02,l1,rfl,X,t,rfl⟩;refine⟨by rw[t.dD],X.a3u k9⟩
 have a43:Sort.SWO (Proofs.ltOf k3):=⟨λa=>by simp only[Proofs.ltOf];grind,λa h D=>by simp only[Proofs.ltOf,decide_eq_true_eq];grind,λa h D=>by grind[Proofs.ltOf,decide_eq_false_iff_not]⟩;have n0:=Proofs.Any.slices_SortFunc n5 k G k3 a43 V iz e 0 M E p a04 a16 a14 a15 δ;rw[l6]at n0;refine n0.mono ?_;rintro a38 a42⟨rfl,F,P,q,⟨b03,_,n1⟩,a47,rfl⟩;have n2:F.size=i:=δ;rw[aaD δ,aaD δ]at n1
 let o:ύ:=F.toList.map λa=>a.2.1.choose;have b04:∀a:W,S a.1.2 a.2.1.choose/\aZ z a.1.1 a.2.1.choose:=λa=>a.2.1.choose_spec;have a48:bx z (F.toList.map k).toArray o:=bx.dZ.2 ⟨by simp[o],λr b05 Q n3 a52=>by
  simp only[a7R,o]at n3 a52;cases k5:F.toList[r]? with
  |none=>simp[k5]at n3
  |some a=>grind⟩
 obtain⟨a56,b06,b07,b08,X⟩:=Step.store w Y 0 o _ a48 (λZ k7=>by
  obtain⟨a,_,rfl⟩:=a7G.1 k7;grind) (by simp[o];omega)
 have a57:Sort.putRow k (Sort.ahead p P) e 0 F=Sort.ahead (p.setRow e (df a56 0 (F.toList.map k))) P:=by grind[Sort.putRow_ahead,a3v]
 have a61:=X.trans (Step.grown X.holds P q);refine⟨_,.aJ [],z,f.set e (.cells (o++g.drop i)),rfl,?_,.aJ #[] [] rfl (λr Q B=>by simp at B),rfl,o,F.toList.map (λa=>a.1.2),?_,by simp[o,n2],?_,?_,rfl⟩
 .have a62:putAt g 0 o=o++g.drop i:=by simp[putAt,o,n2]
  rw[<-a62];show Step z f p z _ (Sort.grow (Sort.putRow k (Sort.ahead p P) e 0 F) q);rw[a57];exact a61
 .have a63:C=E.toList.map (λa=>a.1.2):=by
   apply aaT
   .simp[a01,l6]
   simp_all
  rw[a63];exact n1.map _
 .intro b a d n4 a65;simp only[a7R,o]at n4 a65;cases k5:F.toList[b]? with
  |none=>simp[k5]at n4
  |some h=>grind
 .rw[a9N,a8M];intro b r n k2 a68;have:=a47 b r (a7N _) a68 (by simp_all);grind[Array.length_toList,Proofs.ltOf]
end Go.bD
namespace Go.Proofs
open Go.Shelf
def Tryz.a3x:Go.Shelf.Ren:=⟨λ|6=>46|15=>91|14=>90|28=>151|29=>152|20=>143|21=>144|22=>145|23=>146|24=>147|25=>148|26=>149|27=>150|46=>197|47=>198|48=>199|49=>200|50=>201|57=>251|a=>a,λ|22=>52|24=>44|25=>114|3=>3|39=>165|0=>0|53=>222|55=>224|4=>4|46=>215|45=>214|50=>219|5=>5|9=>9|66=>280|70=>284|76=>340|77=>341|a=>a,λ|a=>a⟩
def Tryz.a3y:Go.Proofs.SlLaysF.n6 γ Tryz.a3x:= {
 mixed:=Χ
 f6:=⟨Tryz.f46.name,Θ,Tryz.func46.trans (congrArg β Χ)⟩
 f14:=⟨Tryz.f90.name,Θ,Tryz.func90.trans (congrArg β Χ)⟩
 f15:=Tryz.func91.trans (congrArg β Χ)
 f20:=⟨Tryz.f143.name,Θ,Tryz.func143.trans (congrArg β Χ)⟩
 f21:=⟨Tryz.f144.name,Θ,Tryz.func144.trans (congrArg β Χ)⟩
 f22:=⟨Tryz.f145.name,Θ,Tryz.func145.trans (congrArg β Χ)⟩
 f23:=⟨Tryz.f146.name,Θ,Tryz.func146.trans (congrArg β Χ)⟩
 f24:=⟨Tryz.f147.name,Θ,Tryz.func147.trans (congrArg β Χ)⟩
 f25:=⟨Tryz.f148.name,Θ,Tryz.func148.trans (congrArg β Χ)⟩
 f26:=⟨Tryz.f149.name,Θ,Tryz.func149.trans (congrArg β Χ)⟩
 f27:=⟨Tryz.f150.name,Θ,Tryz.func150.trans (congrArg β Χ)⟩
 f28:=Tryz.func151.trans (congrArg β Χ)
 f29:=Tryz.func152.trans (congrArg β Χ)
 f46:=⟨Tryz.f197.name,Θ,Tryz.func197.trans (congrArg β Χ)⟩
 f47:=Tryz.func198.trans (congrArg β Χ)
 f48:=Tryz.func199.trans (congrArg β Χ)
 f49:=⟨Tryz.f200.name,Θ,Tryz.func200.trans (congrArg β Χ)⟩
 f50:=⟨Tryz.f201.name,Θ,Tryz.func201.trans (congrArg β Χ)⟩
 f57:=⟨Tryz.f251.name,Θ,Tryz.func251.trans (congrArg β Χ)⟩
 t0:=Tryz.underlying0
 a0:=Tryz.isAgg0
 z0:=Tryz.sizeOf0
 v0:=Tryz.zeroValue0
 t3:=Tryz.underlying3
 a3:=Tryz.isAgg3
 z3:=Tryz.sizeOf3
 v3:=Tryz.zeroValue3
 t4:=Tryz.underlying4
 a4:=Tryz.isAgg4
 z4:=Tryz.sizeOf4
 v4:=Tryz.zeroValue4
 t5:=Tryz.underlying5
 a5:=Tryz.isAgg5
 z5:=Tryz.sizeOf5
 v5:=Tryz.zeroValue5
 t9:=Tryz.underlying9
 a9:=Tryz.isAgg9
 z9:=Tryz.sizeOf9
 v9:=Tryz.zeroValue9
 t22:=Tryz.underlying52
 a22:=Tryz.isAgg52
 z22:=Tryz.sizeOf52
 v22:=Tryz.zeroValue52
 a24:=Tryz.isAgg44
 z24:=Tryz.sizeOf44
 t25:=Tryz.underlying114
 a25:=Tryz.isAgg114
 z25:=Tryz.sizeOf114
 v25:=Tryz.zeroValue114
 t39:=Tryz.underlying165
 a39:=Tryz.isAgg165
 z39:=Tryz.sizeOf165
 v39:=Tryz.zeroValue165
 t45:=Tryz.underlying214
 a45:=Tryz.isAgg214
 z45:=Tryz.sizeOf214
 v45:=Tryz.zeroValue214
 t46:=Tryz.underlying215
 a46:=Tryz.isAgg215
 z46:=Tryz.sizeOf215
 v46:=Tryz.zeroValue215
 t50:=Tryz.underlying219
 a50:=Tryz.isAgg219
 z50:=Tryz.sizeOf219
 v50:=Tryz.zeroValue219
 t53:=Tryz.underlying222
 a53:=Tryz.isAgg222
 z53:=Tryz.sizeOf222
 v53:=Tryz.zeroValue222
 t55:=Tryz.underlying224
 a55:=Tryz.isAgg224
 z55:=Tryz.sizeOf224
 v55:=Tryz.zeroValue224
 t66:=Tryz.underlying280
 a66:=Tryz.isAgg280
 z66:=Tryz.sizeOf280
 v66:=Tryz.zeroValue280
 t70:=Tryz.underlying284
 a70:=Tryz.isAgg284
 z70:=Tryz.sizeOf284
 v70:=Tryz.zeroValue284
 t76:=Tryz.underlying340
 a76:=Tryz.isAgg340
 z76:=Tryz.sizeOf340
 v76:=Tryz.zeroValue340
 t77:=Tryz.underlying341
 a77:=Tryz.isAgg341
 z77:=Tryz.sizeOf341
 v77:=Tryz.zeroValue341}
end Go.Proofs
namespace Go.Proofs.YtcfpcblgmmeioaaGreat
open Go Go.bD
variable{b1:Int}
theorem Gw{a:Int}:ix b1 a<0↔b1<a:=by unfold ix;omega
theorem Gx{a:Int}:ix b1 a=0↔b1=a:=by unfold ix;omega
def lR:Ω->Ω->Prop
 |a::c,b::d=>a<b\/a=b/\lR c d
 |_,_=>False
theorem Gy:∀ {b c:Ω},α b=α c->(hP b c<0↔lR b c)
 |[],[],_=>by simp[hP,lR]
 |d::b,h::c,a=>by
  have ih:=Gy (by simpa using a);grind[hP,lR,Gx,Gw]
 |[],_:: _,a=>by simp at a
 |_:: _,[],a=>by simp at a
def Gz:∀ {b:Ω},¬lR b b
 |[],a=>a
 |c::b,a=>a.elim δ λa=>Gz a.2
def GA:∀ {c d h:Ω},lR c d->lR d h->lR c h
 |k::c,o::d,p::h,a,b=>by
  rcases a with a|⟨rfl,a⟩<;>rcases b with b|⟨rfl,b⟩
  .exact .inl δ
  .exact .inl a
  .exact .inl b
  .exact .inr ⟨rfl,GA a b⟩
theorem GB:∀ {a b:Ω},α a=α b->lR a b\/a=b\/lR b a
 |[],[],_=>.inr (.inl rfl)
 |k::a,o::b,c=>by
  rcases Int.lt_trichotomy k o with d|rfl|d
  .exact .inl (.inl d)
  .rcases GB (by simpa using c)with h|rfl|h
   .exact .inl (.inr ⟨rfl,h⟩)
   .simp
   .exact .inr (.inr (.inr ⟨rfl,h⟩))
  .exact .inr (.inr (.inl d))
 |[],_:: _,c=>by simp at c
 |_:: _,[],c=>by simp at c
def zH(a:Nat)(b c:Ω):Prop:=b.getD a 0<c.getD a 0\/b.getD a 0=c.getD a 0/\lR b c
variable{q b7:Ω}{e i v M b9 j1:Nat}
theorem vR(a:α q=α b7):cI e q b7<0↔zH e q b7:=by grind[cI,zH,Gx,Gy,Gw]
structure p3(d:Nat)(a:Ω->Ω->Int):Prop where
 jY:∀x,α x=d->¬a x x<0
 tF:∀x y z,α x=d->α y=d->α z=d->a x y<0->a y z<0->a x z<0
 tG:∀x y,α x=d->α y=d->a x y<0\/x=y\/a y x<0
def p3.zI{a:Ω->Ω->Int}(c:p3 e a)(b:α q=e)(d:α b7=e)(h:a q b7<0):¬a b7 q<0:=λk=>c.jY q b (c.tF q b7 q b d b h k)
def p3.GC{c:Ω->Ω->Int}(h:p3 e c):∀a b d,α a=e->α b=e->α d=e->¬c a b<0->¬c b d<0->¬c a d<0:=λa b d k o r z x y=>by
 rcases h.tG a b k o with p|rfl|p
 .omega
 .omega
 .exact x (h.tF _ _ _ o k r p y)
theorem qg(k o:Nat):p3 k (cI o) where
 jY d h a:=by
  rw[vR rfl]at a;rcases a with a|a
  .omega
  .exact Gz a.2
 tF d p z h r C b c:=by
  rw[vR δ]at*;rcases b with b|⟨b,x⟩<;>rcases c with c|⟨c,y⟩
  .exact .inl δ
  .exact .inl δ
  .exact .inl δ
  .exact .inr ⟨δ,GA x y⟩
 tG d p h r:=by rw[vR δ,vR δ];grind[zH,Int.lt_trichotomy,GB]
theorem zJ{z:Nat}{o:Ω->Ω->Int}(C:p3 z o):∀ {c a:List Ω},(∀b∈c,α b=z)->a.Perm c->c.Pairwise (λp r=>¬o r p<0)->a.Pairwise (λp r=>¬o r p<0)->a=c
 |[],a,_,d,_,_=>d.eq_nil
 |b::c,a,x,d,h1,E=>by
  cases a with
  |nil=>simp_all
  |cons h a=>
   obtain⟨T,F⟩:=a7X.1 h1;obtain⟨V,G⟩:=a7X.1 E;have D:h∈b::c:=d.mem_iff.1 ς;have L:b∈h::a:=d.mem_iff.2 ς;have k:h=b:=by
    rcases a7J.1 D with k|W
    .exact k
    rcases a7J.1 L with k|e
    .exact k.symm
    rcases C.tG h b (x h D) (x b ς)with y|y|y
    .grind
    .exact y
    .grind
   subst k;rw[zJ C (λP S=>x P (by simp[S])) (List.Perm.cons_inv d) F G]
theorem a3z(c:Nat)(a:Ω)(b:List Ω):(fa c a b).Perm (a::b):=by grind[List.takeWhile_append_dropWhile,decide,cI,fa,List.perm_middle]
def GD{p c:Nat}{d:Ω}(r:α d=p):∀ {h:List Ω},(∀b∈h,α b=p)->h.Pairwise (λx y=>¬cI c y x<0)->(fa c d h).Pairwise (λx y=>¬cI c y x<0)
 |[],_,_=>by simp[fa]
 |b::h,z,D=>by
  obtain⟨E,L⟩:=a7X.1 D;have F:=qg p c;have G:=z b ς;by_cases o:cI c b d<0
  .have C:fa c d (b::h)=b::fa c d h:=by simp[fa,o]
   rw[C];refine a7X.2 ⟨λk a=>?_,GD r (λk a=>z k (by simp[a])) L⟩;rcases yQ.1 a with rfl|a
   .exact F.zI G r o
   .exact E k a
  .have C:fa c d (b::h)=d::b::h:=by simp[fa,o]
   rw[C];refine a7X.2 ⟨λk a=>?_,D⟩;rcases a7J.1 a with rfl|a
   .exact o
   .exact F.GC k b d (z k (by simp[a])) G r (E k a) o
theorem GF{o d:Nat}:∀(h a:List Ω),(∀b∈h,α b=o)->(∀b∈a,α b=o)->a.Pairwise (λp r=>¬cI d r p<0)->(h.foldl (λx c=>fa d c x) a).Perm (a++h)/\(h.foldl (λx c=>fa d c x) a).Pairwise (λp r=>¬cI d r p<0)
 |[],a,_,_,y=>by simpa using y
 |c::h,a,h1,z,y=>by
  have C:=h1 c ς;have D:∀b∈fa d c a,α b=o:=λb k=>by
   rcases yQ.1 k with rfl|k
   .exact C
   .exact z b k
  obtain⟨E,F⟩:=GF h (fa d c a) (λb k=>h1 b (by simp[k])) D (GD C z y);grind[a3z,trans]
variable{O:List Ω}
def tH(a:∀b∈O,α b=i):(ei e O).Perm O/\(ei e O).Pairwise (λc d=>¬cI e d c<0):=by simpa[ei] using GF O [] a ς .nil
variable{n b5:R}
def a3A(a:isRow q n):n.one=η/\n.cells=[n]:=by obtain⟨b,rfl⟩:=a;trivial
theorem aB.of{k:Type}{o:k->R->Prop}:∀ {b:List k}{aV:ύ},α aV=α b->(∀(c:Nat) d h,b[c]?=β d->aV[c]?=β h->o d h)->aB o b aV
 |[],[],_,_=>trivial
 |d::b,r::aV,a,p=>⟨p 0 d r rfl rfl,aB.of (by simpa using a) λc x h y z=>p (c+1) x h y z⟩
 |[],_:: _,a,_=>by simp at a
 |_:: _,[],a,_=>by simp at a
variable{b4:FuncId}{m:Program}
def a3B(a:fA m b4=η):∀b c,(callFunc b4 b).run m c=.ok (.enter b4 b) c:=by
 unfold fA at a;split at a
 .rename_i k d;rw[Υ]at a;obtain⟨o,h⟩:=a7Y.1 a.1;exact enters_of d (by simpa using a.2) h
 .cases a
variable{f s e0:U}{g H c0:ύ}
theorem a3C{k:Ω->Ω->Int}(o:p3 i k){x:List Ω}(W:f v=β (.cells g))(F:aB isRow O H)(G:α O=e)(j:g.take e=H)(y:e<=4000000)(l:0<e)(L:∀a∈O,α a=i)
  (P:x.Perm O) (m:x.Pairwise (λz c=>¬k c z<0)) (p:FuncId) (C:ύ) (n:s.sub f) (q:∀c,s c=ζ\/∃t,s c=β (.ro t)) (u:fA γ p=η)
  (w:∀b d D E,α b=i->α d=i->AC γ p ([.J (ad b) D,.J (ad d) E]++C) s λa _=>a=.v (.int .i64 (k b d))):
  AC γ 46 [.aq v e M 1,.bG p [] C] f λa S=>a=.aJ []/\∃r,aB isRow x r/\S=f.set v (.cells (r++g.drop e)):=by
 refine(a3w (m:=γ) Tryz.a3y isRow (λ_ _=>a3A) W F.len (λY b z h T=>?_) G j δ p C n q (λa=>α a=i) L l k o.jY o.tF o.GC (a3B u) λb d z c T y h A=>?_).mono λa S B=>?_
 .obtain⟨c,y,Z⟩:=F.get h;simp_all
 .obtain⟨D,rfl⟩:=T;obtain⟨E,rfl⟩:=y;exact w b d D E h A
 .obtain⟨I,r,j9,V,K,N,Q,X⟩:=B;have:=zJ o (λb h=>L b (P.mem_iff.1 h)) (V.trans P.symm) m Q;subst this;exact⟨I,r,aB.of (by rw[K,V.length_eq,G]) N,X⟩
def gf(a:af)(b:Nat):Nat->ao->Option (List Ω)
 |0,_=>ζ
 |c+1,d=>if d.live=0 then β []else match kW a b d with
  |none=>ζ
  |some (h,bF)=>match gf a b c (bF.getD 0 az),gf a b c (bF.getD 1 az)with
   |some k,β o=>β ((if h.2=η then [h.1]else [])++k++o)
   |_,_=>ζ
variable{A j2:ao}{B:af}
def vS{d:Ω×Bool}{o:List ao}(a:kW B e A=β (d,o)):∃b c,o=[b,c]/\de B e A=β (ck d b c)/\A.size=1+b.size+c.size/\0<=b.size/\0<=c.size/\α d.1=e/\A.size<=1048576:=by
 unfold kW at a;split at a
 .cases a
 rename_i y h;split at a
 .rename_i p;simp only[a7y,a8x]at a;obtain⟨rfl,rfl⟩:=a;have k:=G1 h;obtain⟨z,C,E⟩:=G2 k p;have r:=rj h;obtain⟨F,rows,kids⟩:=y
  dsimp only at*
  obtain⟨d,rfl⟩:=a9q.1 z
  match kids,C with
  |[b,c],_=>have D:=r.size;have x:=tA k;subst p;simp only[a8Q,a7C,a8K,a8E,aah]at D;refine⟨b,c,rfl,h,δ,(kX (x b ς)).1,(kX (x c ς)).1,(kG k).1 _ ς,r.nv⟩
 .cases a
theorem tI{k:af}{d:Nat}:∀ {h:Nat}{c:ao}{b:List Ω},gf k d h c=β b->(α b:Int)<=max 0 c.size/\∀o∈b,α o=d
 |0,_,_,a=>by cases a
 |h+1,c,b,a=>by
  rw[gf]at a;split at a;grind;split at a
  .cases a
  rename_i y z p;split at a
  .rename_i C D r x;obtain rfl:=Δ a;obtain⟨E,F,rfl,_,G,L,P,S,_⟩:=vS p;have T:=tI r;have V:=tI x;grind
  .cases a
theorem GG(L A:Nat)(h:af)(c:Nat)(k0:1<=c)(k1:c<=8):∀(d:Nat)(z:U)(_:bq z L A h)(p:ao)(P S T:Own),α p.sum=32->p.cC->p.size.toNat<d->
  AC γ 231 [dO L c,.agg (ab p P S T)] z λi C=>z.sub C/\match gf h c d p with
   |none=>i=.aJ [.J [] .nil,.v (.int .i64 21)]
   |some rows=>∃k r,i=.aJ [r,.v (.int .i64 0)]/\av z C 1 k r/\aB isRow rows k
 |0,_,_,_,_,_,_,_,_,F=>by omega
 |d+1,z,k2,p,P,S,T,fk,n0,a29=>by
  have a30:=(aP (N:=P) (e6:=S) (h6:=T) fk).all;refine aK hm RS ?_;refine bs λj a34=>?_;refine dd λk3 a36 a38 a42=>?_;generalize l:(z.set j _).set k3 _=m;have D:z.sub m:=by subst l;exact aO
  have c2:m j=β (.cells [.ptr L 0,.v (.int .i64 (c))]):=by subst l;exact aO
  have aE:m k3=β (.cells (ab p P S T)):=by subst l;exact aO
  clear l;rw[gf];have a43:=κ c2;have a47:=κ aE;refine aF (λn=>?_) λn=>?_
  .exact⟨_,θ,D,[],.J [] .nil,rfl,av.nil D,trivial⟩
  rw[if_neg n];refine ah (zt m L A h (k2.mono D) p P S T fk n0 c k0 k1) ?_;rintro i k4⟨G,q⟩;cases B:kW h c p with
  |none=>rw[B]at q;obtain rfl:=q;refine aa ?_;refine aN λs V=>?_;refine aa ?_;exact μ (π D G) (Ο (π D G) V)
  |some n1=>
   obtain⟨b,a48⟩:=n1;rw[B]at q;obtain⟨x,n2,rfl,a52,a56,k5,H⟩:=q;obtain⟨o,cj,rfl,a57,a61,a62,a63,a65,a68⟩:=vS B;have a69:=fQ k5;have t:=bO.dK k5 δ rfl (H.cells λ_ _=>Ξ);have I:=t.len;rw[H.len]at I;have I:fi n2=β (.v (.int .i64 2)):=I;refine aa ?_;refine aN λs V=>?_;have k6:=G _ _ c2;have n3:j≠s:=by rintro rfl;rw[k6]at V;cases V
   have a71:=n3.symm;have u:=μ (Y:=.cells [.J (ad b.1) x,.v (.bool b.2)]) (θ) V;have bz:=ξ k4 s (.cells [.J (ad b.1) x,.v (.bool b.2)]);refine aa ?_;rw[τ];have n4:=u _ _ k6;have t:=t.mono u;have K:=π D (π G u);have n5:=(k2.mono D).mono (π G u);generalize k4.set s _=M at*;have a73:=κ bz;refine oy [2,7] (λr:R=>[(9,r)]) (λr C=>M.sub C/\∃k,av M C 1 k r/\aB isRow (if b.2=η then [b.1]else []) k) (λn9=>?_) (λn9=>?_) ?_
   .refine aa ?_;refine eQ (by simp[aY,σ]) ς λa74 a00=>?_;refine aa ?_;refine fj (av.nil (μ θ a00)) δ (nF rfl) rfl (by simp[flat,σ]) (by simp[flat,σ]) λa01 a02 k7=>?_;refine aa ?_;exact⟨a01,⟨k7.1,_,k7,⟨⟨x,rfl⟩,trivial⟩⟩,rfl⟩
   .refine aa ?_;exact⟨_,⟨[],av.nil θ,trivial⟩,rfl⟩
   rintro r a02⟨a81,k,a03,k8⟩a83;refine aa ?_;obtain⟨own,k9⟩:∃own,(if b.2=η then [b.1]else [])=own:=⟨_,rfl⟩;have a84:α own<=1:=by subst k9;split<;>simp
   rw[k9]at k8
   let ac:Nat->List Ω:=λa=>own++(if 0<a then(gf h c d o).getD []else [])++(if 1<a then(gf h c d cj).getD []else []);refine cc [2,34,35] (λb:Nat×R=>[(36,.v (.int .i64 (b.1))),(9,b.2)]) (λb C=>b.1<=2/\(∃k,av M C 1 k b.2/\aB isRow (ac b.1) k)/\(0<b.1->(gf h c d o).isSome=η)/\(1<b.1->(gf h c d cj).isSome=η)) (λb=>2 - b.1) (0,r) ⟨⟨δ,⟨k,a03,by simpa[ac] using k8⟩,λF=>absurd F (Nat.lt_irrefl 0),λF=>absurd F δ⟩,aO⟩ ?_;rintro⟨a,a04⟩ l0 ⟨a05,⟨a06,y,N⟩,O,l1⟩ a86
   dsimp only at a05 y N O l1
   refine aa ?_;refine aF (λn=>?_) λn=>?_
   .have a88:a<2:=δ;obtain⟨_,Q,v,l2,W,e,f,rfl⟩:=H.get (i:=a) (x:=[o,cj].getD a az) (by simp_all);obtain⟨a07,a89,l3⟩:=t.get a _ Q;have l4:=(aP (N:=W) (e6:=e) (h6:=f) v).all;have a08:cW η 37 l0 a07=β (.agg (ab ([o,cj].getD a az) W e f)):=by have:=l3.ld l0 y.1 η 37 δ (by rw[hY];omega);rw[this,aM,if_pos rfl,hY,l4.2.1]
    have a09:=lP (N:=W) (e6:=e) (h6:=f) v;have l5:([o,cj].getD a az).size.toNat<d:=by
     obtain rfl|rfl:a=0\/a=1:=δ
     .show o.size.toNat<d;omega
     .show cj.size.toNat<d;omega
    obtain⟨E,X⟩:∃E,[o,cj].getD a az=E:=⟨_,rfl⟩;rw[X]at Q v l2 l4 a08 a09 l5;clear l3 Q;refine aa ?_;refine aN λa10 Y=>?_;have l6:=y.1 _ _ n4;have a11:j≠a10:=by rintro rfl;rw[l6]at Y;cases Y
    have a90:=a11.symm;have Z:=μ (Y:=.cells (ab E W e f)) (θ) Y;have a92:=κ l6;refine aa ?_;refine ah (GG L A h c k0 k1 d _ (n5.mono (π y.1 Z)) E W e f v l2 l5) ?_;rintro i a94⟨l7,w⟩;have a13:gf h c d E=if a=0 then gf h c d o else gf h c d cj:=by
     rw[<-X];obtain rfl|rfl:a=0\/a=1:=δ
     .rfl
     .rfl
    cases j9:gf h c d E with
    |none=>rw[j9]at w;obtain rfl:=w;refine aa ?_;refine⟨_,θ,π K (π y.1 (π Z l7)),?_⟩;grind
    |some ij=>
     rw[j9]at w a13;obtain⟨a95,a96,rfl,l8,l9⟩:=w;obtain⟨a97,a14,a15,a98⟩:=l8.src;have a99:=fQ l8;have a16:=y.mono (π Z l7);have b00:=N.len;have b01:=l9.len;have b02:=(tI j9).1;have b03:(ac a).length<=3000000:=by
      have:∀x:Option (List Ω),(∀g,x=β g->α g<=1048576)->(x.getD []).length<=1048576:=λx F=>by
       cases x with
       |none=>simp
       |some g=>exact F g rfl
      have G:=this (gf h c d o) λg a18=>by have:=(tI a18).1;omega
      grind
     have b04:E.size<=1048576:=by
      rw[<-X];obtain rfl|rfl:a=0\/a=1:=δ
      .show o.size<= _;omega
      .show cj.size<= _;omega
     refine aa ?_;refine fj a16 δ a15 a14 δ δ λa19 b05 a27=>?_;refine aa ?_;refine⟨(a+1,a19),⟨by dsimp only;omega,⟨_,a27,?_⟩,?_,?_⟩,⟨rfl,rfl⟩,by dsimp only;omega⟩
     .have:ac (a+1)=ac a++ij:=by grind
      rw[this];exact N.append l9
     .intro _;obtain rfl|rfl:a=0\/a=1:=δ;grind
      .exact O δ
     grind
   .obtain rfl:a=2:=δ;obtain⟨b06,b07⟩:=a7Y.1 (O δ);obtain⟨b08,b09⟩:=a7Y.1 (l1 δ);refine aa ?_;refine⟨_,θ,π K y.1,?_⟩;refine⟨a06,a04,rfl,y.base K,?_⟩;grind
end Go.Proofs.YtcfpcblgmmeioaaGreat
namespace Go.bD
open Go
def View.freeze{a:U}{b:R}{c:Nat}{d:ύ}(k:a c=β (.cells d)):View a b (a.set c (.ro d)) b:=λx y v o p=>by
 obtain⟨r,h⟩:=Step.freeze o k;exact⟨r,h,p.mono h.le⟩
variable{f s e0:U}{g H c0:ύ}{e i v M b9 j1:Nat}
def View.a3D(b:f M=β (.ro g))(c:e*i<=α g):View f (.aq M e b9 i) f (.J (eB i e g) .any):=λd k v a h=>⟨d,.refl a,aZ.frozen a b c h⟩
variable{u:bn}{l h9:World}
theorem aZ.frozenAt{v:Value}(h:Holds u f l)(k:f M=β (.ro g))(S:e+i<=α g)(o:aZ u v (.bE M e i b9 1)):aZ u v (.J ((g.drop e).take i) .any):=by
 obtain⟨p,r,T,V,W,d,j⟩:=h.cT M _ k;have m:=d.1;cases o with
 |bE M e i b9 n hk x=>
  have y:∀b∈g.drop e,b.one=true:=λb z=>p b (a7U z);obtain⟨C,D,E⟩:=wK (i:=i) δ (by rw[a7F];omega) y;rw[mr,a8g]at*;by_cases F:i=0
  .subst F;rw[a9m];exact .di _ _ _ (λG=>by cases G) trivial
  .refine .J M e i b9 1 (λa=>r.getD (e+a) Go.undef) _ .any hk E.symm x C ?_ ?_ ?_ trivial;grind;grind
   .intro a L c;rw[D]at c;have P:a<i:=by grind
    rw[a8s P,aaf]at c;exact d.2 (e+a) L c
def View.a3E(b:f M=β (.ro g))(c:e+i<=α g):View f (.bE M e i b9 1) f (.J ((g.drop e).take i) .any):=λd k v a h=>⟨d,.refl a,aZ.frozenAt a b c h⟩
end Go.bD
namespace Go.Proofs.YtcfpcblgmmeioaaGreat
open Go Go.bD
theorem a3F(p:List Ω)(a:ύ)(c:Own)(b:U)(d:aB isRow p a)(F:α p<=4000000):
  AC γ 45 [.J a c] b λr h=>av b h 1 a r:=by
 have G:=d.len;refine nr λL=>?_;have x:c=.nil->a=[]:=λk=>by subst k;simp_all
 refine bd hm Mp ς ?_;simp -dsimp -implicitDefEqProofs (disch:=first|omega|assumption|(simp only[aW,Nat.reduceAdd];try omega)) only[go_sem,simprocAttr,↓oz];refine oA (λo=>by rw[x o]) (λo=>?_) ?_
 .have y:a=[]:=by trivial
  subst y;simp -dsimp -implicitDefEqProofs (disch:=first|omega|assumption|(simp only[aW,Nat.reduceAdd];try omega)) only[go_sem,simprocAttr,a8i];exact⟨b,θ,av.nil θ⟩
 .simp -dsimp -implicitDefEqProofs (disch:=first|omega|assumption|(simp only[aW,Nat.reduceAdd];try omega)) only[go_sem,simprocAttr,oo];have z:bW b 1 (.J a c)=β (α a,a):=by have C:=d.flat;have D:=a7E.2 λk E=>decide_eq_true (d.cells (λ_ _=>φ) k E);simp only[bW,D,if_true,C]
  refine fj (av.zero (θ)) δ z δ Μ Μ λr h o=>?_;simp -dsimp -implicitDefEqProofs (disch:=first|omega|assumption|(simp only[aW,Nat.reduceAdd];try omega)) only[go_sem,simprocAttr];exact⟨h,θ,by trivial⟩
variable{n b5:R}{f s e0:U}{O:List Ω}{g H c0:ύ}{e i v M b9 j1:Nat}
theorem a3G{y:Ω->Ω->Int}(l:p3 e y){z:List Ω}(C:av s e0 1 g n)(D:aB isRow O g)(m:∀h∈O,α h=e)(X:α O<=4000000)(P:O≠[])
  (S:z.Perm O) (q:z.Pairwise (λn p=>¬y p n<0)) (r:FuncId) (E:ύ) (F:f.sub e0) (t:∀p,f p=ζ\/∃u,f p=β (.ro u)) (v:fA γ r=η)
  (w:∀b G x A,α b=e->α G=e->AC γ r ([.J (ad b) x,.J (ad G) A]++E) f λh _=>h=.v (.int .i64 (y b G))):
  ∃c k,n=.aq c (α O) k 1/\α O<=k/\AC γ 46 [n,.bG r [] E] e0 λh o=>h=.aJ []/\s.sub o/\f.sub o/\∃d T,aB isRow z d/\o c=β (.ro (d++T))/\av s (o.set c (.cells (d++T))) 1 d n:=by
 obtain⟨c,B,k,V,rfl,L,H,I,W,K,i,M⟩:=C.aq (λY=>P (by have:=D.len;grind));rw[a8g]at I W K;have Z:=D.len;obtain rfl:B=α O:=δ;have N:=a8q.2 P;refine⟨c,k,rfl,i,?_⟩;refine(a3C l H D rfl W δ N m S q r E F t v w).view λh o Q=>?_;obtain⟨rfl,d,j,rfl⟩:=Q;have j9:=j.len;have k0:=S.length_eq;refine⟨.aJ [],_,View.freeze (ξ _ _ _),rfl,?_,?_,d,V.drop (α O),j,ξ _ _ _,?_⟩
 .rw[τ];intro b x a;have:b≠c:=by rintro rfl;rw[L]at a;cases a
  rw[ο _ _ this];exact C.1 _ _ a
 .rw[τ];intro b x a;have:b≠c:=by rintro rfl;have:=F _ _ a;grind
  rw[ο _ _ this];exact F _ _ a
 .rw[τ,τ];refine⟨λb x a=>?_,.inr ⟨c,α O,k,d++V.drop (α O),rfl,L,ξ _ _ _,?_,?_,?_,i,M⟩⟩
  .have:b≠c:=by rintro rfl;rw[L]at a;cases a
   rw[ο _ _ this];exact C.1 _ _ a
  simp_all;simp_all
  .omega
end Go.Proofs.YtcfpcblgmmeioaaGreat
namespace Go.bD
open Go
variable{t Z:R -> U -> Prop}{b4:FuncId}{f s e0:U}{g H c0:ύ}{e i v M b9 j1:Nat}{m:Program}
def AC.fz(b:f e=β (.cells H))(c:AC m b4 g (f.set e (.ro H)) t):AC m b4 g f t:=
 c.pre λo p r d h=>by
  obtain⟨k,a⟩:=Step.freeze h b;exact⟨k,d.mono a.le,a⟩
def U.one(a:Nat)(b:bu):U:=λc=>if c=a then β b else ζ
variable{Y:bu}
def U.a3H:U.one e Y e=β Y:=by simp[U.one]
theorem U.one_sub(b:f e=β Y):(U.one e Y).sub f:=λc d a=>by
 unfold U.one at a;simp_all
theorem U.a3I:∀a,U.one e (.ro g) a=ζ\/∃b,U.one e (.ro g) a=β (.ro b):=λa=>by
 unfold U.one;grind
end Go.bD
namespace Go.Proofs.YtcfpcblgmmeioaaGreat
open Go Go.bD
variable{n b5:R}{f s e0:U}{O:List Ω}{g H c0:ύ}{e i v M b9 j1:Nat}
theorem a3J{k:List Ω}(o:av s e0 1 g n)(y:e0.sub f)(z:aB isRow O g)(C:∀a∈O,α a=v)(D:α O<=4000000)(E:O≠[])(w:e<v)(A:v<=8)
  (F:k.Perm O) (G:k.Pairwise (λn L=>¬cI e L n<0)) (P:f i=β (.cells [.v (.int .i64 (e:Int))])) (p:e0 i=ζ):
  ∃b d,n=.aq b (α O) d 1/\α O<=d/\AC γ 46 [n,.bG 313 [] [.ptr i 0]] f λa c=>a=.aJ []/\s.sub c/\∃h r,aB isRow k h/\c b=β (.ro (h++r))/\av s (c.set b (.cells (h++r))) 1 h n:=by
 have S:=Ο o.1 p;have T:cN n≠β i:=λV=>av.has o V p;have W:=av.other (o.mono y) (o:=.ro [.v (.int .i64 (e))]) S T;obtain⟨b,d,rfl,j,l⟩:=a3G (qg v e) W z C D E F G 313 [.ptr i 0] (U.one_sub (ξ f i (.ro [.v (.int .i64 (e:Int))]))) U.a3I abH (λm q t u B H=>(Fx m q t u e _ i (by simp[U.read,U.a3H]) δ δ δ).mono λa c x=>x.2);refine⟨b,d,rfl,j,AC.fz P (l.mono λa c x=>?_)⟩;simp_all
def jb(b:Nat):Nat->af->List Ω->Nat->Except Int ao×af
 |0,c,_,_=>(.ok az,c)
 |o+1,c,a,dep=>if a=[]then(.ok az,c)else
  match jb b o c ((ei (dep%b) a).take (α a/2)) (dep+1)with
  |(.error d,h)=>(.error d,h)
  |(.ok p,h)=>match jb b o h ((ei (dep%b) a).drop (α a/2+1)) (dep+1)with
   |(.error d,k)=>(.error d,k)
   |(.ok r,k)=>dF k b (ck ((ei (dep%b) a).getD (α a/2) [],η) p r)
def p4(h a:U)(b c:Nat)(d:Except Int ao×af)(k:R):Prop:=bq a b c d.2/\Ext b c h a/\gX d.1 k
theorem gX.z:gX (.ok az) (.aJ [.agg (ab az .nil .nil .nil),.v (.int .i64 0)]):=⟨bl,pV,_,_,_,rfl⟩
theorem p4.z{a b:U}{c d:Nat}{h:af}(o:bq a c d h)(k:a.sub b):p4 a b c d (.ok az,h) (.aJ [.agg (ab az .nil .nil .nil),.v (.int .i64 0)]):=⟨o.mono k,Α k,gX.z⟩
theorem GH(a c:Nat)(h:Nat)(k:Own)(o:Nat)(b:U)(d:af)(x:bq b a c d):
  AC γ 232 [dO a h,.J [] k,.v (.int .i64 (o:Int))] b λp r=>p4 b r a c (.ok az,d) p:=by
 refine aK hm Cn ?_;refine bs λy z=>?_;refine dd λC D E F=>?_;refine⟨_,θ,?_⟩;grind[ch,Ε,aP,bl,p4.z,μ,θ]
theorem zK(d C:Nat)(c:Nat)(i:1<=c)(j:c<=8):∀(k:Nat)(b:List Ω)(D:ύ)(G:Own)(dep:Nat)(r:U)(o:af),bq r d C o->aB isRow b D->(∀h∈b,α h=c)->α b<=k->k<=4000000->dep+k<=100000000->
  AC γ 232 [dO d c,.J D G,.v (.int .i64 (dep:Int))] r λh a16=>p4 r a16 d C (jb c k o b dep) h
 |0,b,D,G,dep,r,o,L,P,B,a18,_,_=>by
  obtain rfl:b=[]:=a7t δ;obtain rfl:D=[]:=a7t P.len;exact GH d C c G dep r o L
 |k+1,b,D,G,dep,r,o,L,P,B,a18,a97,a98=>by
  have a99:=P.len;by_cases H:b=[]
  .subst H;obtain rfl:D=[]:=a7t P.len;rw[jb,if_pos rfl];exact GH d C c G dep r o L
  have b00:=a8q.2 H;have b01:¬(α b:Int)=0:=δ;have a19:=a9t dep i;have j9:=jb.eq_2 c o b dep k;rw[if_neg H]at j9;generalize jb c (k+1) o b dep=b02 at j9;obtain⟨l6,a27⟩:=tH (e:=dep%c) B;have b03:=q6 (dep%c) b;have l7:=λh l=>B h (l6.mem_iff.1 l);generalize ei (dep%c) b=E at*;refine aK hm Cn ?_;refine bs λl8 a29=>?_;refine dd λm I b04 b05=>?_;generalize K:(r.set l8 _).set m _=M;have l9:r.sub M:=by subst K;exact aO
  have aE:M l8=β (.cells [.ptr d 0,.v (.int .i64 (c))]):=by subst K;exact aO
  have bz:M m=β (.cells (ab az .nil .nil .nil)):=by subst K;rw[<-ch];exact aO
  clear K;have k0:=L.mono l9;refine ah (a3F b D G M P δ) ?_;intro b06 a30 k1;refine aa ?_;have n0:=κ (k1.1 _ _ aE);refine aa ?_;refine ah (Fy d c dep i δ j a30) ?_;rintro _ b07⟨n1,b08,S,n2,rfl⟩;refine aa ?_;obtain⟨z,p,rfl,a34,n3⟩:=a3J k1 n1 P B δ H a19 j l6 a27 S n2;refine ah n3 ?_;rintro _ k2⟨rfl,n,F,k3,N,n4,n5⟩;have n9:=av.fresh n5 rfl;clear n5;have b09:=N.len;have a36:=k0.mono n;have b10:=κ (n _ _ aE);clear n3 k1 S n2 n1 n0;have b11:(α b:Int).tdiv 2=((α b/2:Nat)):=rfl;have b12:cn 1 (.aq z (α b) p 1) ζ (β (.v (.int .i64 ((α b/2:Nat))))) ζ=β (.aq z (α b/2) p 1):=ib δ;generalize b13:α b/2=a at*;have b14:a<α b:=δ;refine aa ?_;have b15:(F++k3).length=p\/True:=.inr trivial;have a38:(dep)+1=((dep+1:Nat):Int):=rfl;rw[a38];have a42:View k2 (.aq z a p 1) k2 (.J (F.take a) .any):=by have:=View.a3D (e:=a) (b9:=p) (i:=1) n4 (by rw[Ψ];omega);rwa[mr,a8T δ]at this
  refine ah (AC.nI (g:=[dO d c]) a42 (zK d C c i j k (E.take a) (F.take a) .any (dep+1) k2 o a36 (N.take a) (λh l=>l7 h (a7A l)) (by rw[a7q];omega) δ δ)) ?_;rintro h a00⟨O,Q,k4⟩;generalize b16:jb c k o (E.take a) (dep+1)=qX at*;obtain⟨a43,a01⟩:=qX
  dsimp only at O k4
  have X:=L.cA a29;have x:=L.cA I;have Y:=k0.cA n9;have a02:=Q _ _ X.1 X.2 (n _ _ aE);have Z:=Q _ _ x.1 x.2 (n _ _ bz);have a47:=Q _ _ Y.1 Y.2 n4;have a03:=((Α (π l9 n)).trans Q);cases a43 with
  |error a04=>
   obtain⟨k5,rfl⟩:=k4;refine aa ?_;refine aN λq y=>?_;have k6:q≠m:=by rintro rfl;rw[Z]at y;cases y
   have a48:=k6.symm;have a52:=(aP (N:=.nil) (e6:=.nil) (h6:=.nil) bl).all;have a56:=lP (N:=.nil) (e6:=.nil) (h6:=.nil) bl;refine aa ?_;have a57:=χ Z;have a61:=cx (a:=.nil) (b:=.nil) (c:=.nil) (N:=.nil) (e6:=.nil) (h6:=.nil) bl bl;rw[ch];refine aa ?_;refine⟨_,θ,?_⟩;exact⟨(O.mono (μ θ y)).set x,(a03.trans (Α (μ θ y))).ee I,k5,rfl⟩
  |ok k7=>
   obtain⟨k8,a62,s,t,u,rfl⟩:=k4;refine aa ?_;refine aN λq y=>?_;have k6:q≠m:=by rintro rfl;rw[Z]at y;cases y
   have a48:=k6.symm;have b17:=(aP (N:=s) (e6:=t) (h6:=u) k8).all;have b18:=lP (N:=s) (e6:=t) (h6:=u) k8;refine aa ?_;have T:=μ (Y:=.cells (ab k7 s t u)) (θ) y;have cO:=ξ a00 q (.cells (ab k7 s t u));have a63:=O.mono T;have n0:=κ (T _ _ a02);have a05:=T _ _ a47;have a65:=T _ _ Z;have a68:=T _ _ a02;have a69:=a03.trans (Α T);rw[τ];generalize a00.set q _=k9 at*;have a06:∃v,cn 1 (.aq z (α b) p 1) (β (.v (.int .i64 ((a:Int)+1)))) ζ ζ=β v/\View k9 v k9 (.J (F.drop (a+1)) .any):=by
    by_cases S:a+1<p
    .refine⟨_,gu (e:=a+1) δ a34 S,?_⟩;rw[a8g];have:=View.a3E (e:=a+1) (i:=α b -(a+1)) (b9:=p -(a+1)) a05 (by rw[Ψ];omega);grind
    .have a71:α b=p:=δ;have b19:a+1=α b:=δ;refine⟨_,by have:=uA (i:=1) (M:=z) (e1:=.i64) a71;rw[show(a)+1=(α b:Int) by omega];exact this,?_⟩;rw[a8b δ];exact View.J
   obtain⟨l0,a06,a73⟩:=a06;refine aa ?_;refine ah (AC.nI (g:=[dO d c]) a73 (zK d C c i j k (E.drop (a+1)) (F.drop (a+1)) .any (dep+1) k9 a01 a63 (N.drop (a+1)) (λh l=>l7 h (a7U l)) (by rw[a7F];omega) δ δ)) ?_;rintro h l1⟨l2,w,l3⟩;generalize b20:jb c k a01 (E.drop (a+1)) (dep+1)=nt at*;obtain⟨cE,ox⟩:=nt
   dsimp only at l2 l3 j9
   have b21:=k0.cA n9;have a07:=O.cA y;have a74:=w _ _ X.1 X.2 a68;have l4:=w _ _ x.1 x.2 a65;have a81:=w _ _ Y.1 Y.2 a05;have a83:=w _ _ a07.1 a07.2 cO;have a08:=a69.trans w;cases cE with
   |error a04=>
    obtain⟨k5,rfl⟩:=l3;refine aa ?_;refine aN λA V=>?_;have a84:A≠m:=by rintro rfl;rw[l4]at V;cases V
    have b22:=a84.symm;have a52:=(aP (N:=.nil) (e6:=.nil) (h6:=.nil) bl).all;have a56:=lP (N:=.nil) (e6:=.nil) (h6:=.nil) bl;have a57:=χ l4;have a61:=cx (a:=.nil) (b:=.nil) (c:=.nil) (N:=.nil) (e6:=.nil) (h6:=.nil) bl bl;refine aa ?_;rw[ch];refine aa ?_;refine⟨_,θ,?_⟩;exact⟨(l2.mono (μ θ V)).set x,(a08.trans (Α (μ θ V))).ee I,k5,rfl⟩
   |ok cj=>
    obtain⟨l5,a86,W,e,f,rfl⟩:=l3;refine aa ?_;refine aN λA V=>?_;have b23:=(aP (N:=W) (e6:=e) (h6:=f) l5).all;have b24:=lP (N:=W) (e6:=e) (h6:=f) l5;refine aa ?_;rw[τ];have g:=μ (Y:=.cells (ab cj W e f)) (θ) V;have b25:=κ (ξ l1 A (.cells (ab cj W e f)));have a88:=l2.mono g;have b26:=κ (g _ _ a74);have b27:=κ (g _ _ a83);have b28:(l1.set A (.cells (ab cj W e f))).read z=β (F++k3):=by have:=g _ _ a81;simp only[U.read,this]
    have a89:=g _ _ l4;have a90:=a08.trans (Α g);generalize l1.set A _=a92 at*;obtain⟨_,a94,a09,rfl⟩:=N.get (i:=a) (x:=E.getD a []) (by simp_all);have b29:cz 1 (.aq z (α b) p 1) (.v (.int .i64 (a)))=β (.ptr z (a*1)):=by grind[jQ,Int.toNat_natCast]
    have b30:aM ι 1 (List.drop a (F++k3))=.J (ad (E.getD a [])) a09:=by obtain⟨a95,S⟩:=a7u.1 a94;rw[a8U δ,a7M a95,S];rfl
    refine aa ?_;refine ah (vL a92 d C ox a88 (E.getD a [],η) k7 cj a09 s t u W e f c i j k8 l5 a62 a86) ?_;rintro h b31⟨a96,a10,a11⟩;have b32:=χ (a10 _ _ x.1 x.2 a89);obtain⟨b33,a13,l0,a14,a04,a15,rfl⟩:=a11.shape;have b34:=(aP (N:=a13) (e6:=l0) (h6:=a14) a15).all;have b35:=cx (a:=.nil) (b:=.nil) (c:=.nil) (N:=a13) (e6:=l0) (h6:=a14) bl a15;have b36:=(aP (N:=.nil) (e6:=.nil) (h6:=.nil) bl).len;refine aa ?_;refine⟨_,θ,?_⟩;exact⟨a96.set x,(a90.trans a10).ee I,a11⟩
def mM(a:af)(b:Nat)(c:ao)(h:Nat):Except Int ao×af:=
 match gf a b (c.size.toNat+1) c with
 |none=>(.error 21,a)
 |some d=>jb b (α d) a d h
def GI(k:U)(d x:Nat)(c:af)(o:bq k d x c)(a:ao)(E F G:Own)(e:α a.sum=32)(A:a.cC)(b:Nat)(f:1<=b)(g:b<=8)(h:Nat)(Z:h<=10000000)(j9:a.size<=4000000):
  AC γ 171 [dO d b,.agg (ab a E F G),.v (.int .i64 (h:Int))] k λL B=>p4 k B d x (mM c b a h) L:=by
 have k0:=(aP (N:=E) (e6:=F) (h6:=G) e).all;have i:mM c b a h=match gf c b (a.size.toNat+1) a with
  |none=>(.error 21,c)
  |some p=>jb b (α p) c p h:=rfl
 generalize mM c b a h=k1 at*;refine aK hm Qd ?_;refine bs λj k2=>?_;refine dd λH k3 k4 k5=>?_;refine hd λl y a3 a4 a5 dy=>?_;generalize z:((k.set j _).set H _).set l _=C;have r:k.sub C:=by subst z;exact aO
 have aE:C j=β (.cells [.ptr d 0,.v (.int .i64 (b))]):=by subst z;exact aO
 have bh:C l=β (.cells (ab az .nil .nil .nil)):=by subst z;rw[<-ch];exact aO
 clear z;refine ah (GG d x c b f g (a.size.toNat+1) C (o.mono r) a E F G e A δ) ?_;rintro L k6⟨P,D⟩;cases S:gf c b (a.size.toNat+1) a with
 |none=>rw[S]at D i;obtain rfl:=D;have I:=(aP (N:=.nil) (e6:=.nil) (h6:=.nil) bl).all;have k7:=cx (a:=.nil) (b:=.nil) (c:=.nil) (N:=.nil) (e6:=.nil) (h6:=.nil) bl bl;have K:=χ (P _ _ bh);refine aa ?_;refine⟨_,θ,?_⟩;rw[ch,Φ (by rw[I.1];omega)];exact⟨((o.mono r).mono P).set (o.cA y),((Α r).trans (Α P)).ee y,Θ,rfl⟩
 |some p=>rw[S]at D i;obtain⟨M,k8,rfl,m,T⟩:=D;have n:=m;have k9:=κ (m.1 _ _ aE);rw[<-T.flat]at n;obtain⟨N,O,V⟩:=av.EI n T;obtain⟨l0,Q⟩:=tI S;have W:=o.cA y;have l1:=(aP (N:=.nil) (e6:=.nil) (h6:=.nil) bl).len;refine aa ?_;have X:=AC.nI (m:=γ) (g:=[dO d b]) O (zK d x b f g (α p) p M .any h N c (((o.mono r)).mono V) T Q δ δ δ);refine ah X ?_;rintro L l2⟨Y,q,s⟩;obtain⟨l3,t,u,v,l4,w,rfl⟩:=s.shape;have K:=χ (q _ _ W.1 W.2 (V _ _ bh));have l5:=(aP (N:=t) (e6:=u) (h6:=v) w).all;have l6:=cx (a:=.nil) (b:=.nil) (c:=.nil) (N:=t) (e6:=u) (h6:=v) bl w;refine aa ?_;refine⟨_,θ,?_⟩;exact⟨Y.set W,(((Α r).trans (Α V)).trans q).ee y,s⟩
end Go.Proofs.YtcfpcblgmmeioaaGreat
namespace Go.bD
open Go
section
end
end Go.bD
namespace Go.Proofs.YtcfpcblgmmeioaaGreat
open Go Go.bD
def mN(k:af)(c:Nat)(o:Ω×Bool)(d h:ao)(p:Nat):Except Int ao×af:=
 match dF k c (ck o d h)with
 |(.error r,a)=>(.error r,a)
 |(.ok b,a)=>if(2*b.size).tdiv 3+1<max d.size h.size then mM a c b p else(.ok b,a)
def kj(b:Nat)(h:Ω):Nat->af->ao->Nat->Except Int ao×af
 |0,a,_,_=>(.error 21,a)
 |r+1,a,k,dep=>if k=az then dF a b (ck (h,η) k k)else match kW a b k with
  |none=>(.error 21,a)
  |some (d,bF)=>if d.1=h then(if d.2=η then(.error 8,a)else mN a b (d.1,η) (bF.getD 0 az) (bF.getD 1 az) dep)
   else if cI (dep%b) h d.1<0 then match kj b h r a (bF.getD 0 az) (dep+1)with
    |(.error o,c)=>(.error o,c)
    |(.ok p,c)=>mN c b d p (bF.getD 1 az) dep
   else match kj b h r a (bF.getD 1 az) (dep+1)with
    |(.error o,c)=>(.error o,c)
    |(.ok p,c)=>mN c b d (bF.getD 0 az) p dep
variable{A j2:ao}{e i v M b9 j1:Nat}{B:af}
theorem GJ{h:af}{k:Ω×Bool}{b:ao}(a:dF B e (ck k A j2)=(.ok b,h)):b.size=1+A.size+j2.size/\0<=A.size/\0<=j2.size/\b.size<=1048576:=by
 unfold dF at a;split at a
 .simp_all
 .rename_i p o;simp only[a8x,Except.ok.injEq]at a;obtain⟨rfl,_⟩:=a;have c:=vl o;have d:=tA c.ok;have:=c.size;simp only[ck,a8Q,a7C,a8K,a8E,aah]at this;exact⟨δ,(kX (d A (by simp[ck]))).1,(kX (d j2 (by simp[ck]))).1,c.nv⟩
structure jy(cs:ύ)(a b:ao):Prop where
 len:74<=α cs
 bZ:α a.sum=32
 qh:a.cC
 cr:α b.sum=32
 hF:b.cC
 cs:∃nO nP c d h k r,cs=ab a nO nP c++(ab b d h k++r)
variable{n b5:R}{f s e0:U}{g H c0:ύ}
theorem jy.of{s:U}(p:av f s 37 (flat g) n)(r:aB bB [A,j2] g):∃a o b,n=.aq a 2 o 37/\f a=ζ/\s a=β (.cells b)/\jy b A j2:=by
 match g,r with
 |[_,_],⟨⟨bZ,qh,nO,nP,c,rfl⟩,⟨cr,hF,d,h,k,rfl⟩,_⟩=>
  have F:=(aP (N:=nO) (e6:=nP) (h6:=c) bZ).len;have G:=(aP (N:=d) (e6:=h) (h6:=k) cr).len;have x:flat [R.agg (ab A nO nP c),.agg (ab j2 d h k)]=ab A nO nP c++ab j2 d h k:=by simp[flat,σ]
  rw[x]at p;obtain⟨a,y,o,b,rfl,z,C,L,D,E,P,_⟩:=p.aq (λS=>by simp_all);rw[Ψ]at E;obtain rfl:y=2:=δ;refine⟨a,o,b,rfl,z,C,δ,bZ,qh,cr,hF,nO,nP,c,d,h,k,b.drop 74,?_⟩;rw[<-a7B,<-D,a7V]
theorem jy.ld(p:jy g j2 A):∃h k o b c d,aM η 37 g=.agg (ab j2 h k o)/\aM η 37 (g.drop 37)=.agg (ab A b c d)/\aM ι 1 (g.drop 35)=.v (.int .i64 j2.size)/\aM ι 1 (g.drop 72)=.v (.int .i64 A.size):=by
 obtain⟨h,k,o,b,c,d,r,rfl⟩:=p.cs;have y:=(aP (N:=h) (e6:=k) (h6:=o) p.bZ).len;have D:=(aP (N:=b) (e6:=c) (h6:=d) p.cr).len;have z:∀a,a<=37->(ab j2 h k o++(ab A b c d++r)).drop a=(ab j2 h k o).drop a++(ab A b c d++r):=λa C=>a8U δ;have x:∀a,a<=37->(ab j2 h k o++(ab A b c d++r)).drop (37+a)=(ab A b c d).drop a++r:=λa C=>by
  rw[<-a8d,a9V y,a8U δ]
 refine⟨h,k,o,b,c,d,?_,?_,?_,?_⟩
 .simp only[aM,if_true];simp_all
 .rw[x 0 δ,a8O];simp only[aM,if_true];simp_all
 .rw[z 35 δ,(aP p.bZ).d35];rfl
 .rw[x 35 δ,(aP p.cr).d35];rfl
variable{N e6 h6:Own}
theorem jy.GK{k:ao}(a:jy g k j2)(o:α A.sum=32)(y:A.cC):jy (putAt g 0 (ab A N e6 h6)) A j2:=by
 obtain⟨p,r,x,b,c,d,h,rfl⟩:=a.cs;have C:=(aP (N:=p) (e6:=r) (h6:=x) a.bZ).len;have D:=(aP (N:=b) (e6:=c) (h6:=d) a.cr).len;have E:=(aP (N:=N) (e6:=e6) (h6:=h6) o).len;have z:putAt (ab k p r x++(ab j2 b c d++h)) 0 (ab A N e6 h6)=ab A N e6 h6++(ab j2 b c d++h):=by simp_all [putAt]
 rw[z];exact⟨by simp only[Ψ];omega,o,y,a.cr,a.hF,_,_,_,_,_,_,h,rfl⟩
theorem jy.GL{k:ao}(a:jy g j2 k)(o:α A.sum=32)(y:A.cC):jy (putAt g 37 (ab A N e6 h6)) j2 A:=by
 obtain⟨b,c,d,p,r,x,h,rfl⟩:=a.cs;have C:=(aP (N:=b) (e6:=c) (h6:=d) a.bZ).len;have D:=(aP (N:=p) (e6:=r) (h6:=x) a.cr).len;have E:=(aP (N:=N) (e6:=e6) (h6:=h6) o).len;have z:putAt (ab j2 b c d++(ab k p r x++h)) 37 (ab A N e6 h6)=ab j2 b c d++(ab A N e6 h6++h):=by grind[putAt,List.take_left',List.drop_drop,List.drop_left',List.append_assoc]
 rw[z];exact⟨by simp only[Ψ];omega,a.bZ,a.qh,o,y,_,_,_,_,_,_,h,rfl⟩
set_option maxHeartbeats 1600000 in
theorem GM(h C:Nat)(a:Nat)(k5:1<=a)(O:a<=8)(c:Ω)(j:Own)(a11:α c=a):∀(T:Nat)(l:U)(p:af)(_:bq l h C p)(k:ao)(r x y:Own)(dep:Nat),α k.sum=32->k.cC->k.size.toNat<T->dep+T<=4000000->
  AC γ 168 [dO h a,.agg (ab k r x y),.J (ad c) j,.v (.int .i64 (dep:Int))] l λQ D=>p4 l D h C (kj a c T p k dep) Q
 |0,l,p,W,k,r,x,y,dep,fk,X,a95,a96=>by omega
 |T+1,l,p,W,k,r,x,y,dep,fk,X,a95,a96=>by
  have a97:=(aP (N:=r) (e6:=x) (h6:=y) fk).all;have b:=(kj.eq_2 a c p k dep T).symm;generalize kj a c (T+1) p k dep=a13 at*;refine aK hm Q7 ?_;refine bs λv a98=>?_;refine dd λz n3 b39 b40=>?_;refine hd λw m a3 a4 a5 dy=>?_;generalize k6:((l.set v _).set z _).set w _=n;have Y:l.sub n:=by subst k6;exact aO
  have aL:n v=β (.cells [.ptr h 0,.v (.int .i64 (a))]):=by subst k6;exact aO
  have bh:n z=β (.cells (ab k r x y)):=by subst k6;exact aO
  have bw:n w=β (.cells (ab az .nil .nil .nil)):=by subst k6;rw[<-ch];exact aO
  clear k6;have b41:=κ aL;have b42:=κ bh;have l6:=W.mono Y;have Z:=W.cA a98;have j9:=W.cA n3;have d:=W.cA m;by_cases k7:k=az
  .subst k7;refine bp (mB az r x y n fk λ_=>X) ?_;refine ah (vL n h C p l6 (c,η) az az j r x y r x y a k5 O fk fk X X) ?_;rintro Q b43⟨a99,a14,a15⟩;obtain⟨b00,k8,k9,l0,l1,l2,rfl⟩:=a15.shape;have l7:=χ (a14 _ _ d.1 d.2 bw);have b01:=(aP (N:=k8) (e6:=k9) (h6:=l0) l2).all;have A:=(aP (N:=.nil) (e6:=.nil) (h6:=.nil) bl).len;have B:=cx (a:=.nil) (b:=.nil) (c:=.nil) (N:=k8) (e6:=k9) (h6:=l0) bl l2;rw[if_pos rfl]at b;refine aa ?_;refine⟨_,θ,?_⟩;rw[<-b];exact⟨a99.set d,((Α Y).trans a14).ee m,a15⟩
  rw[if_neg k7]at b;refine bp (mB k r x y n fk λ_=>X) ?_;generalize a16:c3 (Ctx.of γ) (eC.seq (eC.block 0 _) _)=b44;refine ah (zt n h C p l6 k r x y fk X a k5 O) ?_;rintro Q a18⟨H,l8⟩;cases n4:kW p a k with
  |none=>
   rw[n4]at l8 b;obtain rfl:=l8
   dsimp only at b
   refine aa ?_;refine aN λe V=>?_;have b02:e≠w:=by rintro rfl;rw[H _ _ bw]at V;cases V
   have b45:=b02.symm;have l7:=χ (H _ _ bw);subst a16;have A:=(aP (N:=.nil) (e6:=.nil) (h6:=.nil) bl).len;have B:=cx (a:=.nil) (b:=.nil) (c:=.nil) (N:=.nil) (e6:=.nil) (h6:=.nil) bl bl;refine aa ?_;refine⟨_,θ,?_⟩;rw[<-b,ch,Φ (by rw[A];omega)];exact⟨((l6.mono H).mono (μ θ V)).set d,(((Α Y).trans (Α H)).trans (Α (μ θ V))).ee m,Θ,rfl⟩
  |some b03=>
   obtain⟨o,b46⟩:=b03;rw[n4]at l8 b;obtain⟨E,b47,rfl,b48,b49,b04,b05⟩:=l8;obtain⟨l9,cj,rfl,b50,b51,b52,b53,b06,b54⟩:=vS n4;obtain⟨k0,b55,F,rfl,f,a19,g⟩:=jy.of b04 b05;refine aa ?_;refine aN λe V=>?_;refine aa ?_;have a27:=μ (Y:=.cells [.J (ad o.1) E,.v (.bool o.2)]) (θ) V;have cg:=ξ a18 e (.cells [.J (ad o.1) E,.v (.bool o.2)]);have l3:=π H a27;have n5:=l3 _ _ aL;have a29:=l3 _ _ bh;have n9:=l3 _ _ bw;have a30:=a27 _ _ a19;have a00:=l6.mono l3;have a01:=(Α (l:=h) (lM:=C) Y).trans (Α l3);have a02:=Ο Y (Ο H V);have n0:=Ο Y f;have b56:k0≠e:=by rintro rfl;rw[a19]at V;cases V
   generalize a18.set e _=k1 at*;subst a16;refine pJ [2,3,4,5,8,10,11] (λ_:(Ω×Bool)×ao×ao×af=>[]) (λi D=>mN i.2.2.2 a i.1 i.2.1 i.2.2.1 dep=a13/\bq D h C i.2.2.2/\Ext h C l D/\(∃E,D e=β (.cells [.J (ad i.1.1) E,.v (.bool i.1.2)]))/\(∃F,D k0=β (.cells F)/\jy F i.2.1 i.2.2.1)/\D v=β (.cells [.ptr h 0,.v (.int .i64 (a))])/\D z=β (.cells (ab k r x y))/\D w=β (.cells (ab az .nil .nil .nil))) ?_ ?_
   .have b07:=κ cg;have b08:=κ n5;refine aa ?_;simp only[a7W,a7Z]at b;have b57:=cg;by_cases a03:o.1=c
    .rw[if_pos a03]at b;refine bp (kH o.1 c E j k1 δ) ?_;cases a34:o.2 with
     |true=>rw[if_pos a34]at b;have A:=(aP (N:=.nil) (e6:=.nil) (h6:=.nil) bl).len;have B:=cx (a:=.nil) (b:=.nil) (c:=.nil) (N:=.nil) (e6:=.nil) (h6:=.nil) bl bl;have l7:=χ n9;refine aa ?_;refine⟨_,θ,?_⟩;rw[<-b,ch,Φ (by rw[A];omega)];exact⟨a00.set d,a01.ee m,Θ,rfl⟩
     |false=>
      rw[if_neg (by rw[a34];decide)]at b;refine aa ?_;refine bp (kH c c E j k1 δ) ?_;have b58:=χ cg;refine aa ?_;have b09:v≠e:=by grind
      have b10:z≠e:=by grind
      have b11:w≠e:=by rintro rfl;exact absurd (H _ _ bw) (by rw[V];simp)
      refine⟨((o.1,η),l9,cj,p),b,a00.set (W.cA a02),a01.ee a02,⟨E,by rw[a03]⟩,⟨F,rfl,g⟩,?_,?_,?_⟩
      .rw[ο _ _ b09];exact n5
      .rw[ο _ _ b10];exact a29
      .rw[ο _ _ b11];exact n9
    .rw[if_neg a03]at b;refine bp (kH o.1 c E j k1 δ) ?_;refine bp (kH o.1 c E j k1 δ) ?_;obtain⟨G,q,b59,b12,a36,b13⟩:∃(G:Nat)(q:ao),G<2/\(if cI (dep%a) c o.1<0 then(0:Int)else 1)=(G:Int)/\(q.size.toNat<T/\α q.sum=32/\q.cC)/\
       (match kj a c T p q (dep+1)with
        |(.error l1,k2)=>(.error l1,k2)
        |(.ok k7,k2)=>mN k2 a o (if G=0 then k7 else l9) (if G=0 then cj else k7) dep)=a13/\∃I K M,aM η 37 (F.drop (G*37))=.agg (ab q I K M):=by
      obtain⟨I,K,M,a04,a05,a06,a38,a42,_⟩:=g.ld;by_cases F:cI (dep%a) c o.1<0
      .rw[if_pos F]at b;exact⟨0,l9,δ,by rw[if_pos F];rfl,⟨δ,g.bZ,g.qh⟩,b,I,K,M,a38⟩
      .rw[if_neg F]at b;exact⟨1,cj,δ,by rw[if_neg F];rfl,⟨δ,g.cr,g.hF⟩,b,a04,a05,a06,a42⟩
     obtain⟨b,I,K,M,b60⟩:=b13;obtain⟨b14,b15,b16⟩:=a36;have a43:=Fz c o.1 j E h a dep δ O δ a11 b06 k1;rw[b12]at a43;have b17:=κ a30;have b18:=g.len;refine bp a43 ?_;have b19:(dep)+1=((dep+1:Nat):Int):=rfl;rw[b19];refine ah (GM h C a k5 O c j a11 T k1 p a00 q I K M (dep+1) b15 b16 b14 δ) ?_;rintro Q b61⟨n1,k3,a47⟩;have N:=W.cA n0;have a48:=W.cA a02;have b62:=k3 _ _ Z.1 Z.2 n5;have b63:=k3 _ _ j9.1 j9.2 a29;have b20:=k3 _ _ d.1 d.2 n9;have b21:=k3 _ _ N.1 N.2 a30;have b64:=k3 _ _ a48.1 a48.2 cg;have l7:=χ b20;have b65:=χ b21;have a52:=a01.trans k3;have b22:k0≠w:=by rintro rfl;rw[bw]at f;cases f
     have b66:=b22.symm;have b67:v≠k0:=by rintro rfl;rw[aL]at f;cases f
     have a56:z≠k0:=by rintro rfl;rw[bh]at f;cases f
     have A:=(aP (N:=.nil) (e6:=.nil) (h6:=.nil) bl).all;have b68:G*37+37<=α F:=δ;generalize b69:kj a c T p q (dep+1)=b23 at*;obtain⟨py,b24⟩:=b23;cases py with
     |error l1=>
      obtain⟨a07,rfl⟩:=a47
      dsimp only at b n1
      have B:=cx (a:=.nil) (b:=.nil) (c:=.nil) (N:=.nil) (e6:=.nil) (h6:=.nil) bl bl;refine aa ?_;refine⟨_,θ,?_⟩;rw[<-b,ch,Φ (by rw[A.1];omega)];exact⟨(n1.set N).set d,(a52.ee n0).ee m,a07,rfl⟩
     |ok a57=>
      obtain⟨a08,a61,L,P,S,rfl⟩:=a47
      dsimp only at b n1
      have a36:=(aP (N:=L) (e6:=P) (h6:=S) a08).all;refine aa ?_;refine⟨(o,(if G=0 then a57 else l9),(if G=0 then cj else a57),b24),b,n1.set N,a52.ee n0,⟨E,rfl⟩,_,rfl,?_⟩;obtain rfl|rfl:G=0\/G=1:=δ
      .exact g.GK a08 a61
      .exact g.GL a08 a61
   .rintro⟨a62,a63,a65,k2⟩ D ⟨s,b25,a68,⟨b26,b27⟩,⟨b70,a69,k4⟩,a09,b28,a71⟩ b71
    dsimp only at*
    have b07:=κ b27;have b08:=κ a09;have b17:=κ a69;obtain⟨I,K,M,a04,a05,a06,a38,a42,b72,b73⟩:=k4.ld;have b18:=k4.len;refine aa ?_;have a73:=vL D h C k2 b25 a62 a63 a65 b26 I K M a04 a05 a06 a k5 O k4.bZ k4.cr k4.qh k4.hF;refine ah a73 ?_;clear a73;rintro Q l4⟨n2,t,a74⟩;have b74:=κ (t _ _ Z.1 Z.2 a09);have b29:=t _ _ j9.1 j9.2 b28;have b75:=χ b29;have l7:=χ (t _ _ d.1 d.2 a71);have N:=W.cA n0;have b76:=κ (t _ _ N.1 N.2 a69);have b30:=dy;have b31:=b30.symm;unfold mN at s;generalize b32:dF k2 a (ck a62 a63 a65)=b33 at*;obtain⟨qO,a81⟩:=b33;have A:=(aP (N:=.nil) (e6:=.nil) (h6:=.nil) bl).all;have b77:=a97;cases qO with
    |error l1=>
     obtain⟨a07,rfl⟩:=a74
     dsimp only at s n2
     have B:=cx (a:=r) (b:=x) (c:=y) (N:=.nil) (e6:=.nil) (h6:=.nil) fk bl;have b78:=cx (a:=.nil) (b:=.nil) (c:=.nil) (N:=.nil) (e6:=.nil) (h6:=.nil) bl bl;refine aa ?_;refine⟨_,θ,?_⟩;rw[<-s];exact⟨(n2.set j9).set d,((a68.trans t).ee n3).ee m,a07,rfl⟩
    |ok u=>
     obtain⟨l5,a83,L,P,S,rfl⟩:=a74;obtain⟨a84,b79,b80,b81⟩:=GJ b32
     dsimp only at s n2
     have B:=cx (a:=r) (b:=x) (c:=y) (N:=L) (e6:=P) (h6:=S) fk l5;have b82:=(aP (N:=L) (e6:=P) (h6:=S) l5).all;have b83:0<=(2*u.size).tdiv 3/\(2*u.size).tdiv 3<=3000000:=by grind
     have a56:k0≠z:=by rintro rfl;rw[bh]at f;cases f
     have b84:=a56.symm;have a86:v≠z:=abE;have b85:=a86.symm;have b86:=a84.symm;clear a84;refine aa ?_;have a88:bq (l4.set z (.cells (ab u L P S))) h C a81:=n2.set j9;have b34:=ξ l4 z (.cells (ab u L P S));have b35:(l4.set z (.cells (ab u L P S))) v=β (.cells [.ptr h 0,.v (.int .i64 (a))]):=by rw[ο _ _ a86];exact t _ _ Z.1 Z.2 a09
     have a89:(l4.set z (.cells (ab u L P S))) w=β (.cells (ab az .nil .nil .nil)):=by rw[ο _ _ b31];exact t _ _ d.1 d.2 a71
     have a90:=(a68.trans t).ee (Y:=.cells (ab u L P S)) n3;generalize l4.set z _=b36 at*;have b87:=κ b35;have b88:=κ b34;have b37:=χ a89;refine aF (λa10=>?_) λa10=>?_
     .rw[if_pos a10]at s;refine ah (GI b36 h C a81 a88 u L P S l5 a83 a k5 O dep δ δ) ?_;rintro Q b89⟨b38,a92,a94⟩;obtain⟨b00,k8,k9,l0,l1,l2,rfl⟩:=a94.shape;have b37:=χ (a92 _ _ d.1 d.2 a89);have b01:=(aP (N:=k8) (e6:=k9) (h6:=l0) l2).all;have B:=cx (a:=.nil) (b:=.nil) (c:=.nil) (N:=k8) (e6:=k9) (h6:=l0) bl l2;refine aa ?_;refine⟨_,θ,?_⟩;rw[<-s];exact⟨b38.set d,(a90.trans a92).ee m,a94⟩
     .rw[if_neg a10]at s;have B:=cx (a:=.nil) (b:=.nil) (c:=.nil) (N:=L) (e6:=P) (h6:=S) bl l5;refine⟨_,θ,?_⟩;rw[<-s];exact⟨a88.set d,a90.ee m,l5,a83,_,_,_,rfl⟩
def GN(o:Except Int ao)(h:R):Prop:=
 match o with
 |.error k=>k≠0/\∃a b c d,α a.sum=32/\h=.aJ [.agg (ab a b c d),.v (.int .i64 k)]
 |.ok a=>α a.sum=32/\a.cC/\∃b c d,h=.aJ [.agg (ab a b c d),.v (.int .i64 0)]
def gX.x{a:Except Int ao}(b:gX a n):GN a n:=by
 cases a with
 |error c=>exact⟨b.1,az,_,_,_,bl,b.2⟩
 |ok d=>exact b
def zL(h a:U)(b c:Nat)(d:Except Int ao×af)(k:R):Prop:=bq a b c d.2/\Ext b c h a/\GN d.1 k
def gH(b:Nat)(h:Ω):Nat->af->ao->Nat->Except Int ao×af
 |0,a,_,_=>(.error 21,a)
 |p+1,a,r,dep=>if r=az then(.error 9,a)else match kW a b r with
  |none=>(.error 21,a)
  |some (d,bF)=>if d.1=h then(if d.2=η then dF a b (ck (d.1,ι) (bF.getD 0 az) (bF.getD 1 az))else(.error 9,a))
   else if cI (dep%b) h d.1<0 then match gH b h p a (bF.getD 0 az) (dep+1)with
    |(.error k,c)=>(.error k,c)
    |(.ok o,c)=>dF c b (ck d o (bF.getD 1 az))
   else match gH b h p a (bF.getD 1 az) (dep+1)with
    |(.error k,c)=>(.error k,c)
    |(.ok o,c)=>dF c b (ck d (bF.getD 0 az) o)
set_option maxHeartbeats 1600000 in
theorem GO(k T:Nat)(b:Nat)(k5:1<=b)(Q:b<=8)(c:Ω)(f:Own)(l9:α c=b):∀(z:Nat)(V:U)(o:af)(_:bq V k T o)(d:ao)(C D E:Own)(dep:Nat),α d.sum=32->d.cC->d.size.toNat<z->dep+z<=4000000->
  AC γ 170 [dO k b,.agg (ab d C D E),.J (ad c) f,.v (.int .i64 (dep:Int))] V λX p=>zL V p k T (gH b c z o d dep) X
 |0,V,o,W,d,C,D,E,dep,fk,Y,a29,a30=>by omega
 |z+1,V,o,W,d,C,D,E,dep,fk,Y,a29,a30=>by
  have b12:=(aP (N:=C) (e6:=D) (h6:=E) fk).all;have a:=(gH.eq_2 b c o d dep z).symm;generalize gH b c (z+1) o d dep=n0 at*;refine aK hm Qb ?_;refine bs λB a34=>?_;refine dd λH a36 b13 b14=>?_;refine hd λs t a3 a4 a5 dy=>?_;generalize I:((V.set B _).set H _).set s _=g;have u:V.sub g:=by subst I;exact aO
  have aL:g B=β (.cells [.ptr k 0,.v (.int .i64 (b))]):=by subst I;exact aO
  have bh:g H=β (.cells (ab d C D E)):=by subst I;exact aO
  have bw:g s=β (.cells (ab az .nil .nil .nil)):=by subst I;rw[<-ch];exact aO
  clear I;have b15:=κ aL;have b16:=κ bh;have Z:=W.mono u;have n1:=W.cA a34;have n2:=W.cA a36;have G:=W.cA t;by_cases K:d=az
  .subst K;refine bp (mB az C D E g fk λ_=>Y) ?_;have j9:=χ bw;have k0:=cx (a:=.nil) (b:=.nil) (c:=.nil) (N:=C) (e6:=D) (h6:=E) bl fk;have i:=(aP (N:=.nil) (e6:=.nil) (h6:=.nil) bl).len;rw[if_pos rfl]at a;refine aa ?_;refine⟨_,θ,?_⟩;rw[<-a];exact⟨Z.set G,(Α u).ee t,Θ,az,_,_,_,fk,rfl⟩
  rw[if_neg K]at a;refine bp (mB d C D E g fk λ_=>Y) ?_;generalize n3:c3 (Ctx.of γ) (eC.seq (eC.block 0 _) _)=b17;refine ah (zt g k T o Z d C D E fk Y b k5 Q) ?_;rintro X n4⟨j,k1⟩;cases k6:kW o b d with
  |none=>
   rw[k6]at k1 a;obtain rfl:=k1
   dsimp only at a
   refine aa ?_;refine aN λL F=>?_;have a38:L≠s:=by rintro rfl;rw[j _ _ bw]at F;cases F
   have b18:=a38.symm;have j9:=χ (j _ _ bw);subst n3;have i:=(aP (N:=.nil) (e6:=.nil) (h6:=.nil) bl).len;have k0:=cx (a:=.nil) (b:=.nil) (c:=.nil) (N:=.nil) (e6:=.nil) (h6:=.nil) bl bl;refine aa ?_;refine⟨_,θ,?_⟩;rw[<-a,ch,Φ (by rw[i];omega)];exact⟨((Z.mono j).mono (μ θ F)).set G,(((Α u).trans (Α j)).trans (Α (μ θ F))).ee t,Θ,az,_,_,_,bl,rfl⟩
  |some a42=>
   obtain⟨h,b19⟩:=a42;rw[k6]at k1 a;obtain⟨r,b20,rfl,b21,b22,a43,a47⟩:=k1;obtain⟨k2,cj,rfl,b23,b24,b25,b26,a48,b27⟩:=vS k6;obtain⟨M,b28,x,rfl,l,n5,P⟩:=jy.of a43 a47;refine aa ?_;refine aN λL F=>?_;refine aa ?_;have n9:=μ (Y:=.cells [.J (ad h.1) r,.v (.bool h.2)]) (θ) F;have cg:=ξ n4 L (.cells [.J (ad h.1) r,.v (.bool h.2)]);have N:=π j n9;have k7:=N _ _ aL;have a00:=N _ _ bh;have k8:=N _ _ bw;have a01:=n9 _ _ n5;have k9:=Z.mono N;have l0:=(Α (l:=k) (lM:=T) u).trans (Α N);have l1:=Ο u (Ο j F);have l2:=Ο u l;have b29:M≠L:=by rintro rfl;rw[n5]at F;cases F
   generalize n4.set L _=v at*;subst n3;refine pJ [2,3,4,5,8,10,11] (λ_:(Ω×Bool)×ao×ao×af=>[]) (λS p=>dF S.2.2.2 b (ck S.1 S.2.1 S.2.2.1)=n0/\bq p k T S.2.2.2/\Ext k T V p/\(∃r,p L=β (.cells [.J (ad S.1.1) r,.v (.bool S.1.2)]))/\(∃x,p M=β (.cells x)/\jy x S.2.1 S.2.2.1)/\p B=β (.cells [.ptr k 0,.v (.int .i64 (b))])/\p H=β (.cells (ab d C D E))/\p s=β (.cells (ab az .nil .nil .nil))) ?_ ?_
   .have a52:=κ cg;have a56:=κ k7;refine aa ?_;simp only[a7W,a7Z]at a;have b30:=cg;by_cases l3:h.1=c
    .rw[if_pos l3]at a;refine bp (kH h.1 c r f v δ) ?_;cases a02:h.2 with
     |false=>rw[if_neg (by rw[a02];decide)]at a;have i:=(aP (N:=.nil) (e6:=.nil) (h6:=.nil) bl).len;have k0:=cx (a:=.nil) (b:=.nil) (c:=.nil) (N:=.nil) (e6:=.nil) (h6:=.nil) bl bl;have j9:=χ k8;refine aa ?_;refine⟨_,θ,?_⟩;rw[<-a,ch,Φ (by rw[i];omega)];exact⟨k9.set G,l0.ee t,Θ,az,_,_,_,bl,rfl⟩
     |true=>
      rw[if_pos a02]at a;refine aa ?_;refine bp (kH c c r f v δ) ?_;have b31:=χ cg;refine aa ?_;have a57:B≠L:=by grind
      have a61:H≠L:=by grind
      have a62:s≠L:=by rintro rfl;exact absurd (j _ _ bw) (by rw[F];simp)
      refine⟨((h.1,ι),k2,cj,o),a,k9.set (W.cA l1),l0.ee l1,⟨r,by rw[l3]⟩,⟨x,rfl,P⟩,?_,?_,?_⟩
      .rw[ο _ _ a57];exact k7
      .rw[ο _ _ a61];exact a00
      .rw[ο _ _ a62];exact k8
    .rw[if_neg l3]at a;refine bp (kH h.1 c r f v δ) ?_;refine bp (kH h.1 c r f v δ) ?_;obtain⟨y,e,b32,a63,a03,a65⟩:∃(y:Nat)(e:ao),y<2/\(if cI (dep%b) c h.1<0 then(0:Int)else 1)=(y:Int)/\(e.size.toNat<z/\α e.sum=32/\e.cC)/\
       (match gH b c z o e (dep+1)with
        |(.error l4,O)=>(.error l4,O)
        |(.ok K,O)=>dF O b (ck h (if y=0 then K else k2) (if y=0 then cj else K)))=n0/\∃m n q,aM η 37 (x.drop (y*37))=.agg (ab e m n q):=by
      obtain⟨m,n,q,l5,l6,l7,a04,a05,_⟩:=P.ld;by_cases x:cI (dep%b) c h.1<0
      .rw[if_pos x]at a;exact⟨0,k2,δ,by rw[if_pos x];rfl,⟨δ,P.bZ,P.qh⟩,a,m,n,q,a04⟩
      .rw[if_neg x]at a;exact⟨1,cj,δ,by rw[if_neg x];rfl,⟨δ,P.cr,P.hF⟩,a,l5,l6,l7,a05⟩
     obtain⟨a,m,n,q,b33⟩:=a65;obtain⟨a68,a69,a71⟩:=a03;have a06:=Fz c h.1 f r k b dep δ Q δ l9 a48 v;rw[a63]at a06;have a73:=κ a01;have a74:=P.len;refine bp a06 ?_;have a81:(dep)+1=((dep+1:Nat):Int):=rfl;rw[a81];refine ah (GO k T b k5 Q c f l9 z v o k9 e m n q (dep+1) a69 a71 a68 δ) ?_;rintro X b34⟨k3,w,a07⟩;have k4:=W.cA l2;have a08:=W.cA l1;have b35:=w _ _ n1.1 n1.2 k7;have b36:=w _ _ n2.1 n2.2 a00;have a83:=w _ _ G.1 G.2 k8;have a84:=w _ _ k4.1 k4.2 a01;have b37:=w _ _ a08.1 a08.2 cg;have j9:=χ a83;have b38:=χ a84;have a09:=l0.trans w;have a86:M≠s:=by rintro rfl;rw[bw]at l;cases l
     have b39:=a86.symm;have b40:B≠M:=by rintro rfl;rw[aL]at l;cases l
     have b41:H≠M:=by rintro rfl;rw[bh]at l;cases l
     have i:=(aP (N:=.nil) (e6:=.nil) (h6:=.nil) bl).all;have b42:y*37+37<=α x:=δ;generalize b43:gH b c z o e (dep+1)=a88 at*;obtain⟨py,a89⟩:=a88;cases py with
     |error l4=>
      obtain⟨a90,b44,a92,a94,a95,a96,rfl⟩:=a07
      dsimp only at a k3
      have k0:=cx (a:=.nil) (b:=.nil) (c:=.nil) (N:=.nil) (e6:=.nil) (h6:=.nil) bl bl;have b45:=(aP (N:=a92) (e6:=a94) (h6:=a95) a96).all;refine aa ?_;refine⟨_,θ,?_⟩;rw[<-a,ch,Φ (by rw[i.1];omega)];exact⟨(k3.set k4).set G,(a09.ee l2).ee t,a90,az,_,_,_,bl,rfl⟩
     |ok a10=>
      obtain⟨l8,a11,a97,a98,a99,rfl⟩:=a07
      dsimp only at a k3
      have a03:=(aP (N:=a97) (e6:=a98) (h6:=a99) l8).all;refine aa ?_;refine⟨(h,(if y=0 then a10 else k2),(if y=0 then cj else a10),a89),a,k3.set k4,a09.ee l2,⟨r,rfl⟩,_,rfl,?_⟩;obtain rfl|rfl:y=0\/y=1:=δ
      .exact P.GK l8 a11
      .exact P.GL l8 a11
   .rintro⟨b00,b01,b02,O⟩ p ⟨b03,b04,b05,⟨b06,b07⟩,⟨b46,b08,A⟩,b09,b47,b10⟩ b48
    dsimp only at*
    have a52:=κ b07;have a56:=κ b09;have a73:=κ b08;obtain⟨m,n,q,l5,l6,l7,a04,a05,b49,b50⟩:=A.ld;have a74:=A.len;refine aa ?_;have a13:=vL p k T O b04 b00 b01 b02 b06 m n q l5 l6 l7 b k5 Q A.bZ A.cr A.qh A.hF;refine ah a13 ?_;clear a13;rintro X b51⟨b11,a14,a15⟩;have j9:=χ (a14 _ _ G.1 G.2 b10);obtain⟨b52,a16,a18,a19,l4,a27,rfl⟩:=a15.shape;have b53:=(aP (N:=a16) (e6:=a18) (h6:=a19) a27).all;have i:=(aP (N:=.nil) (e6:=.nil) (h6:=.nil) bl).len;have k0:=cx (a:=.nil) (b:=.nil) (c:=.nil) (N:=a16) (e6:=a18) (h6:=a19) bl a27;refine aa ?_;refine⟨_,θ,?_⟩;rw[<-b03];exact⟨b11.set G,(b05.trans a14).ee t,a15.x⟩
def a3K(b:Int)(a:Ω)(d:R)(k:isRow a d)(c:U)(h:Nat)(r:c.read h=β [.v (.int .i64 b)]):
  AC γ 219 [d,.ptr h 0] c λo p=>p=c/\o=.v (.bool (!decide ((α a:Int)=b))):=by
 obtain⟨x,rfl⟩:=k;have y:=bN (q:=a);by_cases z:(α a)=b
 .refine aK hm Cl ?_
  repeat' first|refine aF (λ_=>?_) λ_=>?_|trivial
 .refine aK hm Cl ?_
  repeat' first|refine aF (λ_=>?_) λ_=>?_|trivial
theorem GP(a:Nat)(b:List Ω)(d:ύ)(r:Own)(h:U)(o:aB isRow b d)(x:α b<=1000000000000)(F:1<=a)(G:a<=8)(L:∀c∈b,α c=a):
  AC γ 167 [.v (.int .i64 (a:Int)),.J d r] h λc k=>k=h/\c=.v (.bool η):=by
 have P:(1)<=(a:Int):=δ;have S:(a:Int)<=8:=δ;refine aK hm Q5 ?_;refine bs λp y=>?_;have T:=μ (Y:=.cells [.v (.int .i64 (a))]) (θ) y;have c2:=ξ h p (.cells [.v (.int .i64 (a))]);refine ah (EC b d _ _ o (bO.J (o.cells λ_ _=>φ)) x (b4:=219) ⟨by rfl,λz C k D E=>a3K a z C D k p (κ (E _ _ c2))⟩) ?_;rintro _ _⟨rfl,rfl⟩;have:b.any (λc=> !decide ((α c)=(a:Int)))=false:=by simp_all
 rw[this];exact aO
def rI(b:Nat)(c:Ω)(d:af)(a:ao):Except Int ao×af:=kj b c (a.size.toNat+1) d a 0
def a3L(c:U)(k y:Nat)(z:af)(D:bq c k y z)(a:ao)(o p r:Own)(E:α a.sum=32)(n:a.cC)(v:a.size<=2000000)(d:Ω)(F:Own)(b:Nat)(G:1<=b)(L:b<=8)(P:α d=b):
  AC γ 105 [.ptr k 0,.agg (ab a o p r),.J (ad d) F,.v (.int .i64 (b:Int))] c λS q=>p4 c q k y (rI b d z a) S:=by
 have w:=(aP (N:=o) (e6:=p) (h6:=r) E).all;refine aK hm Om ?_;refine bs λT A=>?_;refine dd λV W B H=>?_;refine uJ λs I _ _ _ _=>?_;generalize x:((c.set T _).set V _).set s _=h;have e:c.sub h:=by subst x;exact aO
 have bh:h T=β (.cells (ab a o p r)):=by subst x;exact aO
 have bw:h V=β (.cells (ab az .nil .nil .nil)):=by subst x;rw[<-ch];exact aO
 clear x;have t:=D.mono e;have C:=D.cA W;have K:=κ bh;refine bp (GP b [d] _ _ h ⟨⟨_,rfl⟩,trivial⟩ ς G L (by simp[P])) ?_;refine ah (GM k y b G L d F P (a.size.toNat+1) h z t a o p r 0 E n δ δ) ?_;rintro S M⟨u,f,g⟩;obtain⟨N,i,j,l,O,m,rfl⟩:=g.shape;have Q:=χ (f _ _ C.1 C.2 bw);have X:=(aP (N:=i) (e6:=j) (h6:=l) m).all;have Y:=(aP (N:=.nil) (e6:=.nil) (h6:=.nil) bl).len;have Z:=cx (a:=.nil) (b:=.nil) (c:=.nil) (N:=i) (e6:=j) (h6:=l) bl m;refine aa ?_;refine⟨_,θ,?_⟩;exact⟨u.set C,((Α e).trans f).ee W,g⟩
theorem a3M{h:af}{k:Ω×Bool}{b:ao}(a:dF B e (ck k j2 b)=(.ok A,h)):0<=A.live/\A.live<=3000000:=by
 unfold dF at a;split at a
 .simp_all
 .rename_i p o;simp only[a8x,Except.ok.injEq]at a;obtain⟨rfl,_⟩:=a;have c:=vl o;have d:=tA c.ok;have r:=rh (d j2 (by simp[ck]));have x:=rh (d b (by simp[ck]));rw[c.eq];grind[fr,eJ,ck,eD,dW]
variable{q b7:Ω}
theorem a3N:∀ {h:Nat}{c a:af}{d b:ao}{dep:Nat},gH e q h c d dep=(.ok b,a)->∃o p r x,dF o e (ck p r x)=(.ok b,a)
 |0,c,a,d,b,dep,k=>by rw[gH]at k;simp_all
 |h+1,c,a,d,b,dep,k=>by
  grind[gH,Prod.mk.inj]
def jz(c:Nat)(h:Ω)(k:af)(d:ao):Except Int ao×af:=
 match gH c h (d.size.toNat+1) k d 0 with
 |(.error o,a)=>(.error o,a)
 |(.ok b,a)=>if 2*b.live<b.size then mM a c b 0 else(.ok b,a)
def a3O(S:U)(h T:Nat)(x:af)(e:bq S h T x)(b:ao)(C D E:Own)(f:α b.sum=32)(l8:b.cC)(a13:b.size<=2000000)(k:Ω)(O:Own)(a:Nat)(t:1<=a)(u:a<=8)(Q:α k=a):
  AC γ 107 [.ptr h 0,.agg (ab b C D E),.J (ad k) O,.v (.int .i64 (a:Int))] S λv l9=>zL S l9 h T (jz a k x b) v:=by
 have a14:=(aP (N:=C) (e6:=D) (h6:=E) f).all;refine aK hm Ot ?_;refine bs λd w=>?_;refine dd λF g a15 a16=>?_;refine uJ λn0 a18 _ _ _ _=>?_;generalize i:((S.set d _).set F _).set n0 _=G;have X:S.sub G:=by subst i;exact aO
 have bh:G d=β (.cells (ab b C D E)):=by subst i;exact aO
 have bw:G F=β (.cells (ab az .nil .nil .nil)):=by subst i;rw[<-ch];exact aO
 clear i;refine bp (GP a [k] _ _ G ⟨⟨_,rfl⟩,trivial⟩ ς t u (by simp[Q])) ?_;refine aN λy L=>?_;have Y:d≠y:=by rintro rfl;rw[bh]at L;cases L
 have n1:=Y.symm;have Z:F≠y:=by rintro rfl;rw[bw]at L;cases L
 have a19:=Z.symm;have n2:=Ο X L;have a27:=κ bh;refine aa ?_;have A:=μ (Y:=.cells [.ptr h 0,.v (.int .i64 (a))]) (θ) L;have j9:=π X A;have k0:=A _ _ bh;have n3:=A _ _ bw;have k1:=ξ G y (.cells [.ptr h 0,.v (.int .i64 (a))]);generalize G.set y _=n4 at*;have n5:=e.mono j9;have a29:=κ k0;have a30:=κ k1;have j:=e.cA w;have z:=e.cA g;have k2:=e.cA n2;refine ah (GO h T a t u k O Q (b.size.toNat+1) n4 x n5 b C D E 0 f l8 δ δ) ?_;rintro v V⟨l,m,k3⟩;have n9:=m _ _ j.1 j.2 k0;have k4:=m _ _ z.1 z.2 n3;have a00:=m _ _ k2.1 k2.2 k1;have a34:=χ n9;have a36:=χ k4;have a38:=(aP (N:=.nil) (e6:=.nil) (h6:=.nil) bl).len;have c:jz a k x b=match gH a k (b.size.toNat+1) x b 0 with
  |(.error B,n)=>(.error B,n)
  |(.ok q,n)=>if 2*q.live<q.size then mM n a q 0 else(.ok q,n):=rfl
 generalize jz a k x b=a42 at c|-;have a01:d≠F:=abE;have a02:=a01.symm;have Y:d≠y:=abE;have Z:F≠y:=abE;generalize a03:gH a k (b.size.toNat+1) x b 0=a04 at*;obtain⟨py,k5⟩:=a04;have k6:=(Α j9).trans m;cases py with
 |error B=>
  obtain⟨a05,a06,H,I,K,s,rfl⟩:=k3
  dsimp only at c l
  have M:=cx (a:=C) (b:=D) (c:=E) (N:=H) (e6:=I) (h6:=K) f s;have a43:=cx (a:=.nil) (b:=.nil) (c:=.nil) (N:=H) (e6:=I) (h6:=K) bl s;have a47:=(aP (N:=H) (e6:=I) (h6:=K) s).all;replace c:=c.symm;refine aa ?_;refine⟨_,θ,?_⟩;rw[<-c];exact⟨(l.set j).set z,(k6.ee w).ee g,a05,a06,_,_,_,s,rfl⟩
 |ok P=>
  obtain⟨W,k7,o,p,r,rfl⟩:=k3
  dsimp only at c l
  obtain⟨_,_,_,_,k8⟩:=a3N a03;obtain⟨a48,a52⟩:=a3M k8;have a56:=(GJ k8).2.2.2;have M:=cx (a:=C) (b:=D) (c:=E) (N:=o) (e6:=p) (h6:=r) f W;have a57:=(aP (N:=o) (e6:=p) (h6:=r) W).all;replace c:=c.symm;refine aa ?_;have k9:bq (V.set d (.cells (ab P o p r))) h T k5:=l.set j;have a07:=ξ V d (.cells (ab P o p r));have l0:(V.set d (.cells (ab P o p r))) F=β (.cells (ab az .nil .nil .nil)):=by rw[ο _ _ a02];exact k4
  have a08:(V.set d (.cells (ab P o p r))) y=β (.cells [.ptr h 0,.v (.int .i64 (a))]):=by rw[ο _ _ n1];exact a00
  have l1:=k6.ee (Y:=.cells (ab P o p r)) w;generalize V.set d _=a09 at*;have a61:=κ a07;have a62:=κ a08;have a10:=χ l0;refine aF (λN=>?_) λN=>?_
  .rw[if_pos N]at c;refine ah (GI a09 h T k5 k9 P o p r W k7 a t u 0 δ δ) ?_;rintro v a63⟨a11,l2,l3⟩;obtain⟨a65,l4,l5,l6,B,l7,rfl⟩:=l3.shape;have a10:=χ (l2 _ _ z.1 z.2 l0);have a68:=(aP (N:=l4) (e6:=l5) (h6:=l6) l7).all;have M:=cx (a:=.nil) (b:=.nil) (c:=.nil) (N:=l4) (e6:=l5) (h6:=l6) bl l7;refine aa ?_;refine⟨_,θ,?_⟩;rw[<-c];exact⟨a11.set z,(l1.trans l2).ee g,l3.x⟩
  .rw[if_neg N]at c;have M:=cx (a:=.nil) (b:=.nil) (c:=.nil) (N:=o) (e6:=p) (h6:=r) bl W;refine⟨_,θ,?_⟩;rw[<-c];exact⟨k9.set z,l1.ee g,W,k7,_,_,_,rfl⟩
end Go.Proofs.YtcfpcblgmmeioaaGreat
namespace Go.bD
open Go
end Go.bD
namespace Go.Proofs.YtcfpcblgmmeioaaGreat
open Go Go.bD
theorem a3P:cR ([],[]) ([],[])=(([],[]):Ω×Ω):=rfl
variable{e i v M b9 j1:Nat}
theorem GQ{a:Ω×Ω}(b:hr e a):cR a ([],[])=a:=by have c:=lI.1 b.ok;have d:cQ ([]) [] ([]:Ω).length=false:=rfl;unfold cR;rw[c.2.2.1,if_pos b.ok,if_neg (by rw[d];simp)]
def aC.rows:aC->List Ω
 |.nil=>[]
 |.node a _ b c=>a::(b.rows++c.rows)
theorem aC.gI:∀ {c:aC}{b:Ω},b∈c.all->b∈c.rows
 |.nil,b,a=>a
 |.node d live h k,b,a=>by
  simp only[aC.all,a7z]at a;simp only[aC.rows,a7J,a7z];rcases a with (a|a)|a
  .exact .inr (.inl (aC.gI a))
  .exact .inr (.inr (aC.gI a))
  .cases live<;>simp at a;exact .inl a
def aC.c9(a:Nat)(b:aC):Prop:=∀c∈b.rows,bQ a c
def aC.c9.a{a:Nat}{c:Ω}{d:Bool}{b h:aC}(k:(aC.node c d b h).c9 a):b.c9 a:=λo p=>k o (by simp[aC.rows,p])
def aC.c9.b{a:Nat}{c:Ω}{d:Bool}{h b:aC}(k:(aC.node c d h b).c9 a):b.c9 a:=λo p=>k o (by simp[aC.rows,p])
def aC.c9.r{b:Nat}{a:Ω}{c:Bool}{d h:aC}(k:(aC.node a c d h).c9 b):bQ b a:=k a (by simp[aC.rows])
variable{I:Bool}{a8:aC}{q b7:Ω}
def aC.c9.mk{b:aC}(d:bQ e q)(h:a8.c9 e)(k:b.c9 e):(aC.node q I a8 b).c9 e:=λc a=>by
 simp only[aC.rows,a7J,a7z]at a;rcases a with rfl|a|a
 .exact d
 .exact h c a
 .exact k c a
theorem aC.c9.ok{b:Nat}:∀ {c:aC},c.c9 b->c.Ok b
 |.nil,_=>trivial
 |.node _ _ _ _,a=>⟨a.r.len,a.a.ok,a.b.ok⟩
def bg:aC->ao
 |.nil=>az
 |.node a live b c=>fr (ck (a,live) (bg b) (bg c))
structure jE(d:Nat)(t:aC)(k:ao):Prop where
 sum:α k.sum=32
 live:k.live=(α t.all:Int)
 size:k.size=(t.size:Int)
 aR:(α t.all=0/\k.aT=[]/\k.aS=[])\/(0<α t.all/\hr d (k.aT,k.aS))
 key:k.key=[]
 z:t=.nil->k=az
theorem jE.ok{c:Nat}{a:aC}{d:ao}(b:jE c a d)(y:a.size<=1048576):fq c d=true:=by
 have z:=b.size;have C:=b.live;have D:=lK a;unfold fq;cases a with
 |nil=>rw[decide_eq_true (b.z rfl),Bool.true_or]
 |node h k o p=>
  have E:1<=(aC.node h k o p).size:=by simp only[Κ];omega
  generalize aC.node h k o p=a at*;rw[a8Z];right;rw[Υ];refine⟨Μ,?_⟩;rcases b.aR with⟨x,r,F⟩|⟨x,r⟩;grind
  .rw[if_neg δ];exact r.ok
variable{A j2:ao}
theorem jE.kR(a:jE e a8 A)(p:a8.size<=1048576):A.In e:=by
 have r:=a.size;have x:=a.live;have y:=lK a8;have b:dk A.aT/\dk A.aS/\α A.aT<=e/\α A.aS<=e:=by
  rcases a.aR with⟨h,c,z⟩|⟨h,c⟩;grind
  .have d:=lI.1 c.ok;have C:α A.aT=e:=d.2.2.1;have D:α A.aS=e:=d.2.2.2.1;exact⟨c.aT,c.aS,δ,δ⟩
 have k:dk A.key:=by rw[a.key];intro E o;cases o
 exact⟨a.sum,b.1,b.2.1,k,b.2.2.1,b.2.2.2,by rw[a.key];simp,δ,δ,δ,δ⟩
theorem zM{a:gS}(d:mF i e a)(k:jE i a8 A):mF i (e+α a8.all) (eD a A):=by
 have o:(eD a A).live=((e+α a8.all:Nat)):=by show a.live+A.live= _;rw[d.live,k.live];push_cast;rfl
 refine⟨o,?_⟩;show(e+α a8.all=0/\cR a.aR (A.aT,A.aS)=([],[]))\/(0<e+α a8.all/\hr i (cR a.aR (A.aT,A.aS)));rcases k.aR with⟨p,b,r⟩|⟨p,b⟩
 .rw[b,r];rcases d.aR with⟨h,c⟩|⟨h,c⟩;grind[a3P];grind[GQ]
 .right;refine⟨δ,?_⟩;rcases d.aR with⟨h,c⟩|⟨h,c⟩
  .rw[c,q4 b];exact b
  .exact yL c b
def a3Q:jE e .nil az:=⟨rfl,rfl,rfl,.inl ⟨rfl,rfl,rfl⟩,rfl,λ_=>rfl⟩
def vT(C:1<=e)(D:e<=8){a:aC}(k:bQ e q)(b:jE e a8 A)(c:jE e a j2)(T:a8.size+a.size<1048576):
  (ck (q,I) A j2).In e/\jE e (.node q I a8 a) (fr (ck (q,I) A j2))/\fP e (ck (q,I) A j2)=β (fr (ck (q,I) A j2)):=by
 have p:dV e (ck (q,I) A j2)=true:=by unfold dV ck;simp[k.len,b.ok δ,c.ok δ,b.key,c.key]
 have r:=yM C D k;have E:mF e (if I=η then 1 else 0) (dW ⟨0,1,([],[])⟩ (q,I)):=by
  cases I with
  |false=>exact⟨rfl,.inl ⟨rfl,rfl⟩⟩
  |true=>refine⟨rfl,.inr ⟨Θ,?_⟩⟩;show hr e (cR ([],[]) (gy q));rw[q4 r];exact r
 have o:=zM (zM E b) c;have x:eJ (ck (q,I) A j2)=eD (eD (dW ⟨0,1,([],[])⟩ (q,I)) A) j2:=rfl;have F:(aC.node q I a8 a).all.length=(if I=η then 1 else 0)+α a8.all+α a.all:=by simp only[aC.all,Ψ];split<;>simp<;>omega
 rw[<-x,<-F]at o;have y:(eJ (ck (q,I) A j2)).size=((aC.node q I a8 a).size):=by
  rw[x];have d:(dW ⟨0,1,([],[])⟩ (q,I)).size=1:=by cases I<;>rfl
  show(dW ⟨0,1,([],[])⟩ (q,I)).size+A.size+j2.size= _;rw[d,b.size,c.size,Κ];push_cast;rfl
 refine⟨⟨p,λG L=>?_,λz P=>?_⟩,⟨oF _,o.live,y,?_,?_,λS=>by cases S⟩,?_⟩
 .obtain rfl:G=(q,I):=by simpa[ck] using L
  exact k.kP
 .have:z=A\/z=j2:=by simpa[ck] using P
  rcases this with rfl|rfl
  .exact b.kR δ
  .exact c.kR δ
 .rcases o.aR with⟨d,h⟩|⟨d,h⟩
  .left;refine⟨d,?_,?_⟩
   .show(eJ _).aR.1=[];rw[h]
   .show(eJ _).aR.2=[];rw[h]
  .exact .inr ⟨d,h⟩
 .show keyOf (ck (q,I) A j2)=[];unfold keyOf ck;rfl
 .unfold fP;rw[if_pos p,if_neg (by rw[y];simp only[Κ];omega)]
def eG{a:Nat}(c:1<=a)(d:a<=8):∀ {b:aC},b.c9 a->b.size<=1048576->jE a b (bg b)
 |.nil,_,_=>a3Q
 |.node o live p r,h,k=>by
  simp only[Κ]at k;exact(vT c d h.r (eG c d h.a δ) (eG c d h.b δ) δ).2.1
def dn(a:af):aC->Prop
 |.nil=>True
 |.node d live b c=>a.m (eb (cH (ck (d,live) (bg b) (bg c))))=β (cH (ck (d,live) (bg b) (bg c)))/\dn a b/\dn a c
def dn.mono{c d:af}(a:c.le d):∀ {h:aC},dn c h->dn d h
 |.nil,_=>trivial
 |.node _ _ _ _,b=>⟨a.m _ _ b.1,b.2.1.mono a,b.2.2.mono a⟩
def vU(c:1<=e)(d:e<=8){a:aC}(h:(aC.node q I a8 a).c9 e)(k:(aC.node q I a8 a).size<=1048576):bg (.node q I a8 a)≠az:=λo=>by
 have b:=(eG c d h k).size;rw[o]at b;have:(az).size=0:=rfl;simp only[Κ]at b;omega
variable{B:af}
def qi(b:1<=e)(c:e<=8){a:aC}(d:(aC.node q I a8 a).c9 e)(h:(aC.node q I a8 a).size<=1048576)(k:dn B (.node q I a8 a)):de B e (bg (.node q I a8 a))=β (ck (q,I) (bg a8) (bg a)):=by have o:=h;simp only[Κ]at o;obtain⟨p,x,r⟩:=vT (I:=I) b c d.r (eG b c d.a δ) (eG b c d.b δ) δ;unfold de;rw[show B.m (bg (.node q I a8 a)).sum=β (cH (ck (q,I) (bg a8) (bg a)))from k.1];simp only;rw[E1 δ p];simp only;rw[r];exact if_pos rfl
def vV(b:1<=e)(c:e<=8){a:aC}(d:(aC.node q I a8 a).c9 e)(h:(aC.node q I a8 a).size<=1048576)(k:dn B (.node q I a8 a)):kW B e (bg (.node q I a8 a))=β ((q,I),[bg a8,bg a]):=by unfold kW;rw[qi b c d h k];rfl
theorem zN{b:Nat}(c:1<=b)(d:b<=8){x:af}:∀ {a:aC}{z:Nat},a.c9 b->a.size<=1048576->dn x a->a.size<z->∃y,gf x b z (bg a)=β y/\y.Perm a.all
 |a,0,_,_,_,C=>by omega
 |.nil,z+1,_,_,_,_=>⟨[],by rw[gf];rfl,.refl _⟩
 |.node E live h k,z+1,o,p,r,C=>by
  have F:=eG c d o p;have G:=p;simp only[Κ]at G C;rw[gf];by_cases D:(bg (.node E live h k)).live=0
  .rw[if_pos D];have S:=F.live;simp_all
  .rw[if_neg D,vV c d o p r];obtain⟨T,L,V⟩:=zN c d (z:=z) o.a δ r.2.1 δ;obtain⟨W,P,e⟩:=zN c d (z:=z) o.b δ r.2.2 δ
   dsimp only
   rw[show [bg h,bg k].getD 0 az=bg h from rfl,show [bg h,bg k].getD 1 az=bg k from rfl,L,P];refine⟨_,rfl,?_⟩;grind[aC.all,List.append_assoc]
def a3R(a:1<=e)(b:e<=8)(c:a8.c9 e)(d:a8.size<=1048576)(k:dn B a8):∃h,gf B e ((bg a8).size.toNat+1) (bg a8)=β h/\h.Perm a8.all:=by have o:=(eG a b c d).size;exact zN a b c d k δ
structure gj(a:af)(t:aC)(r:Except Int ao×af):Prop where
 le:a.le r.2
 ins:r.2.one=ι->r.1=.ok (bg t)/\dn r.2 t
def gj.bind{o:aC}{h:Except Int ao×af}{k:ao->af->Except Int ao×af}(c:gj B a8 h)(p:∀(b:ao) (a:af),a.le (k b a).2)(y:∀a,B.le a->a.one=ι->dn a a8->gj a o (k (bg a8) a)):
  gj B o (match(generalizing:=false) h with
   |(.error r,a)=>(.error r,a)
   |(.ok b,a)=>k b a):=by
 obtain⟨z,a⟩:=h;cases z with
 |error r=>exact⟨c.le,λd=>by cases (c.ins d).1⟩
 |ok b=>refine⟨c.le.trans (p b a),λd=>?_⟩;have x:=(p b a).zero d;obtain⟨C,D⟩:=c.ins x;obtain rfl:=Except.ok.inj C;exact(y a c.le x D).ins d
theorem vW(c:Nat):∀(k:Nat)(d:af)(b:List Ω)(dep:Nat),d.le (jb c k d b dep).2
 |0,d,_,_=>af.le_refl
 |k+1,d,b,dep=>by
  rw[jb];split
  .exact af.le_refl
  have h:=vW c k d ((ei (dep%c) b).take (α b/2)) (dep+1);split
  .rename_i a;rw[a]at h;exact h
  rename_i r p a;rw[a]at h;have o:=vW c k p ((ei (dep%c) b).drop (α b/2+1)) (dep+1);split
  .rename_i a;rw[a]at o;exact h.trans o
  rename_i x y a;rw[a]at o;exact(h.trans o).trans (ki)
theorem vX(a:af)(b:Nat)(c:ao)(d:Nat):a.le (mM a b c d).2:=by grind[mM,af.le_refl,vW]
theorem tJ(b:af)(d:Nat)(h:Ω×Bool)(k o:ao)(p:Nat):b.le (mN b d h k o p).2:=by
 unfold mN;have a:=ki (B:=b) (e:=d) (b3:=ck h k o);split
 .rename_i c;rw[c]at a;exact a
 rename_i c;rw[c]at a;split
 .exact a.trans (vX _ _ _ _)
 .exact a
def rJ(b:1<=e)(c:e<=8){a:aC}(d:(aC.node q I a8 a).c9 e)(k:(aC.node q I a8 a).size<=1048576)(o:dn B a8)(p:dn B a):gj B (.node q I a8 a) (dF B e (ck (q,I) (bg a8) (bg a))):=by simp only[Κ]at k;obtain⟨y,z,r⟩:=vT (I:=I) b c d.r (eG b c d.a δ) (eG b c d.b δ) δ;rw[qf r];have h:=lQ B (cH (ck (q,I) (bg a8) (bg a)));exact⟨h,λx=>⟨rfl,rG x,o.mono h,p.mono h⟩⟩
theorem rK{h:Nat}:∀ {k:Nat}{b:List Ω}{dep:Nat}{c:Ω},c∈(fY h k b dep).rows->c∈b
 |0,_,_,_,a=>by trivial
 |k+1,b,dep,c,a=>by
  rw[fY]at a;by_cases d:b=[]
  .rw[if_pos d]at a;trivial
  rw[if_neg d]at a;have o:=a8q.2 d;have p:=q6 (dep%h) b;simp only[aC.rows,a7J,a7z]at a;rcases a with rfl|a|a
  .rw[a8n,Ρ δ];exact rq.1 (a7O _)
  .exact rq.1 (a7A (rK a))
  .exact rq.1 (a7U (rK a))
def zO(b:Nat)(a:List Ω)(c:Nat)(d:∀h∈a,bQ e h):(fY e b a c).c9 e:=λk o=>d k (rK o)
theorem zP{b:Nat}(E:1<=b)(F:b<=8):∀(d:Nat)(x:af)(a k:List Ω)(dep:Nat),k.Perm a->(∀c∈a,bQ b c)->α a<=d->α a<=1048576->gj x (fY b d a dep) (jb b d x k dep)
 |0,x,a,k,dep,_,_,_,_=>⟨af.le_refl,λ_=>⟨rfl,trivial⟩⟩
 |d+1,x,a,k,dep,C,y,s,t=>by
  have T:=C.length_eq;by_cases D:a=[]
  .subst D;obtain rfl:k=[]:=C.eq_nil;rw[jb,if_pos rfl,fY,if_pos rfl];exact⟨af.le_refl,λ_=>⟨rfl,trivial⟩⟩
  have V:k≠[]:=λW=>D (by subst W;simp_all);have u:=a8q.2 D;have e:ei (dep%b) k=ei (dep%b) a:=by obtain⟨G,f⟩:=tH λo z=>(y o z).len;obtain⟨g,i⟩:=tH λo z=>(y o (C.mem_iff.1 z)).len;exact zJ (qg b _) (λo z=>(y o (G.mem_iff.1 z)).len) (g.trans (C.trans G.symm)) f i
  rw[jb,if_neg V,fY,if_neg D,e,T];have v:=q6 (dep%b) a;have hm:=λo=>rq (e:=dep%b) (O:=a) (q:=o);generalize ei (dep%b) a=h at*;have L:∀c∈h.take (α a/2),bQ b c:=λc p=>y c ((hm c).1 (a7A p));have P:∀c∈h.drop (α a/2+1),bQ b c:=λc p=>y c ((hm c).1 (a7U p));have w:(h.take (α a/2)).length=α a/2:=by rw[a7q];omega
  have A:(h.drop (α a/2+1)).length=α a -(α a/2+1):=by rw[a7F];omega
  have B:=rr b d (h.take (α a/2)) (dep+1);have H:=rr b d (h.drop (α a/2+1)) (dep+1);have j:bQ b (h.getD (α a/2) []):=by grind
  refine gj.bind (zP E F d x _ _ (dep+1) (.refl _) L δ δ) (λl S=>?_) λm I K n=>?_
  .have r:=vW b d S (h.drop (α a/2+1)) (dep+1);split
   .rename_i p;rw[p]at r;exact r
   .rename_i p;rw[p]at r;exact r.trans (ki)
  .refine gj.bind (zP E F d m _ _ (dep+1) (.refl _) P δ δ) (λl S=>ki) λM r N q=>?_;exact rJ E F (aC.c9.mk j (zO _ _ _ L) (zO _ _ _ P)) (by simp only[Κ];omega) (n.mono r) q
def GR(b:1<=e)(c:e<=8)(d:a8.c9 e)(k:a8.size<=1048576)(o:dn B a8)(a:Nat):gj B (fY e (α a8.all) a8.all a) (mM B e (bg a8) a):=by
 obtain⟨y,p,h⟩:=a3R b c d k o;have z:=lK a8;unfold mM;rw[p]
 dsimp only
 rw[h.length_eq];exact zP b c _ B _ _ a h (λr x=>d r (aC.gI x)) (a7T _) δ
theorem zQ(c:1<=e)(d:e<=8){a:aC}(b:(aC.node q I a8 a).c9 e)(h:(aC.node q I a8 a).size<=1048576)(p:dn B a8)(r:dn B a)(k:Nat):gj B (hQ e (.node q I a8 a) k) (mN B e (q,I) (bg a8) (bg a) k):=by
 have x:=h;simp only[Κ]at x;have C:=(eG c d b h).size;have D:=(eG c d b.a δ).size;have E:=(eG c d b.b δ).size;unfold mN;refine gj.bind (rJ c d b h p r) (λF G=>?_) λL P S y=>?_;grind[vX,af.le_refl]
 .have z:((2*(bg (.node q I a8 a)).size).tdiv 3+1<max (bg a8).size (bg a).size)↔max a8.size a.size>2*(aC.node q I a8 a).size/3+1:=by grind
  unfold hQ
  dsimp only
  by_cases o:max a8.size a.size>2*(aC.node q I a8 a).size/3+1;simp_all [GR]
  .rw[if_neg (λb=>o (z.1 b)),if_neg o];exact⟨af.le_refl,λ_=>⟨rfl,y⟩⟩
theorem zR(a:q∈(hQ e a8 i).rows):q∈a8.rows:=by unfold hQ at a;grind[aC.gI,rK]
theorem tK{h:Nat}{d:Ω}:∀ {r:aC}{dep:Nat}{c:Ω},c∈(da h d r dep).1.rows->c=d\/c∈r.rows
 |.nil,dep,c,b=>by
  grind[da,aC.rows,List.mem_singleton]
 |.node k live o p,dep,c,b=>by
  rw[da]at b;split at b
  .have:=zR (a8:=.node k η o p) b;exact .inr this
  split at b
  .have a:=zR (a8:=.node k live (da h d o (dep+1)).1 p) b;simp only[aC.rows,a7J,a7z]at a|-;rcases a with a|a|a
   .simp_all
   .exact(tK a).imp_right λb=>.inr (.inl b)
   .simp_all
  .have a:=zR (a8:=.node k live o (da h d p (dep+1)).1) b;simp only[aC.rows,a7J,a7z]at a|-;rcases a with a|a|a
   .simp_all
   .simp_all
   .exact(tK a).imp_right λb=>.inr (.inr b)
def qj(b:bQ e q)(c:a8.c9 e):(da e q a8 i).1.c9 e:=λd a=>by
 rcases tK a with rfl|a
 .exact b
 .exact c d a
theorem zS{h:Nat}{k:Ω}:∀(d:Nat)(c:af)(o:ao)(dep:Nat),c.le (kj h k d c o dep).2
 |0,c,_,_=>af.le_refl
 |d+1,c,o,dep=>by
  rw[kj];split
  .exact ki
  split
  .exact af.le_refl
  rename_i r p x;split;grind[af.le_refl,tJ];split
  .have a:=zS (h:=h) (k:=k) d c (p.getD 0 az) (dep+1);split
   .rename_i b;rw[b]at a;exact a
   .rename_i b;rw[b]at a;exact a.trans (tJ _ _ _ _ _ _)
  .have a:=zS (h:=h) (k:=k) d c (p.getD 1 az) (dep+1);split
   .rename_i b;rw[b]at a;exact a
   .rename_i b;rw[b]at a;exact a.trans (tJ _ _ _ _ _ _)
def zT{h:Nat}{k:Ω}:∀(d:Nat)(c:af)(o:ao)(dep:Nat),c.le (gH h k d c o dep).2
 |0,c,_,_=>af.le_refl
 |d+1,c,o,dep=>by
  rw[gH];split
  .exact af.le_refl
  split
  .exact af.le_refl
  rename_i r p x;split
  .split
   .exact ki
   .exact af.le_refl
  split
  .have a:=zT (h:=h) (k:=k) d c (p.getD 0 az) (dep+1);split
   .rename_i b;rw[b]at a;exact a
   .rename_i b;rw[b]at a;exact a.trans (ki)
  .have a:=zT (h:=h) (k:=k) d c (p.getD 1 az) (dep+1);split
   .rename_i b;rw[b]at a;exact a
   .rename_i b;rw[b]at a;exact a.trans (ki)
theorem a3S(b:af)(c:ao):b.le (jz e q b c).2:=by
 unfold jz;have a:=zT (h:=e) (k:=q) (c.size.toNat+1) b c 0;split
 .rename_i d;rw[d]at a;exact a
 rename_i d;rw[d]at a;split
 .exact a.trans (vX _ _ _ _)
 .exact a
theorem zU{b:Nat}(c:1<=b)(d:b<=8){h:Ω}(y:bQ b h):∀(k:aC)(o:af)(r dep:Nat),k.c9 b->k.size+1<=1048576->dn o k->k.size<r->(da b h k dep).2=η->gj o (da b h k dep).1 (kj b h r o (bg k) dep)
 |k,o,0,dep,_,_,_,L,_=>by omega
 |.nil,o,r+1,dep,_,_,_,_,_=>by
  rw[kj,if_pos (show bg .nil=az from rfl),da];exact rJ c d (aC.c9.mk y (λS D=>by cases D) (λS D=>by cases D)) (by trivial) trivial trivial
 |.node P live z C,o,r+1,dep,a,T,p,L,x=>by
  have V:=T;simp only[Κ]at V L;rw[kj,if_neg (vU c d a δ),vV c d a δ p]
  dsimp only
  rw[show [bg z,bg C].getD 0 az=bg z from rfl,show [bg z,bg C].getD 1 az=bg C from rfl];rw[da]at x|-;by_cases E:P=h
  .simp only[if_pos E]at x|-;have W:live=false:=by simp_all
   rw[if_neg (by rw[W];simp)];exact zQ c d (aC.c9.mk a.r a.a a.b) (by simp only[Κ];omega) p.2.1 p.2.2 dep
  .by_cases c2:cI (dep%b) h P<0
   .simp only[if_neg E,if_pos c2]at x|-;have e:=q7 b h z (dep+1);exact gj.bind (zU c d y z o r (dep+1) a.a δ p.2.1 δ x) (λf g=>tJ _ _ _ _ _ _) λi F j G=>zQ c d (aC.c9.mk a.r (qj y a.a) a.b) (by simp only[Κ];omega) G (p.2.2.mono F) dep
   .simp only[if_neg E,if_neg c2]at x|-;have e:=q7 b h C (dep+1);exact gj.bind (zU c d y C o r (dep+1) a.b δ p.2.2 δ x) (λf g=>tJ _ _ _ _ _ _) λi F j G=>zQ c d (aC.c9.mk a.r a.a (qj y a.b)) (by simp only[Κ];omega) (p.2.1.mono F) G dep
def tL{b:Nat}{c:Ω}:∀ {a:aC}{dep:Nat},(cp b c a dep).1.rows=a.rows
 |.nil,dep=>rfl
 |.node d live h k,dep=>by
  rw[cp];split
  .rfl
  split
  .show _::(_++ _)= _::(_++ _);rw[tL]
  .show _::(_++ _)= _::(_++ _);rw[tL]
def tM(a:a8.c9 e):(cp e q a8 i).1.c9 e:=λb c=>a b (by rwa[tL]at c)
def zV{c:Nat}(k:1<=c)(o:c<=8){p:Ω}:∀(d:aC)(h:af)(x dep:Nat),d.c9 c->d.size<=1048576->dn h d->d.size<x->(cp c p d dep).2=η->gj h (cp c p d dep).1 (gH c p x h (bg d) dep)
 |d,h,0,dep,_,_,_,G,_=>by omega
 |.nil,h,x+1,dep,_,_,_,_,b=>by rw[cp]at b;cases b
 |.node L live y z,h,x+1,dep,a,C,r,G,b=>by
  have P:=C;simp only[Κ]at P G;rw[gH,if_neg (vU k o a C),vV k o a C r]
  dsimp only
  rw[show [bg y,bg z].getD 0 az=bg y from rfl,show [bg y,bg z].getD 1 az=bg z from rfl];rw[cp]at b|-;by_cases D:L=p
  .simp only[if_pos D]at b|-;rw[if_pos b];exact rJ k o (aC.c9.mk a.r a.a a.b) (by simp only[Κ];omega) r.2.1 r.2.2
  .by_cases c2:cI (dep%c) p L<0
   .simp only[if_neg D,if_pos c2]at b|-;have S:=q8 c p y (dep+1);exact gj.bind (zV k o y h x (dep+1) a.a δ r.2.1 δ b) (λT V=>ki) λW E e F=>rJ k o (aC.c9.mk a.r (tM a.a) a.b) (by simp only[Κ];omega) F (r.2.2.mono E)
   .simp only[if_neg D,if_neg c2]at b|-;have S:=q8 c p z (dep+1);exact gj.bind (zV k o z h x (dep+1) a.b δ r.2.2 δ b) (λT V=>ki) λW E e F=>rJ k o (aC.c9.mk a.r a.a (tM a.b)) (by simp only[Κ];omega) (r.2.1.mono E) F
theorem zX{b:Nat}(h:1<=b)(k:b<=8){o:Ω}{y:af}:∀(a:aC)(c dep:Nat),a.c9 b->a.size<=1048576->dn y a->a.size<c->(cp b o a dep).2=ι->gH b o c y (bg a) dep=(.error 9,y)
 |a,0,dep,_,_,_,D,_=>by omega
 |.nil,c+1,dep,_,_,_,_,d=>by rw[gH];rfl
 |.node E live p r,c+1,dep,x,z,C,D,d=>by
  have G:=z;simp only[Κ]at G D;rw[gH,if_neg (vU h k x z),vV h k x z C]
  dsimp only
  rw[show [bg p,bg r].getD 0 az=bg p from rfl,show [bg p,bg r].getD 1 az=bg r from rfl];rw[cp]at d;by_cases F:E=o;simp_all
  .by_cases c2:cI (dep%b) o E<0
   .simp only[if_neg F,if_pos c2]at d|-;rw[zX h k p c (dep+1) x.a δ C.2.1 δ d]
   .simp only[if_neg F,if_neg c2]at d|-;rw[zX h k r c (dep+1) x.b δ C.2.2 δ d]
def a3T(a:1<=e)(b:e<=8)(d:bQ e q)(c:a8.c9 e)(h:a8.size+1<=1048576)(k:dn B a8)(o:(da e q a8 0).2=η):gj B (da e q a8 0).1 (rI e q B (bg a8)):=by have:=(eG a b c δ).size;exact zU a b d a8 B _ 0 c h k δ o
theorem a3U(a:1<=e)(b:e<=8)(c:a8.c9 e)(d:a8.size<=1048576)(h:dn B a8)(k:(cp e q a8 0).2=ι):jz e q B (bg a8)=(.error 9,B):=by have:=(eG a b c d).size;grind[jz,zX]
theorem a3V(b:1<=e)(c:e<=8)(a:a8.c9 e)(d:a8.size<=1048576)(x:dn B a8)(h:(cp e q a8 0).2=η):gj B (lL e q a8).1 (jz e q B (bg a8)):=by
 have y:=(eG b c a d).size;have z:=q8 e q a8 0;have k:=tM (q:=q) (i:=0) a;have o:=eG b c k δ;have C:=o.size;have D:=o.live;unfold jz;refine gj.bind (zV b c a8 B _ 0 a d x δ h) (λE F=>?_) λG L P p=>?_;grind[vX,af.le_refl]
 .unfold lL;by_cases r:2*(cp e q a8 0).1.all.length<(cp e q a8 0).1.size
  .rw[if_pos (show(cp e q a8 0).2=η/\2*(cp e q a8 0).1.all.length<(cp e q a8 0).1.size from⟨h,r⟩),if_pos (show 2*(bg (cp e q a8 0).1).live<(bg (cp e q a8 0).1).size by omega)];exact GR b c k δ p 0
  .rw[if_neg (show¬((cp e q a8 0).2=η/\2*(cp e q a8 0).1.all.length<(cp e q a8 0).1.size)from λa=>r a.2),if_neg (show¬2*(bg (cp e q a8 0).1).live<(bg (cp e q a8 0).1).size by omega)];exact⟨af.le_refl,λ_=>⟨rfl,p⟩⟩
def aC.la(a:Nat):aC->Nat->Prop
 |.nil,_=>True
 |.node c _ d h,dep=>(∀b∈d.rows,cI (dep%a) b c<0)/\(∀b∈h.rows,cI (dep%a) c b<0)/\d.la a (dep+1)/\h.la a (dep+1)
def aC.nW{c:Nat}:∀ {k:aC}{dep:Nat},k.c9 c->k.la c dep->k.all.Pairwise (·≠ ·)
 |.nil,_,_,_=>.nil
 |.node y live D E,dep,b,⟨h1,r,z,C⟩=>by
  have o:=qg c (dep%c);rw[aC.all];refine a8v.2 ⟨a8v.2 ⟨aC.nW b.a z,aC.nW b.b C,λd a x h p=>?_⟩,by cases live<;>simp,λd a x h p=>?_⟩
  .subst p;exact o.zI (b.a d (aC.gI a)).len b.r.len (h1 d (aC.gI a)) (r d (aC.gI h))
  .obtain rfl:x=y:=by cases live<;>simp at h;exact h
   subst p;rcases a7z.1 a with a|a
   .exact o.jY _ b.r.len (h1 _ (aC.gI a))
   .exact o.jY _ b.r.len (r _ (aC.gI a))
variable{O:List Ω}
theorem GS(a:e<α O):O=O.take e++O.getD e []::O.drop (e+1):=by simp_all
theorem vY{h:Nat}:∀(c:Nat)(a:List Ω)(dep:Nat),α a<=c->(∀b∈a,α b=h)->(fY h c a dep).all.Perm a
 |0,a,dep,x,_=>by
  obtain rfl:a=[]:=a7t δ;rfl
 |c+1,a,dep,x,p=>by
  rw[fY];by_cases k:a=[]
  .rw[if_pos k,k];rfl
  rw[if_neg k];have y:=a8q.2 k;have r:=(tH (e:=dep%h) p).1;have z:=r.length_eq;have hm:=λb d=>p b (r.mem_iff.1 d);generalize ei (dep%h) a=o at*;have C:=GS (O:=o) (e:=α a/2) δ;have D:=vY c (o.take (α a/2)) (dep+1) (by rw[a7q];omega) λb d=>hm b (a7A d);have E:=vY c (o.drop (α a/2+1)) (dep+1) (by rw[a7F];omega) λb d=>hm b (a7U d);rw[aC.all,if_pos rfl];grind
def zY(a:a8.c9 e):(hQ e a8 i).all.Perm a8.all:=by
 unfold hQ;split
 .rfl
 .split
  .exact vY _ _ _ (a7T _) λb c=>(a b (aC.gI c)).len
  .rfl
theorem zZ{d:Nat}{b:Ω}(h:bQ d b):∀ {k:aC}{dep:Nat},k.c9 d->(da d b k dep).2=η->(da d b k dep).1.all.Perm (b::k.all)
 |.nil,dep,_,_=>.refl _
 |.node p live x y,dep,a,c=>by
  rw[da]at c|-;by_cases o:p=b
  .simp only[if_pos o]at c|-;have r:live=false:=by simp_all
   refine(zY (aC.c9.mk a.r a.a a.b)).trans ?_;simp only[aC.all,if_pos,r,o];grind
  .by_cases c2:cI (dep%d) b p<0
   .simp only[if_neg o,if_pos c2]at c|-;refine(zY (aC.c9.mk a.r (qj h a.a) a.b)).trans ?_;exact((zZ h a.a c).append_right _).append_right _
   .simp only[if_neg o,if_neg c2]at c|-;refine(zY (aC.c9.mk a.r a.a (qj h a.b))).trans ?_;refine(((zZ h a.b c).append_left _).append_right _).trans ?_;exact a9Q.append_right _
theorem A0{c:Nat}{b:Ω}:∀ {d:aC}{dep:Nat},(da c b d dep).2=ι->b∈d.all
 |.nil,dep,a=>by rw[da]at a;cases a
 |.node h live o p,dep,a=>by
  rw[da]at a;simp only[aC.all,a7z];by_cases k:h=b;simp_all
  .by_cases c2:cI (dep%c) b h<0
   .simp only[if_neg k,if_pos c2]at a;exact .inl (.inl (A0 a))
   .simp only[if_neg k,if_neg c2]at a;exact .inl (.inr (A0 a))
theorem vZ{d:Nat}{b:Ω}:∀ {h:aC}{dep:Nat},(cp d b h dep).2=η->h.all.Perm (b::(cp d b h dep).1.all)
 |.nil,dep,a=>by rw[cp]at a;cases a
 |.node k live o p,dep,a=>by
  rw[cp]at a|-;by_cases c:k=b
  .simp only[if_pos c]at a|-;simp only[aC.all,if_pos a,c];grind
  .by_cases c2:cI (dep%d) b k<0
   .simp only[if_neg c,if_pos c2]at a|-;exact((vZ a).append_right _).append_right _
   .simp only[if_neg c,if_neg c2]at a|-;refine(((vZ a).append_left _).append_right _).trans ?_;exact a9Q.append_right _
theorem A1{b:Nat}{d:Ω}(k:α d=b):∀ {o:aC}{dep:Nat},o.c9 b->o.la b dep->(cp b d o dep).2=ι->d∉o.all
 |.nil,dep,_,_,_=>λh=>by cases h
 |.node r live E F,dep,h,⟨h1,y,C,D⟩,c=>by
  have x:=qg b (dep%b);intro a;rw[cp]at c;simp only[aC.all,a7z]at a;by_cases p:r=d
  .simp only[if_pos p]at c;subst p;rcases a with (a|a)|a
   .exact x.jY _ k (h1 _ (aC.gI a))
   .exact x.jY _ k (y _ (aC.gI a))
   .rw[c]at a;simp at a
  .have z:d∉(if live=η then [r]else []):=λh=>by
    simp_all
   by_cases c2:cI (dep%b) d r<0
   .simp only[if_neg p,if_pos c2]at c;rcases a with (a|a)|a
    .exact A1 k h.a C c a
    .exact x.zI k h.r.len c2 (y _ (aC.gI a))
    .exact z a
   .simp only[if_neg p,if_neg c2]at c;rcases a with (a|a)|a
    .exact c2 (h1 _ (aC.gI a))
    .exact A1 k h.b D c a
    .exact z a
theorem w0{a:Nat}:∀(p:Nat)(c:List Ω)(dep:Nat),(∀b∈c,α b=a)->c.Pairwise (·≠ ·)->(fY a p c dep).la a dep
 |0,_,_,_,_=>trivial
 |p+1,c,dep,z,D=>by
  rw[fY];by_cases r:c=[]
  .rw[if_pos r];trivial
  rw[if_neg r];have g:=a8q.2 r;obtain⟨x,E⟩:=tH (e:=dep%a) z;have i:=x.length_eq;have hm:=λb d=>z b (x.mem_iff.1 d);have y:(ei (dep%a) c).Pairwise (·≠ ·):=x.symm.pairwise D λk=>k.symm;have F:=qg a (dep%a);have C:(ei (dep%a) c).Pairwise (λG L=>cI (dep%a) G L<0):=by
   refine aaW ?_ (E.and y);intro h b o d j;rcases F.tG h b (hm h o) (hm b d)with k|k|k
   .exact k
   .simp_all
   .omega
  generalize ei (dep%a) c=P at*;have S:=GS (O:=P) (e:=α c/2) δ;rw[S]at C y;obtain⟨l,T,V⟩:=a8v.1 C;obtain⟨W,m⟩:=a7X.1 T;obtain⟨e,f,_⟩:=a8v.1 y;refine⟨λh o=>V h (rK o) _ ς,λh o=>W h (rK o),?_,?_⟩
  .exact w0 p _ _ (λb d=>hm b (a7A d)) e
  .exact w0 p _ _ (λb d=>hm b (a7U d)) (a7X.1 f).2
def A2(a:a8.c9 e)(b:a8.la e i):(hQ e a8 i).la e i:=by
 unfold hQ;split
 .trivial
 .split
  .exact w0 _ _ _ (λc d=>(a c (aC.gI d)).len) (aC.nW a b)
  .exact b
theorem A3{c:Nat}{k:Ω}(h:bQ c k):∀ {o:aC}{dep:Nat},o.c9 c->o.la c dep->(da c k o dep).1.la c dep
 |.nil,dep,_,_=>⟨λd b=>(by cases b),λd b=>(by cases b),trivial,trivial⟩
 |.node p live D E,dep,a,⟨h1,r,x,y⟩=>by
  have C:=qg c (dep%c);rw[da];by_cases z:p=k
  .simp only[if_pos z];exact A2 (aC.c9.mk a.r a.a a.b) ⟨h1,r,x,y⟩
  .by_cases c2:cI (dep%c) k p<0
   .simp only[if_neg z,if_pos c2];refine A2 (aC.c9.mk a.r (qj h a.a) a.b) ⟨λd b=>?_,r,A3 h a.a x,y⟩;rcases tK b with rfl|b
    .exact c2
    .exact h1 d b
   .simp only[if_neg z,if_neg c2];refine A2 (aC.c9.mk a.r a.a (qj h a.b)) ⟨h1,λd b=>?_,x,A3 h a.b y⟩;rcases tK b with rfl|b
    .rcases C.tG d p h.len a.r.len with a|a|a
     .trivial
     .simp_all
     .exact a
    .exact r d b
def A4{a:Nat}{k:Ω}:∀ {b:aC}{dep:Nat},b.la a dep->(cp a k b dep).1.la a dep
 |.nil,dep,_=>trivial
 |.node o live p r,dep,⟨h1,c,d,h⟩=>by
  rw[cp];split
  .trivial
  split
  .exact⟨by rw[tL];exact h1,c,A4 d,h⟩
  .exact⟨h1,by rw[tL];exact c,d,A4 h⟩
structure lS(d n:Nat)(t:aC):Prop where
 fu:t.c9 d
 w1:t.la d 0
 cf:t.size<=n
theorem lS.nil{a n:Nat}:lS a n .nil:=⟨λc b=>(by cases b),trivial,a7N _⟩
def lS.ins(a:lS e i a8)(b:bQ e q):lS e (i+1) (da e q a8 0).1:=⟨qj b a.fu,A3 b a.fu a.w1,by have:=q7 e q a8 0;have:=a.cf;omega⟩
theorem lS.del(b:lS e i a8):lS e i (lL e q a8).1:=by
 have a:=tM (q:=q) (i:=0) b.fu;have c:=A4 (k:=q) b.w1;have p:=q8 e q a8 0;have r:=lK (cp e q a8 0).1;have x:=b.cf;unfold lL;split
 .refine⟨zO _ _ _ λd h=>a d (aC.gI h),w0 _ _ _ (λk o=>(a k (aC.gI o)).len) (aC.nW a c),?_⟩;grind[rr,cp]
 .exact⟨a,c,δ⟩
def a3W(a:lS e i a8)(b:(cp e q a8 0).2=η):a8.all.Perm (q::(lL e q a8).1.all):=by
 have c:=tM (q:=q) (i:=0) a.fu;refine(vZ b).trans (.cons _ ?_);unfold lL;split
 .exact(vY _ _ _ (a7T _) λd h=>(c d (aC.gI h)).len).symm
 .rfl
theorem ed.cells{b:aU}{a:R}(c:ed b a):α a.cells=76:=by obtain⟨T,rfl,d⟩:=c;exact d.all.1
theorem A5(o:List aU)(a:ύ)(c:Own)(b:U)(p:aB ed o a)(F:α o<=1000):
  AC γ 161 [.J a c] b λr d=>av b d 76 (flat a) r:=by
 have G:=p.len;refine nr λL=>?_;have y:c=.nil->a=[]:=λh=>by subst h;simp_all
 have x:=p.cells λ_ _=>ed.cells;have P:=cU x;refine bd hm PT ς ?_;simp -dsimp -implicitDefEqProofs (disch:=first|omega|assumption|(simp only[aW,Nat.reduceAdd];try omega)) only[go_sem,simprocAttr,↓oz];refine oA (λk=>by rw[y k]) (λk=>?_) ?_
 .have z:a=[]:=by trivial
  subst z;refine aG @a8i ?_;exact⟨b,θ,av.nil θ⟩
 .refine aG @oo ?_;have C:bW b 76 (.J a c)=β (α a,flat a):=by have D:=a7E.2 λh E=>decide_eq_true (x h E);simp only[bW,D,if_true]
  refine fj (av.zero (θ)) δ C δ (by simp only[a7x];omega) (by simp only[a7x];omega) λr d k=>?_;refine er ?_;exact⟨d,θ,by trivial⟩
theorem a3X(t k:U)(h:ύ)(f:R)(y:av t k 76 h f)(G:Nat)(L:α h=G*76)(a:Nat)(l9:a<=G)(n0:G<=1000)(o:ύ)(u:α o=76)(z:Nat)(v:t z=β (.cells o)):
  AC γ 160 [f,.v (.int .i64 (a:Int)),.aq z 1 1 76] k λk4 P=>av t P 76 (h.take (a*76)++(o++h.drop (a*76))) k4:=by
 have S:=y.1 _ _ v;have g:((1:Nat):Int)=1:=rfl;have w:∀P:U,P z=β (.cells o)->bW P 76 (.aq z 1 1 76)=β (1,o):=λP y=>by
  simp_all [bW,κ,Φ]
 by_cases c1:a=G
 .subst c1;obtain⟨e,E,wl⟩:∃e,cn 76 f (β (.v (.int .i64 (a:Int)))) ζ ζ=β e/\fi f=β (.v (.int .i64 (a:Int))):=by
   rcases y.2 with⟨i,rfl|rfl⟩|⟨c,b,d,r,rfl,j,C,l,m,k5,A,X⟩
   .rw[i]at L;obtain rfl:a=0:=by rw[a7x]at L;omega
    exact⟨_,Y2,rfl⟩
   .rw[i]at L;obtain rfl:a=0:=by rw[a7x]at L;omega
    exact⟨_,Y1,rfl⟩
   .obtain rfl:b=a:=δ;obtain⟨e,E,_⟩:=oO (i:=76) (j1:=c) (e1:=.i64) δ A;exact⟨e,E,rfl⟩
  refine bd hm Ck ς ?_;simp -dsimp -implicitDefEqProofs (disch:=first|omega|assumption|(simp only[aW,Nat.reduceAdd];try omega)) only[go_sem,simprocAttr,↓eS,E,wl,g];refine fj y δ (w k S) δ δ δ λn1 P n2=>?_;refine De ?_;grind[θ,Ε,List.drop_eq_nil_of_le]
 have n3:a<G:=δ;obtain⟨c,b,d,r,rfl,j,C,l,m,k5,A,X⟩:=y.aq (λi=>by rw[i]at L;simp at L;omega);obtain rfl:b=G:=δ;have Y:c≠z:=by rintro rfl;rw[j]at v;cases v
 have B:¬(a)=(b:Int):=δ;refine bd hm Ck ς ?_;obtain⟨e,E,_,Z⟩:=oO (i:=76) (j1:=c) (e1:=.i64) δ A;have n4:=Z k r h C δ m;have j9:(h.drop (a*76)).length=(b - a)*76:=by rw[a7F];omega
 have k6:r.take (a*76)=h.take (a*76):=by grind
 by_cases c2:(d)<(b:Int)+1
 .have n:cn 76 (.aq c b d 76) ζ (β (.v (.int .i64 (a)))) ζ=β (.aq c a d 76):=ib δ;have k0:(b)+1 -(a)=((b+1 - a:Nat):Int):=δ;refine dL (bz @E @B @g @c2 @n @k0) ?_;refine xJ C l δ δ δ λp D k7 q s k8 k1=>?_;have k9:a+(b+1 - a)=b+1:=δ;rw[k9]at s k1|-;generalize l0:ε (b+1 - a) _=k2;have l1:α k2.flatten=(b+1 - a)*76:=by rw[<-l0,lu];rfl
  have l2:p≠c:=by rintro rfl;rw[q]at C;cases C
  have l3:p≠z:=by rintro rfl;rw[q]at S;cases S
  obtain⟨F,k3⟩:∃F,F=r.take (a*76)++k2.flatten++k7:=⟨_,rfl⟩;have l4:α F=D*76:=by rw[k3,Ψ,Ψ,l1,a7q,k1];omega
  have l5:F.take (a*76)=h.take (a*76):=by simp_all
  rw[<-k3];have H:cn 76 (.aq p (b+1) D 76) (β (.v (.int .i64 (a)))) ζ ζ=β (.bE p (a*76) (b+1 - a) (D - a) 76):=gu δ s δ;have I:cn 76 (.aq p (b+1) D 76) (β (.v (.int .i64 ((a)+1)))) ζ ζ=β (.bE p (a*76+76) (b - a) (D -(a+1)) 76):=by have:=gu (i:=76) (b9:=p) (e:=a+1) (e1:=.i64) δ s δ;grind
  have K:(k.set p (.cells F)) z=β (.cells o):=by rw[ο _ _ (Ι l3)];exact S
  have T:=hD (M:=a*76) (j1:=D - a) (i:=b+1 - a) (w _ K) (ξ k p (.cells F)) δ;have M:o.take ((b+1 - a)*76)=o:=Φ δ;rw[M]at T;obtain⟨x,V⟩:∃x,x=putAt F (a*76) o:=⟨_,rfl⟩;have N:α x=D*76:=by rw[V,eO _ _ _ δ,l4]
  rw[<-V]at T;have l6:(k.set p (.cells x)) c=β (.cells r):=by rw[ο _ _ (Ι l2)];exact C
  have O:=Z _ r h l6 δ m;have W:=hD (M:=a*76+76) (j1:=D -(a+1)) (i:=b - a) O (ξ k p (.cells x)) δ;have Q:(h.drop (a*76)).take ((b - a)*76)=h.drop (a*76):=Φ δ;rw[Q]at W;refine dL (fF @E @B @g @c2 @n @k0 @H @I @T @W @τ) ?_;refine⟨_,θ,μ y.1 (Ο y.1 q),.inr ⟨p,b+1,D,_,rfl,Ο y.1 q,ξ _ _ _,?_,?_,?_,s,k8⟩⟩
  .rw[eO _ _ _ δ,N]
  .have:=(pY l5 u j9 δ).2;rw[show(b+1)*76=a*76+76+(b - a)*76 by omega,V];exact this
  grind
 .have n:cn 76 (.aq c b d 76) ζ (β (.v (.int .i64 ((b)+1)))) ζ=β (.aq c (b+1) d 76):=by rw[show(b)+1=((b+1:Nat):Int) by omega];exact ib δ
  have H:cn 76 (.aq c (b+1) d 76) (β (.v (.int .i64 (a)))) ζ ζ=β (.bE c (a*76) (b+1 - a) (d - a) 76):=gu δ δ δ;have I:cn 76 (.aq c (b+1) d 76) (β (.v (.int .i64 ((a)+1)))) ζ ζ=β (.bE c (a*76+76) (b - a) (d -(a+1)) 76):=by have:=gu (i:=76) (b9:=c) (v:=b+1) (M:=d) (e:=a+1) (e1:=.i64) δ δ δ;grind
  have l7:r≠[]:=by rintro rfl;simp at l;omega
  have l8:lr (.aq z 1 1 76) (.bE c (a*76+76) (b - a) (d -(a+1)) 76) k=β (.v (.bool ι)):=xI rfl rfl (Ι Y) (qZ S (by rintro rfl;simp at u)) (qZ C l7);have O:bW k 76 (.bE c (a*76) (b+1 - a) (d - a) 76)=β (b+1 - a,(r.drop (a*76)).take ((b+1 - a)*76)):=by simp only[bW,κ C];grind
  have W:=hD (M:=a*76+76) (j1:=d -(a+1)) (i:=b - a) O C δ;have Q:((r.drop (a*76)).take ((b+1 - a)*76)).take ((b - a)*76)=h.drop (a*76):=by rw[a8B,<-m,a8H];congr 1;omega
  rw[Q]at W;obtain⟨x,V⟩:∃x,x=putAt r (a*76+76) (h.drop (a*76)):=⟨_,rfl⟩;rw[<-V]at W;have N:α x=α r:=by rw[V,eO _ _ _ δ]
  have K:(k.set c (.cells x)) z=β (.cells o):=by rw[ο _ _ (Ι Y)];exact S
  have T:=hD (M:=a*76) (j1:=d - a) (i:=b+1 - a) (w _ K) (ξ k c (.cells x)) δ;have M:o.take ((b+1 - a)*76)=o:=Φ δ;rw[M]at T;refine dL (fF @E @B @g @c2 @n @H @I @l8 @W @T @τ) ?_;refine⟨_,θ,μ y.1 j,.inr ⟨c,b+1,d,_,rfl,j,ξ _ _ _,?_,?_,?_,δ,X⟩⟩
  .rw[eO _ _ _ δ,N,l]
  .have:=(pY k6 u j9 δ).1;grind
  grind
variable{g H c0:ύ}{e3:List aU}
theorem a3Y(c:aB ed e3 g):∀a∈g,∃b,a=.agg b/\α b=76:=λa d=>by
 obtain⟨k,_,T,rfl,h⟩:=c.mem d;exact⟨T,rfl,h.all.1⟩
variable{n b5:R}{f s e0:U}
theorem av.a3Z(b:av f s 76 (flat g) n)(c:aB ed e3 g):∃a,View s n a (.J g .any)/\f.sub a:=by obtain⟨h,a,d,k,o⟩:=View.dK b;rw[cU (c.cells λ_ _=>ed.cells)]at d;grind[yw,a3Y]
def db(a:List aU)(b:ϊ):Nat:=(a.takeWhile λc=>c8 c.name b).length
def GU:∀ {c:List aU}{b:ϊ}{d:Nat},Place c b d->d=db c b
 |[],b,d,a=>by have:=a.1;simpa[db] using this
 |o::c,b,0,a=>by
  have:=a.2.2 0 ς δ;simp only[a7W]at this;simp[db,this]
 |o::c,b,d+1,a=>by
  have k:=a.2.1 0 δ;simp only[a7W]at k;have:=GU ⟨by have:=a.1;simpa using this,λh p=>by have:=a.2.1 (h+1) δ;trivial,λh p r=>by have:=a.2.2 (h+1) Μ δ;trivial⟩;simp only[db,a8I,k,if_true,a7s];rw[this];rfl
def gJ(a:List aU)(b:ϊ):Bool:=decide (db a b<α a)&&decide ((a.getD (db a b) default).name=b)
theorem A6{c:List aU}(d:cJ c=η):∀b a,b<a->a<α c->c8 (c.getD b default).name (c.getD a default).name=η
 |b,0,h1,_=>by omega
 |b,a+1,h1,p=>by
  have h:=d;simp only[cJ,Υ,a7E,a8C,a8Z,decide_eq_true_eq]at h;have k:=(h.1 (a+1) p).2.resolve_left δ;rw[Nat.add_sub_cancel]at k;rcases abA b a with o|o
  .exact vO _ _ _ (A6 d b a o δ) k
  grind
def A7(a:List aU)(c:ύ)(h:Own)(b:ϊ)(r:aB ed a c)(k:cJ a=η)(d:U):
  AC γ 159 [.J c h,bo b] d λo p=>p=d/\o=.aJ [.v (.int .i64 (db a b:Int)),.v (.bool (gJ a b))]:=by
 have z:α a<=8:=by simp only[cJ,Υ,decide_eq_true_eq]at k;omega
 refine(a3l a c h b r δ (A6 k) d).mono λo p x=>?_;obtain⟨C,D,y,rfl⟩:=x;obtain rfl:=GU y;trivial
def w2(d:Except Int (List aU))(a:R):Prop:=
 match d with
 |.error b=>b≠0/\a=.aJ [.J [] .nil,.v (.int .i64 b)]
 |.ok h=>∃c,aB ed h c/\a=.aJ [.J c .any,.v (.int .i64 0)]
def kk(a:List aU)(b:aU):Except Int (List aU):=
 if(cJ a&&gd b)=η then(if gJ a b.name=η then .error 4 else if 8<=α a then .error 10 else .ok (a.take (db a b.name)++b::a.drop (db a b.name)))else .error 1
def kl(a:List aU)(b:aU):Except Int (List aU):=
 if(cJ a&&gd b)=η then(if gJ a b.name=η then .ok (a.set (db a b.name) b)else .error 3)else .error 1
def tN(a b:U)(o:Except Int (List aU))(c:R):Prop:=
 match o with
 |.error d=>a.sub b/\d≠0/\c=.aJ [.J [] .nil,.v (.int .i64 d)]
 |.ok p=>∃h k,aB ed p k/\av a b 76 (flat k) h/\c=.aJ [h,.v (.int .i64 0)]
def tN.A8{a:Except Int (List aU)}(b:tN f s a n):∃c d,View s n d c/\f.sub d/\w2 a c:=by
 cases a with
 |error x=>exact⟨_,_,View.refl,b.1,b.2⟩
 |ok y=>obtain⟨z,k,h,o,rfl⟩:=b;obtain⟨C,p,r⟩:=av.a3Z o h;exact⟨_,_,View.aJ (a:=[]) p,r,k,h,rfl⟩
def a4a(a:List aU)(b:ϊ):db a b<=α a:=by unfold db;have:=congrArg α (a8h (p:=λc:aU=>c8 c.name b) (l:=a));rw[Ψ]at this;omega
def a4b(a:List aU)(d:ύ)(r:Own)(b:aU)(c:ύ)(D:eL b c)(V:b.Fit)(p:aB ed a d)(L:∀b∈a,b.Fit)(W:α a<=1000)(x:U):
  AC γ 99 [.J d r,.agg c] x λz E=>x.sub E/\w2 (kk a b) z:=by
 have q:AC γ 99 [.J d r,.agg c] x λz E=>tN x E (kk a b) z:=?_
 .exact q.view λz E s=>s.A8
 have t:=p.len;obtain⟨e,Q,X,Y,Z,j9,k0,k1,k2,k3,k4,k5,k6⟩:=D.all;refine aK hm O9 ?_;refine bs λf u=>?_;have C:=μ (Y:=.cells c) (θ) u;have aE:=ξ x f (.cells c);generalize x.set f _=o at*;have v:=κ aE;have h:(if(cJ a&&gd b)=η then(if gJ a b.name=η then .error 4 else if 8<=α a then .error 10 else .ok (a.take (db a b.name)++b::a.drop (db a b.name)))else .error 1)=kk a b:=rfl;generalize kk a b=k7 at*;cases P:cJ a with
 |false=>rw[if_neg (by rw[P];simp)]at h;refine bp (nU a d r p L δ o) ?_;rw[<-h];exact⟨_,θ,C,Θ,rfl⟩
 |true=>
 cases g:gd b with
 |false=>rw[if_neg (by rw[g];simp)]at h;refine bp (nU a d r p L δ o) ?_;refine bp (rF b c D V o) ?_;rw[<-h];exact⟨_,θ,C,Θ,rfl⟩
 |true=>
 rw[if_pos (by rw[P,g];rfl)]at h;refine bp (nU a d r p L δ o) ?_;refine bp (rF b c D V o) ?_;have F:=A7 a d r b.name p P o;have w:=a4a a b.name;generalize db a b.name=k at*;cases G:gJ a b.name with
 |true=>rw[if_pos G]at h;rw[G]at F;refine bp F ?_;rw[<-h];exact⟨_,θ,C,Θ,rfl⟩
 |false=>
 rw[if_neg (by rw[G];simp)]at h;rw[G]at F;refine bp F ?_;refine aF (λA=>?_) λA=>?_
 .rw[if_pos δ]at h;rw[<-h];exact⟨_,θ,C,Θ,rfl⟩
 rw[if_neg δ]at h;have i:aY 76 [R.agg c]:=λj B=>by rw[a7I.1 B];exact e
 refine(sf (eQ i ς λy k8=>trivial)).mpr ?_;have v:=κ aE;refine aa ?_;refine ah (A5 a d r o p W) ?_;intro l m S;have k9:=κ (S.1 _ _ aE);refine aa ?_;have H:flat [R.agg c]=c:=by simp[flat,σ]
 refine eQ i ς λy n=>?_;rw[H];have T:=p.cells λ_ _=>ed.cells;have I:av (o.set y (.cells c)) (m.set y (.cells c)) 76 (flat d) l:=S.new n;have K:(flat d).length=α a*76:=by rw[cU T,t]
 have M:=a3X (o.set y (.cells c)) (m.set y (.cells c)) (flat d) l I (α a) K k w W c e y (ξ _ _ _);refine aa ?_;refine ah M ?_;intro z l0 N;refine aa ?_;refine⟨_,θ,?_⟩;rw[<-h];have O:x.sub (o.set y (.cells c)):=μ C (Ο C (Ο S.1 n));refine⟨z,d.take k++ .agg c::d.drop k,(p.take k).append ⟨⟨c,rfl,D⟩,p.drop k⟩,?_,rfl⟩;have j:flat (d.take k++ .agg c::d.drop k)=(flat d).take (k*76)++(c++(flat d).drop (k*76)):=by rw[(gh k T).1,(gh k T).2];simp[flat,σ]
 rw[j];exact N.base O
theorem av.lZ(c:av s f e (flat g) n)(d:aY e g)(y:0<e)(o:i<α g)(p:α H=e):
  ∃b h a,n=.aq b (α g) h e/\f b=β (.cells a)/\i*e+e<=α a/\av s (f.set b (.cells (putAt a (i*e) H))) e (flat (g.set i (.agg H))) n:=by
 have z:=cU d;have C:(i+1)*e<=α g*e:=a7D _ o;rw[a8w,aa9]at C;obtain⟨b,D,h,a,rfl,r,E,F,G,W,x,L⟩:=c.aq (λk=>by rw[k,a7x]at z;omega);obtain rfl:D=α g:=a9M y δ;have j:=a7D e x;refine⟨b,h,a,rfl,E,δ,μ c.1 r,.inr ⟨b,α g,h,_,rfl,r,ξ _ _ _,?_,?_,?_,x,L⟩⟩
 .rw[eO _ _ _ δ,F]
 .have P:g.set i (.agg H)=g.take i++ .agg H::g.drop (i+1):=a8F .. |>.trans (by rw[if_pos o])
  have S:flat (g.take i++ .agg H::g.drop (i+1))=(flat g).take (i*e)++(H++(flat g).drop ((i+1)*e)):=by rw[(gh (i+1) d).1,(gh i d).2];simp[flat,σ]
  have l:(a.take (i*e)).length=i*e:=by rw[a7q];omega
  have T:(i+1)*e=i*e+e:=by grind
  rw[P,S,putAt,p,<-G,a8B,a8Y δ,T,a8H];have m:(a.take (i*e)++H).length=i*e+e:=by simp_all
  have q:α g*e=(i*e+e)+(α g*e -(i*e+e)):=δ;grind
 .rw[cU (d:=e)]
  .simp
  .intro k V;rcases a9y V with c|rfl
   .exact d k c
   .exact p
theorem a4c(a:List aU)(c:ύ)(o:Own)(b:aU)(d:ύ)(z:eL b d)(S:b.Fit)(k:aB ed a c)(L:∀b∈a,b.Fit)(g:α a<=1000)(r:U):
  AC γ 166 [.J c o,.agg d] r λC D=>r.sub D/\w2 (kl a b) C:=by
 have i:AC γ 166 [.J c o,.agg d] r λC D=>tN r D (kl a b) C:=?_
 .exact i.view λC D E=>E.A8
 have j:=k.len;obtain⟨l,u,v,w,A,B,H,I,K,M,N,O,Q⟩:=z.all;refine aK hm Q3 ?_;refine bs λT m=>?_;have F:=μ (Y:=.cells d) (θ) m;have aE:=ξ r T (.cells d);generalize r.set T _=p at*;have X:=κ aE;have h:(if(cJ a&&gd b)=η then(if gJ a b.name=η then .ok (a.set (db a b.name) b)else .error 3)else .error 1)=kl a b:=rfl;generalize kl a b=Y at*;cases P:cJ a with
 |false=>rw[if_neg (by rw[P];simp)]at h;refine bp (nU a c o k L δ p) ?_;rw[<-h];exact⟨_,θ,F,Θ,rfl⟩
 |true=>
 cases V:gd b with
 |false=>rw[if_neg (by rw[V];simp)]at h;refine bp (nU a c o k L δ p) ?_;refine bp (rF b d z S p) ?_;rw[<-h];exact⟨_,θ,F,Θ,rfl⟩
 |true=>
 rw[if_pos (by rw[P,V];rfl)]at h;refine bp (nU a c o k L δ p) ?_;refine bp (rF b d z S p) ?_;have G:=A7 a c o b.name k P p;have W:gJ a b.name=η->db a b.name<α a:=λE=>by
  simp only[gJ,Υ,decide_eq_true_eq]at E;exact E.1
 generalize db a b.name=x at*;cases y:gJ a b.name with
 |false=>rw[if_neg (by rw[y];simp)]at h;rw[y]at G;refine bp G ?_;rw[<-h];exact⟨_,θ,F,Θ,rfl⟩
 |true=>
 rw[if_pos y]at h;rw[y]at G;have W:=W y;refine bp G ?_;refine ah (A5 a c o p k g) ?_;intro Z j9 e;have n:=k.cells λ_ _=>ed.cells;obtain⟨f,q,k0,rfl,s,k1,t⟩:=av.lZ e n δ (i:=x) δ l;have k2:=κ (e.1 _ _ aE);have k3:cz 76 (.aq f (α c) q 76) (.v (.int .i64 (x)))=β (.ptr f (x*76)):=by grind[jQ,Int.toNat_natCast]
 have k4:=χ s;refine aa ?_;refine⟨_,θ,?_⟩;rw[<-h];exact⟨_,c.set x (.agg d),k.set x ⟨d,rfl,z⟩,t.base F,by rw[j]⟩
theorem a4d(F o:U)(d:ύ)(G:R)(L:av F o 76 d G)(r:Nat)(P:α d=r*76)(a:Nat)(O:a<r)(Q:r<=1000):
  AC γ 162 [G,.v (.int .i64 (a:Int)),.v (.int .i64 ((a:Int)+1))] o λi j=>av F j 76 (d.take (a*76)++d.drop ((a+1)*76)) i:=by
 obtain⟨c,b,k,x,rfl,S,T,l,V,m,C,n⟩:=L.aq (λq=>by rw[q,a7x]at P;omega);obtain rfl:b=r:=δ;refine bd hm PV ς ?_;have s:(a)+1=((a+1:Nat):Int):=δ;rw[s];obtain⟨X,t⟩:=ET (M:=76) (a:=c) (b:=b) (j1:=a) (e:=a+1) (e1:=.i64) (c:=.i64) (d:=.i64) δ δ C;have u:cn 76 (.aq c b k 76) ζ (β (.v (.int .i64 (a)))) ζ=β (.aq c a k 76):=ib δ;obtain⟨Y,v,_,D⟩:=oO (i:=76) (j1:=c) (e:=a+1) (e1:=.i64) δ C;have D:=D o x d T δ V;have w:¬(a)=((a+1:Nat):Int):=δ;simp -dsimp -implicitDefEqProofs (disch:=first|omega|assumption|(simp only[aW,Nat.reduceAdd];try omega)) only[go_sem,simprocAttr,↓eS,t,u,v,w];refine vj T l D δ δ δ ?_;have A:a+(b -(a+1))=b - 1:=δ;rw[A];have W:(d.drop ((a+1)*76)).length=(b -(a+1))*76:=by rw[a7F];omega
 obtain⟨h,y⟩:∃h,h=putAt x (a*76) (d.drop ((a+1)*76)):=⟨_,rfl⟩;have E:α h=k*76:=by rw[y,eO _ _ _ δ];omega
 have B:h.take ((b - 1)*76)=d.take (a*76)++d.drop ((a+1)*76):=by
  rw[y,putAt];have H:(x.take (a*76)).length=a*76:=by rw[a7q];omega
  rw[show(b - 1)*76=(x.take (a*76)++d.drop ((a+1)*76)).length by rw[Ψ,H,W];omega,a9Y];grind
 rw[<-y];have I:(o.set c (.cells h)) c=β (.cells h):=ξ _ _ _;have Z:cn 76 (.aq c (b - 1) k 76) (β (.v (.int .i64 ((b - 1:Nat))))) (β (.v (.int .i64 ((b))))) ζ=β (.bE c ((b - 1)*76) (b -(b - 1)) (k -(b - 1)) 76):=Da δ C δ;have e:∀z:ύ,α z=76->lq 76 z (.bE c ((b - 1)*76) (b -(b - 1)) (k -(b - 1)) 76) (o.set c (.cells h))=β ((o.set c (.cells h)).set c (.cells (putAt h ((b - 1)*76) (ε (b -(b - 1)) z).flatten))):=λz j9=>xH I (by rw[E];omega);have p:=ht.all.1;rw[<-kY]at p;have e:=(e _ p).trans abH;have K:(d.take (a*76)++d.drop ((a+1)*76)).length=(b - 1)*76:=by rw[Ψ,a7q,a7F];omega
 clear p y W V m P;refine aa ?_;have p:=ht.all.1;rw[<-kY]at p;refine⟨_,θ,?_⟩;generalize f:putAt h ((b - 1)*76) _=g;have M:α g=k*76:=by rw[<-f,eO _ _ _ (by rw[lu,p,E];omega),E]
 have N:g.take ((b - 1)*76)=h.take ((b - 1)*76):=by rw[<-f,putAt,a7B,a8T (by rw[a7q];omega),a8B,a9A]
 refine⟨μ L.1 S,.inr ⟨c,b - 1,k,_,rfl,S,ξ _ _ _,M,by rw[N,B],K,δ,n⟩⟩
def cK(a:List aU)(b:ϊ):Except Int (List aU):=
 if cJ a=η then(if gJ a b=η then .ok (a.take (db a b)++a.drop (db a b+1))else .error 3)else .error 1
def a4e(a:List aU)(c:ύ)(p:Own)(b:ϊ)(h:aB ed a c)(G:∀S∈a,S.Fit)(L:α a<=1000)(d:U):
  AC γ 101 [.J c p,bo b] d λr y=>d.sub y/\w2 (cK a b) r:=by
 have T:AC γ 101 [.J c p,bo b] d λr y=>tN d y (cK a b) r:=?_
 .exact T.view λr y z=>z.A8
 have V:=h.len;refine aK hm Od ?_;have k:(if cJ a=η then(if gJ a b=η then .ok (a.take (db a b)++a.drop (db a b+1))else .error 3)else .error 1)=cK a b:=rfl;generalize cK a b=i at*;cases D:cJ a with
 |false=>rw[if_neg (by rw[D];simp)]at k;refine bp (nU a c p h G δ d) ?_;rw[<-k];exact⟨_,θ,θ,Θ,rfl⟩
 |true=>
 rw[if_pos D]at k;refine bp (nU a c p h G δ d) ?_;have C:=A7 a c p b h D d;have E:gJ a b=η->db a b<α a:=λz=>by
  simp only[gJ,Υ,decide_eq_true_eq]at z;exact z.1
 generalize db a b=o at*;cases x:gJ a b with
 |false=>rw[if_neg (by rw[x];simp)]at k;rw[x]at C;refine bp C ?_;rw[<-k];exact⟨_,θ,θ,Θ,rfl⟩
 |true=>
 rw[if_pos x]at k;rw[x]at C;have E:=E x;refine bp C ?_;refine ah (A5 a c p d h L) ?_;intro W e f;have F:=h.cells λ_ _=>ed.cells;have g:(flat c).length=α a*76:=by rw[cU F,V]
 refine aa ?_;refine ah (a4d d e (flat c) W f (α a) g o E L) ?_;intro r j P;refine aa ?_;refine⟨_,θ,?_⟩;rw[<-k];rw[(gh (o+1) F).1,(gh o F).2,<-pt]at P;exact⟨r,c.take o++c.drop (o+1),(h.take o).append (h.drop (o+1)),P,rfl⟩
variable{t Z:R -> U -> Prop}{K:Ctx}{b4:FuncId}{w j4:ϊ}
def fN{d:U->Prop}(h:∀w a,cw s e w a->d a)(c:AC K.p b4 g f λ_ a=>cw s e w a)(k:∀b a,cw s e w a->Z b a)
  (o:∀b a,d a->t b a=Z b a:=by intro b f c;simp -dsimp -implicitDefEqProofs (disch:=first|omega|assumption|exact U.uC abE abE|(simp only[aW,Nat.reduceAdd];try omega)) only[go_sem,simprocAttr,-List.reduceReplicate,↓eS,uD,uB, *]<;>rfl):oe K b4 g f (bX t ()):=ah c λb a c=>(o b a (h w a c)).mpr (k b a c)
theorem GV(D e:U)(c:Nat)(d:ϊ)(a:ao)(r x y:Own)(G:cw D c d e)(X:α d<=1000000000)(f:α a.sum=32)(n:a.hL):
  AC γ 74 [.ptr c 0,.agg (ab a r x y)] e λ_ h=>cw D c (d++ea a) h:=by
 have Y:=(aP (N:=r) (e6:=x) (h6:=y) f).all;generalize ab a r x y=L at*;obtain⟨Z,j9,k0,q,k1,s,k2⟩:=n;obtain⟨P,t⟩:=a9o q;obtain⟨S,u⟩:=a9o s;have k3:∀z:ϊ,(.agg (z.map aj))=br z:=λ_=>rfl;refine aK hm Nk ?_;refine aN λz v=>?_;obtain⟨w,A,g⟩:=G.new (ob:=.cells L) v;have E:∀d h,cw (D.set z (.cells L)) c d h->h.read z=β L:=λd h G=>κ (G.get w (ξ _ _ _));refine aa ?_;refine fN E (DE _ _ c _ _ f g δ) λ_ i o=>?_;refine fN E (sL _ _ c _ _ δ o Μ) λ_ i o=>?_;refine fN E (sL _ _ c _ _ δ o (by simp[kF];omega)) λ_ i o=>?_;refine jT λk4 B=>?_;have T:aB isRow [a.aT,a.aS,a.key] [.J (ad a.aT) r,.J (ad a.aS) x,.J (ad a.key) y]:=⟨⟨_,rfl⟩,⟨_,rfl⟩,⟨_,rfl⟩,trivial⟩;have p:∀C∈ [a.aT,a.aS,a.key],α C<=8:=Μ;have H:∀C:Ω,(dE C).length=8*α C+1:=λC=>by rw[dE,a7s,oB]
 have V:ea a=a.sum++fp P++fp S++[a.aT,a.aS,a.key].flatMap dE:=by rw[ea,t,u];simp
 obtain⟨k,F⟩:∃k,[a.aT,a.aS,a.key]=k:=⟨_,rfl⟩;have k5:α k=3:=by rw[<-F];rfl
 rw[F]at T p V;have I:∀b,b<=3->((k.take b).flatMap dE).length<=65*b:=λb j=>by
  rw[<-F]at p|-;have:=p a.aT ς;have:=p a.aS ς;have:=p a.key ς;rcases(by omega:b=0\/b=1\/b=2\/b=3)with rfl|rfl|rfl|rfl<;>simp[H]<;>omega
 generalize (([.J (ad a.aT) r,.J (ad a.aS) x,.J (ad a.key) y]):ύ)=l at*;obtain⟨_,W,K⟩:=o.new (ob:=.buf 1 (α l) (α l)) B;have W:=(Η W).1;have k6:=T.len;rw[V,<-a7B,<-a7B,<-a7B];have k7:(d++a.sum++fp P++fp S).length<=1000001000:=by simp[kF];omega
 generalize d++a.sum++fp P++fp S=M at*;clear E F V o g;refine cc [0,26,27] (λb:Nat=>[(28,.v (.int .i64 b))]) (λb h=>b<=3/\cw D c (M++(k.take b).flatMap dE) h) (λb=>3 - b) 0 ⟨⟨δ,by simpa using K.base (μ (μ θ A) W)⟩,aO⟩ ?_;rintro b k8⟨j,N⟩k9;refine aa ?_;refine aF (λO=>?_) λO=>?_
 .have m:k[b]?=β (k.getD b []):=by grind
  obtain⟨_,l0,Q,rfl⟩:=T.get m;have l1:=p _ (a7r m);have l2:=I b j;refine aa ?_;refine ie (sM _ _ c _ _ Q δ N (by rw[Ψ];omega)) λ_ l3 l4=>?_;refine⟨b+1,⟨δ,?_⟩,rfl,δ⟩;grind[eX,List.append_assoc]
 .obtain rfl:b=3:=δ;grind[Ε,θ]
variable{e9:aU}
theorem GW(b:gd e9=η):e9.hL:=by
 simp only[gd,fb,nL,kd,Υ,decide_eq_true_eq,a8Z]at b;obtain⟨⟨⟨_,c⟩,a⟩,d,h,P,S,T⟩:=b;rw[if_pos Θ]at a;simp only[Υ,decide_eq_true_eq,a7E,a8C,mG,kd]at a;obtain⟨k,o,p,r,x,y⟩:=rh d;obtain⟨z,C,D,E,F,G⟩:=rh h;refine⟨c.2,a.1.2.2,λV L=>?_,⟨k,o,δ,p,r,x,y⟩,⟨z,C,?_,D,E,F,G⟩⟩
 .obtain⟨W,e,rfl⟩:=a8a L;simp_all
 grind[az]
theorem p5(a:cJ e3=η):(∀b∈e3,b.hL)/\α e3<=8:=by simp only[cJ,Υ,a7E,a8C,decide_eq_true_eq]at a;refine⟨λb c=>?_,a.2⟩;obtain⟨d,h,rfl⟩:=a8a c;grind[GW,List.getD]
theorem GX(b:List aU)(G:ύ)(W:Own)(z:aB ed b G)(s:∀a∈b,a.Fit)(t:α b<=1000000)(k:U):
  AC γ 33 [.J G W] k λe o=>k.sub o/\if cJ b=η then∃u,e=.aJ [.J ((qb b).map aj) u,.v (.int .i64 0)]else e=.aJ [.J [] .nil,.v (.int .i64 1)]:=by
 have k2:=z.len;have k3:=λL=>iK L;refine aK hm M1 ?_;refine bp (nU b G W z s t _) ?_;refine aF (λC=>?_) λC=>?_
 .trivial
 obtain⟨f,k4⟩:=p5 C;refine bs λh v=>?_;have w:cw k h [] (k.set h (.cells [.J [] .nil,.v (.int .i64 0)])):=⟨.nil,Τ θ⟩;refine ie (ny k _ h [] (ν (α b)) w ς) λ_ k5 k6=>?_;have dc:=a2j z f;refine cc [0,4,19,20] (λc:Nat=>[(21,.v (.int .i64 c))]) (λc o=>c<=α b/\cw k h (ν (α b)::(b.take c).flatMap hs) o) (λc=>α b - c) 0 ⟨⟨δ,by trivial⟩,aO⟩ ?_;rintro c A⟨k7,x⟩B;refine aa ?_;refine aF (λH=>?_) λH=>?_
 .have g:b[c]?=β (b.getD c default):=by simp_all
  obtain⟨_,k8,T,rfl,r⟩:=z.get g;have p:=f _ (a7r g);have i:=dc c;have I:(b.take (c+1)).flatMap hs=(b.take c).flatMap hs++hs (b.getD c default):=by rw[eX (b:=default) δ,a8f];simp
  generalize b.getD c default=a at*;have K:=zh p r.k.1 r.z.1;obtain⟨M,k9,l0,l1,l2,l3,l4,l5,l6,l7,l8,l9,n0⟩:=r.all;obtain⟨_,_,n1,n2⟩:=p2 r;have n3:=hC (n:=.agg T) M;have n4:=kY;have n5:=iZ (e4:=a.aD);have n9:=@ts a.aD;refine aa ?_;refine aN λP L=>?_;obtain⟨N,O,D⟩:=x.new (ob:=.cells T) L;have E:∀aV o,cw (k.set P (.cells T)) h aV o->o.read P=β T:=λaV o Q=>κ (Q.get N (ξ _ _ _));have a00:∀aV:ϊ,uw (bo aV)=β (.J (aV.map aj) .any):=λaV=>rfl;obtain⟨y,S⟩:∃y,ν (α b)::(b.take c).flatMap hs=y:=⟨_,rfl⟩;rw[S]at D;have a01:α y<=9000:=by rw[<-S,a7s];omega
  rw[hs,Ψ]at K;have a02:=y0 a.name;have a03:=p.n;have a04:=p.c;refine aa ?_;refine fN E (DP _ _ h _ a.name .any δ D δ) λ_ j D=>?_;refine fN E (ny _ _ h _ (ν (α a.aD)) D (by rw[Ψ];omega)) λ_ a05 X=>?_;have a06:(y++im a.name++[ν (α a.aD)]).length<=10000:=by grind
  have l:∀d,((a.aD.take d).flatMap im).length<=200:=λd=>by
   have:=FK (e4:=a.aD.take d) λC Y=>p.cs C (a7A Y);rw[a7q]at this;omega
  refine cc [4,6,21,37,38] (λd:Nat=>[(39,.v (.int .i64 d))]) (λd o=>d<=α a.aD/\cw (k.set P (.cells T)) h (y++im a.name++[ν (α a.aD)]++(a.aD.take d).flatMap im) o) (λd=>α a.aD - d) 0 ⟨⟨δ,by simpa using X⟩,aO⟩ ?_;rintro d a07⟨a08,F⟩B;have a09:=E _ _ F;refine aa ?_;refine aF (λc2=>?_) λc2=>?_
  .have m:=l d;have a10:=p.cs (a.aD.getD d []) (by simp_all);refine ie (DP _ _ h _ (a.aD.getD d []) .any δ F (by rw[Ψ];omega)) λ_ Z V=>?_;refine⟨d+1,⟨δ,?_⟩,rfl,δ⟩;rw[eX (b:=[]) δ,a8f,<-a7B];simpa using V
  .obtain rfl:d=α a.aD:=δ;have m:=l (α a.aD);rw[a7K]at F m;have a11:=sU r.k.1 p.k;refine fN E (GV _ _ h _ a.bf _ _ _ F (by rw[Ψ];omega) r.k.1 p.k) λ_ Z V=>?_;refine ie (GV _ _ h _ a.bm _ _ _ V (by grind) r.z.1 p.z) λ_ a13 j9=>?_;refine⟨c+1,⟨δ,?_⟩,rfl,δ⟩;have k0:=j9.base (μ θ O);rw[I,<-a8A,S,hs];simpa using k0
 .obtain rfl:c=α b:=δ;have i:=dc (α b);rw[a7K]at x i;refine ah (DD k A h _ x (by rw[a7s];omega)) ?_;rintro _ j⟨n,q,rfl⟩;refine aa ?_;refine bp (DQ k j h _ (x.mono q.sub)) ?_;have k1:=π (x.sub v) q.sub
  first|exact⟨n,rfl⟩|exact⟨k1,n,rfl⟩
theorem GY(n k1:U)(h:Nat)(A:ao)(D:ϊ)(l1:n h=ζ)(l2:A.In 8)(e:c6 n h ⟨ea A++D,0⟩ k1):
  AC γ 133 [.ptr h 0] k1 λq S=>c6 n h ⟨D,0⟩ S/\∃F G L,q=.agg (ab A F G L):=by
 have fB:=aP (N:=.nil) (e6:=.nil) (h6:=.nil) bl;have a08:=fB.len;have a09:=fB.t37;obtain⟨a,b,c,a10,cf,d⟩:=A;obtain⟨P,l3,l4,l5,l6,l7,l8,l9,a11,n0,a13⟩:=l2;obtain⟨o,rfl⟩:=a9o l9;obtain⟨r,rfl⟩:=a9o n0
 dsimp only at*
 have n1:ea ⟨a,b,c,(o),(r),d⟩++D=a++(fp o++(fp r++(dE b++(dE c++(dE d++D))))):=by simp[ea]
 rw[n1]at e;have a14:(br a).cells=a.map aj:=rfl;have a15:(a.map aj).length=32:=by simp[P]
 have a16:=ch;have a18:putAt (ab az .nil .nil .nil) 0 (a.map aj)=ab ⟨a,[],[],0,0,[]⟩ .nil .nil .nil:=vd bl P;have a19:∀(b c)(T V)(d)(F G L),putAt (ab az .nil .nil .nil) 0 (ab ⟨a,b,c,T,V,d⟩ F G L)=ab ⟨a,b,c,T,V,d⟩ F G L:=λb c T V d F G L=>cx bl P;have cl:∀(b c)(T V)(d)(F G L),(ab ⟨a,b,c,T,V,d⟩ F G L).length=37/\(ab ⟨a,b,c,T,V,d⟩ F G L).take 37=ab ⟨a,b,c,T,V,d⟩ F G L:=λb c T V d F G L=>by
  have:=aP (A:=⟨a,b,c,T,V,d⟩) (N:=F) (e6:=G) (h6:=L) P;exact⟨this.len,this.t37⟩
 refine aK hm Pc ?_;refine aN λq n2=>?_;rw[ch];obtain⟨B,k2,e⟩:=e.new (ob:=.cells (ab az .nil .nil .nil)) n2;refine aa ?_;have k3:=DM _ _ h _ e;rw[DX _ _ P]at k3;refine ah k3 ?_;rintro _ a27⟨M,rfl⟩
 dsimp only at M|-
 refine aa ?_;refine aN λz N=>?_;obtain⟨f,k4,k5⟩:=M.new (ob:=.cells (ab ⟨a,[],[],0,0,[]⟩ .nil .nil .nil)) N;have n3:q≠z:=by rintro rfl;rw[M.get B (ξ _ _ _)]at N;cases N
 obtain⟨W,H⟩:∃W,n.set q (.cells (ab az .nil .nil .nil))=W:=⟨_,rfl⟩;have n4:W h=none:=by rw[<-H,ο _ _ (Ι B)];exact l1
 have n5:W q=β (.cells (ab az .nil .nil .nil)):=by rw[<-H,ξ]
 have k6:n.sub W:=by rw[<-H];exact μ θ k2
 rw[H]at k5 k4;have k7:∀ {g O S},c6 (W.set z g) h O S->S z=β g:=λe=>e.get f (ξ _ _ _);refine aa ?_;have s:=sN _ _ h 1048576 δ _ k5;rw[uV _ δ]at s;refine ah s ?_;rintro _ a29⟨t,rfl⟩;have a30:=χ (k7 t);have i:putAt (ab ⟨a,[],[],0,0,[]⟩ .nil .nil .nil) 34 [.v (.int .i64 (o))]=ab ⟨a,[],[],(o),0,[]⟩ .nil .nil .nil:=sV P;have t:=t.put (.cells (ab ⟨a,[],[],(o),0,[]⟩ .nil .nil .nil)) f
 dsimp only at t|-
 refine aa ?_;have s:=sN _ _ h 1048576 δ _ t;rw[uV _ δ]at s;refine ah s ?_;rintro _ a34⟨u,rfl⟩;have a36:=χ (k7 u);have a38:putAt (ab ⟨a,[],[],(o),0,[]⟩ .nil .nil .nil) 35 [.v (.int .i64 (r))]=ab ⟨a,[],[],(o),(r),[]⟩ .nil .nil .nil:=sW P;have u:=u.put (.cells (ab ⟨a,[],[],(o),(r),[]⟩ .nil .nil .nil)) f
 dsimp only at u|-
 refine aa ?_;refine jT λQ n9=>?_;obtain⟨a00,a01,X⟩:=u.new (ob:=.buf 1 3 3) n9;have Y:z≠Q:=by grind
 have a02:W Q=none:=by rwa[ο _ _ (Ι Y)]at a01
 rw[U.ef _ Y]at X;obtain⟨E,I⟩:∃E,W.set Q (.buf 1 3 3)=E:=⟨_,rfl⟩;rw[I]at X;have Z:W.sub E:=by rw[<-I];exact μ θ a02
 have a03:E h=none:=by rw[<-I,ο _ _ (Ι a00)];exact n4
 have a04:E z=none:=by rw[<-I,ο _ _ Y];exact k4
 have j:∀ {g O S},c6 (E.set z g) h O S->S z=β g:=λe=>e.get f (ξ _ _ _);have j9:∀g,(E.set z g) h=none:=λg=>by rw[ο _ _ (Ι f)];exact a03
 let a05:Nat->ao:=λk=>⟨a,if 0<k then b else [],if 1<k then c else [],(o),(r),if 2<k then d else []⟩
 let a06:Nat->ϊ:=λk=>if k=0 then dE b++(dE c++(dE d++D))else if k=1 then dE c++(dE d++D)else if k=2 then dE d++D else D;refine cc [0,2,3,20,21] (λk:Nat=>[(22,.v (.int .i64 k))]) (λk S=>k<=3/\∃x y i,c6 (E.set z (.cells (ab (a05 k) x y i))) h ⟨a06 k,0⟩ S) (λk=>3 - k) 0 ⟨⟨δ,.nil,.nil,.nil,X⟩,aO⟩ ?_;rintro k K⟨a42,x,y,m,p⟩a43;refine aa ?_;refine aF (λa07=>?_) λa07=>?_
 .have k0:=χ (j p);rcases(by omega:k=0\/k=1\/k=2)with rfl|rfl|rfl
  .have p:c6 (E.set z (.cells (ab ⟨a,[],[],(o),(r),[]⟩ x y m))) h ⟨dE b++(dE c++(dE d++D)),0⟩ K:=p;have k0:=χ (j p);have l:=pR _ _ h 8 δ _ (j9 _) p;rw[pS b 8 _ l6 δ l3]at l;refine aa ?_;refine ah l ?_;rintro _ k8⟨C,k9,rfl⟩;have l0:=χ (j C);have v:=λx y i w=>Ee (A:=⟨a,[],[],(o),(r),[]⟩) (a:=x) (N:=y) (e6:=i) (h6:=w) (q:=b) P
   dsimp only at v C|-
   refine aa ?_;exact⟨1,⟨δ,_,_,_,C.put _ f⟩,rfl,δ⟩
  .have p:c6 (E.set z (.cells (ab ⟨a,b,[],(o),(r),[]⟩ x y m))) h ⟨dE c++(dE d++D),0⟩ K:=p;have k0:=χ (j p);have l:=pR _ _ h 8 δ _ (j9 _) p;rw[pS c 8 _ l7 δ l4]at l;refine aa ?_;refine ah l ?_;rintro _ k8⟨C,k9,rfl⟩;have l0:=χ (j C);have v:=λx y i w=>Ef (A:=⟨a,b,[],(o),(r),[]⟩) (N:=x) (a:=y) (e6:=i) (h6:=w) (q:=c) P
   dsimp only at v C|-
   refine aa ?_;exact⟨2,⟨δ,_,_,_,C.put _ f⟩,rfl,δ⟩
  .have p:c6 (E.set z (.cells (ab ⟨a,b,c,(o),(r),[]⟩ x y m))) h ⟨dE d++D,0⟩ K:=p;have k0:=χ (j p);have l:=pR _ _ h 8 δ _ (j9 _) p;rw[pS d 8 _ l8 δ l5]at l;refine aa ?_;refine ah l ?_;rintro _ k8⟨C,k9,rfl⟩;have l0:=χ (j C);have v:=λx y i w=>sX (A:=⟨a,b,c,(o),(r),[]⟩) (N:=x) (e6:=y) (a:=i) (h6:=w) (q:=d) P
   dsimp only at v C|-
   refine aa ?_;exact⟨3,⟨δ,_,_,_,C.put _ f⟩,rfl,δ⟩
 .obtain rfl:k=3:=δ;have p:c6 (E.set z (.cells (ab ⟨a,b,c,(o),(r),d⟩ x y m))) h ⟨D,0⟩ K:=p;have a47:=κ (j p);have a48:=χ (p.get B (by rw[ο _ _ n3];exact Z _ _ n5));have cO:=cl b c o r d x y m;refine aa ?_;have C:=p.other (ob:=.cells (ab ⟨a,b,c,(o),(r),d⟩ x y m)) B;refine⟨_,θ,C.base ?_,_,_,_,rfl⟩;exact μ (μ (π k6 Z) (Ο (π k6 Z) a04)) k2
theorem a4f(a b:Nat)(d:a<=b)(h:b<=1048576)(c:ϊ):fG b ⟨fp a++c,0⟩=(a,⟨c,0⟩):=by have k:=r8 (fp a) c;grind[kF,fG,fo,fp,UInt8.toNat_ofNat',Nat.shiftRight_eq_div_pow]
def GZ(a:ϊ)(b:Nat)(d:α a<=b)(h:b<=1048576)(c:ϊ):r7 b ⟨im a++c,0⟩=(a,⟨c,0⟩):=by unfold r7;rw[im,a7B,a4f _ _ d h,r8];rfl
structure aU.In(t:aU):Prop where
 le:t.hL
 k:t.bf.In 8
 z:t.bm.In 8
variable{e4:List ϊ}
def tO:aY 1 (bM e4):=λb a=>by obtain⟨_,_,rfl⟩:=a7G.1 a;rfl
theorem a4g(V N:U)(p:Nat)(i:aU)(y:ϊ)(l1:V p=ζ)(l2:i.In)(D:c6 V p ⟨hs i++y,0⟩ N):
  AC γ 79 [.ptr p 0] N λW E=>c6 V p ⟨y,0⟩ E/\ed i W:=by
 obtain⟨h,a,e,F⟩:=i;obtain⟨⟨l3,a13,a3,_,_⟩,G,L⟩:=l2
 dsimp only at*
 have l4:hs ⟨h,a,e,F⟩++y=im h++(ν (α a)::(a.flatMap im++(ea e++(ea F++y)))):=by simp[hs]
 rw[l4]at D;have a14:=kY;refine aK hm Nv ?_;refine aN λW l5=>?_;rw[kY];obtain⟨j,O,D⟩:=D.new (ob:=.cells fJ) l5;refine aa ?_;have f:=DS _ _ p 16 δ _ D;rw[GZ _ _ l3 δ]at f;refine ah f ?_;rintro _ a15⟨g,t,_,rfl⟩;have a16:=@pG h t
 dsimp only at g|-
 refine aa ?_;have u:∀(z) b c k,α c=37->α k=37->(bo h::R.J (bM z) b::(c++k)).length=76/\(bo h::R.J (bM z) b::(c++k)).take 76=bo h::R.J (bM z) b::(c++k)/\putAt fJ 0 (bo h::R.J (bM z) b::(c++k))=bo h::R.J (bM z) b::(c++k):=λz b c k g l=>by
  have l6:(bo h::R.J (bM z) b::(c++k)).length=76:=by simp[g,l]
  exact⟨l6,Φ δ,sq (by trivial)⟩
 obtain⟨o,Q⟩:∃o,ab az .nil .nil .nil=o:=⟨_,rfl⟩;have v:α o=37:=by rw[<-Q];rfl
 have a18:=ht.all.1;refine aN λP w=>?_;obtain⟨S,X,l⟩:=g.new (ob:=.cells (bo h::.J [] .nil::(o++o))) w;have l7:=u [] .nil o o v v;rw[show bM []=[]from rfl]at l7;have Y:W≠P:=by rintro rfl;rw[g.get j (ξ _ _ _)]at w;cases w
 obtain⟨r,m⟩:∃r,V.set W (.cells fJ)=r:=⟨_,rfl⟩;have l8:r p=none:=by rw[<-m,ο _ _ (Ι j)];exact l1
 have l9:r W=β (.cells fJ):=by rw[<-m,ξ]
 have Z:V.sub r:=by rw[<-m];exact μ θ O
 rw[m]at l X;rw[Q];refine aa ?_;have j9:=pP _ _ p _ l;rw[oD]at j9;have n0:(ν (α a)).toNat=α a:=by rw[a8p];omega
 have a19:min (α a:Int) 8=(α a):=δ;refine ah j9 ?_;rintro _ a27⟨A,rfl⟩;obtain⟨n1,A⟩:=A;rw[n0];refine aa ?_;have a29:∀x B,((r.set P x).set p B) p=β B:=λx B=>ξ _ _ _;have k0:∀x,(r.set P x) p=none:=λx=>by rw[ο _ _ (Ι S)];exact l8
 have T:∀ {x n2 E},c6 (r.set P x) p n2 E->E P=β x:=λD=>D.get S (ξ _ _ _);refine cc [0,2,3,11] (λd:Nat=>[(12,.v (.int .i64 d))]) (λd E=>d<=α a/\∃b t,bj ((r.set P (.cells (bo h::.J (bM (a.take d)) b::(o++o)))).set p (il ⟨(a.drop d).flatMap im++(ea e++(ea F++y)),0⟩ t)) E 1 (bM (a.take d)) b) (λd=>α a - d) 0 ⟨⟨δ,.nil,n1,Τ A⟩,aO⟩ ?_;rintro d n3⟨a30,b,a34,k1⟩a36;have n:=cM.rs k1;have n4:=κ (T n);refine aa ?_;refine aF (λn5=>?_) λn5=>?_
 .have n9:=a3 (a.getD d []) (by simp_all);have a00:=drop_cons (a:=a) (b:=[]) (e:=d) δ;have k2:=eX (a:=a) (b:=[]) (e:=d) δ;have f:=DS _ _ p 16 δ _ n.full;rw[a00,a7P,a7B,GZ _ _ n9 δ]at f;refine ah f ?_;rintro _ a01⟨q,a02,_,rfl⟩;obtain⟨a38,H⟩:=cM.step k1 (k0 _) q;have a03:=T (cM.rs H);have a42:=κ a03;have a43:=@pG (a.getD d []) a02
  dsimp only at H|-
  refine aa ?_;refine jT (λa47 a04=>?_) (d:=tO (e4:=[_]));have a48:=λd=>iZ (e4:=a.take d);refine ep (H.mono (μ θ a04)) tO (tO (e4:=[_])) (by simp[iZ];omega) (by simp[iZ];omega) λa05 a52 C=>?_;have k3:bM (a.take d)++[bo (a.getD d [])]=bM (a.take (d+1)):=by rw[k2];simp[bM]
  rw[k3]at C|-;clear k2 k3;have a06:=χ (T (cM.rs C));refine aa ?_;have s:=C.set (ob:=.cells (bo h::.J (bM (a.take (d+1))) a05::(o++o))) (by rw[ο _ _ S];exact ξ _ _ _);rw[U.ef _ (Ι S),τ]at s;grind
 .obtain rfl:d=α a:=δ;rw[a9v,a7K]at n;rw[a7K]at n4;have k4:=k0;have a07:=GY _ n3 p e (ea F++y) (k4 _) G n;refine ah a07 ?_;rintro _ a01⟨q,k5,k6,k7,rfl⟩;obtain⟨c,I⟩:∃c,ab e k5 k6 k7=c:=⟨_,rfl⟩;have K:α c=37:=by rw[<-I];exact(aP G.sum).len
  have a56:=χ (T q);have a57:putAt (bo h::R.J (bM a) b::(o++o)) 2 c=bo h::R.J (bM a) b::(c++o):=by simp only[putAt,aaa,a9m,K,a8A,a7H,Nat.reduceAdd,a8G];simp_all
  have a08:=q.put (.cells (bo h::.J (bM a) b::(c++o))) S;have a61:=u a b c o K v;rw[I];refine aa ?_;have a09:=GY _ _ p F y (k4 _) L a08;refine ah a09 ?_;rintro _ a62⟨C,k8,k9,l0,rfl⟩;obtain⟨k,M⟩:∃k,ab F k8 k9 l0=k:=⟨_,rfl⟩;have a10:α k=37:=by rw[<-M];exact(aP L.sum).len
  have a06:=χ (T C);have a63:putAt (bo h::R.J (bM a) b::(c++o)) 39 k=bo h::R.J (bM a) b::(c++k):=by simp_all [putAt]
  have s:=C.put (.cells (bo h::.J (bM a) b::(c++k))) S;have a65:=u a b c k K a10;have a68:=χ (C.get j (by rw[ο _ _ Y];exact l9));have a69:=κ (T s);have a71:=Ι Y;rw[M];refine aa ?_;have a11:=s.other (ob:=.cells (bo h::.J (bM a) b::(c++k))) j;refine⟨_,θ,a11.base ?_,_,rfl,⟨b,k5,k6,k7,k8,k9,l0,by rw[I,M]⟩,⟨G.sum,?_⟩,⟨L.sum,?_⟩,(show α a<=1000000 by omega)⟩
  .exact μ (μ Z (Ο Z X)) O
  .exact⟨a8m G.nC Θ,a8m G.nD Θ,a8m G.nE Θ⟩
  .exact⟨a8m L.nC Θ,a8m L.nD Θ,a8m L.nE Θ⟩
def aU.In.fit(a:e9.In):e9.Fit:=⟨by have:=a.le.n;omega,by have:=a.le.c;omega,λb c=>by have:=a.le.cs b c;omega⟩
theorem a4h(b:∀c∈e3,c.In):(e3.flatMap hs).length<=1000*α e3:=by
 induction e3 with
 |nil=>simp
 |cons d e3 ih=>have a:=b d ς;have:=zh a.le a.k.sum a.z.sum;grind
theorem a4i(a:List aU)(x:Own)(o:U)(P:cJ a=η)(y:∀z∈a,z.In):
  AC γ 34 [.J ((qb a).map aj) x] o λl C=>∃c S,bj o C 76 c S/\aB ed a c/\l=.aJ [.J c S,.v (.int .i64 0)]:=by
 obtain⟨j9,k0⟩:=p5 P;have k1:=a4h y;have k2:(qb a).length<=9000:=by rw[qb,a7s];omega
 refine nr λk3=>?_;have m:x=.nil->qb a=[]:=λn=>by simp_all
 refine aK hm M4 ?_;have q:(ν (α a)).toNat=α a:=by rw[a8p];omega
 have k4:min (α a:Int) 9=(α a):=δ;refine ah (DG (qb a) x o m δ) ?_;rintro _ k5⟨k,D,rfl,s⟩;refine aa ?_;have V:=pP _ _ k _ s;rw[qb,oD]at V;refine ah V ?_;rintro _ k6⟨⟨t,u⟩,rfl⟩;rw[q];refine aa ?_;refine cc [0,4,13] (λb:Nat×ύ×Own=>[(14,.v (.int .i64 b.1)),(5,.J b.2.1 b.2.2)]) (λb C=>b.1<=α a/\aB ed (a.take b.1) b.2.1/\∃v,bj (o.set k (il ⟨(a.drop b.1).flatMap hs,0⟩ v)) C 76 b.2.1 b.2.2) (λb=>α a - b.1) (0,[],.nil) ⟨⟨δ,trivial,t,Τ u⟩,aO⟩ ?_;rintro⟨d,c,W⟩ e ⟨w,h,k7,p⟩ k8
 dsimp only at w h p|-
 have E:=cM.rs p;have k9:α c=d:=by rw[h.len,a7q];omega
 refine aa ?_;refine aF (λA=>?_) λA=>?_
 .have l0:=drop_cons (a:=a) (b:=default) (e:=d) δ;have B:=eX (a:=a) (b:=default) (e:=d) δ;have H:=y (a.getD d default) (by simp_all);have I:=a4g (e.del k) e k (a.getD d default) ((a.drop (d+1)).flatMap hs) (by simp[U.del]) H (by have:=E.full;grind);refine ah I ?_;rintro l1 f⟨F,g⟩;obtain⟨i,G⟩:=cM.step p D F;have K:=g;obtain⟨T,rfl,M⟩:=g;have N:=M.all.1;refine aa ?_;refine jT (λl2 O=>?_);refine ep (G.mono (μ θ O)) (h.cells λ_ _ L=>by obtain⟨_,rfl,L⟩:=L;exact L.all.1) (λn r=>by rw[a7I]at r;subst r;exact N) Μ Μ λQ l3 X=>?_;refine aa ?_;refine⟨(d+1,c++[.agg T],Q),⟨by simp only;omega,?_,i,X⟩,⟨rfl,rfl⟩,by simp only;omega⟩;simp only[B];exact h.snoc K
 .obtain rfl:d=α a:=δ;rw[a9v]at E;rw[a7K]at h;have r:=DN _ _ k _ E.full;refine ah r ?_;rintro _ f⟨F,rfl⟩;have l4:(pQ ⟨List.flatMap hs [],0⟩).e=0:=rfl;refine aa ?_;have j:=GX a c W h (λz Y=>(y z Y).fit) δ f;simp only[P,if_true]at j;refine ah j ?_;rintro _ l5⟨Z,l6,rfl⟩;refine aa ?_;refine bp (DW _ _ _ _ _ δ) ?_;obtain⟨i,G⟩:=cM.step p D F;exact⟨_,θ,c,W,(G.base (μ θ D)).mono Z,h,rfl⟩
theorem a4j(a:List ϊ)(d:Own)(c:U)(C:α a<=1000000):
  AC γ 100 [.J (bM a) d] c λh k=>c.sub k/\∃o,h=.J (bM a) o:=by
 have D:=iZ (e4:=a);refine nr λE=>?_;have p:d=.nil->bM a=[]:=λF=>by simp_all
 refine bd hm Ob ς ?_;simp -dsimp -implicitDefEqProofs (disch:=first|omega|assumption|(simp only[aW,Nat.reduceAdd];try omega)) only[go_sem,simprocAttr,↓oz];refine oA (λb=>by rw[p b]) (λb=>?_) ?_
 .have r:bM a=[]:=by trivial
  rw[r];simp -dsimp -implicitDefEqProofs (disch:=first|omega|assumption|(simp only[aW,Nat.reduceAdd];try omega)) only[go_sem,simprocAttr,a8i];exact⟨c,θ,θ,_,rfl⟩
 .simp -dsimp -implicitDefEqProofs (disch:=first|omega|assumption|(simp only[aW,Nat.reduceAdd];try omega)) only[go_sem,simprocAttr];refine dJ θ (by simp[aY]) λG L x=>?_;simp -dsimp -implicitDefEqProofs (disch:=first|omega|assumption|(simp only[aW,Nat.reduceAdd];try omega)) only[go_sem,simprocAttr];refine ep x (λ_ b=>by cases b) tO (by rw[a7x];omega) (by rw[a7x];omega) λP y z=>?_;simp -dsimp -implicitDefEqProofs (disch:=first|omega|assumption|(simp only[aW,Nat.reduceAdd];try omega)) only[go_sem,simprocAttr,a7H];exact⟨y,θ,z.sub,_,rfl⟩
structure dI(b:U)(a gG c:Nat)(h:af)(l:List aU):Prop where
 fV:bq b gG c h
 x:∃d o,b a=β (.cells [.ptr gG 0,.J d o])/\aB ed l d
 nX:a≠gG
 nY:a≠c
def cB(c d h:Nat)(k o:U):Prop:=∀a b,a≠c->a≠d->a≠h->k a=β b->o a=β b
theorem cB.of{X lM:Nat}{s:U}(a:s.sub f):cB X e lM s f:=λb c _ _ _ d=>a b c d
def cB.ext(a:Ext e i f s):cB v e i f s:=λb c _ d h k=>a b c d h k
theorem cB.trans(k:cB e i v f s)(o:cB e i v s e0):cB e i v f e0:=λa b c d h p=>o a b c d h (k a b c d h p)
variable{Y:bu}
def cB.A9(b:cB e i v f s):cB e i v f (s.set e Y):=λc d a h k o=>by rw[ο _ _ a];exact b c d a h k o
def dI.sub(a:dI f e i v B e3)(b:f.sub s):dI s e i v B e3:=⟨a.fV.mono b,by obtain⟨c,d,h,k⟩:=a.x;exact⟨c,d,b _ _ h,k⟩,a.nX,a.nY⟩
variable{N e6 h6:Own}
def dI.put{b:List aU}(a:dI f e i v B b)(c:aB ed e3 g):dI (f.set e (.cells [.ptr i 0,.J g N])) e i v B e3:=⟨a.fV.set ⟨a.nX,a.nY⟩,⟨g,N,ξ _ _ _,c⟩,a.nX,a.nY⟩
def jc(a:Except Int (List aU))(b:List aU):Int×List aU:=match a with
 |.error c=>(c,b)
 |.ok d=>(0,d)
def a4k(d:U)(b r x:Nat)(C:af)(a:List aU)(D:dI d b r x C a)(f:∀c∈a,c.Fit)(g:α a<=1000)(h:du):
  AC γ 56 [.ptr b 0,h.V] d λE F=>dI F b r x C (jc (cK a h.d.table) a).2/\cB b r x d F/\E=.v (.int .i64 (jc (cK a h.d.table) a).1):=by
 obtain⟨i,j,y,l⟩:=D.x;obtain⟨⟨G,c,L,P⟩,S,T⟩:=h
 dsimp only
 show AC γ _ [.ptr b 0,.agg [aj G,bo c,.J (bM L) S,.J (ad P) T]] d _;refine aK hm ML ?_;refine bs λV z=>?_;have k:=μ (Y:=.cells [aj G,bo c,.J (bM L) S,.J (ad P) T]) (θ) z;have s:=κ y;have m:b≠V:=by rintro rfl;rw[y]at z;cases z
 have t:=m.symm;refine aa ?_;generalize d.set V _=n at*;refine ah (a4e a i j c l f g n) ?_;rintro E u⟨o,p⟩;have v:=χ (o _ _ (k _ _ y));have W:=D.sub (π k o);cases e:cK a c with
 |error w=>rw[e]at p;obtain⟨A,rfl⟩:=p;refine aa ?_;exact⟨_,θ,W,cB.of (π k o),rfl⟩
 |ok B=>rw[e]at p;obtain⟨H,q,rfl⟩:=p;refine aa ?_;exact⟨_,θ,W.put q,(cB.of (π k o)).A9,rfl⟩
def a4l(h:U)(k E F:Nat)(g:af)(a:List aU)(i:dI h k E F g a)(v:∀b∈a,b.Fit)(w:α a<=1000)(d:du)(A:d.d.Fit):
  AC γ 55 [.ptr k 0,d.V] h λj l=>dI l k E F g (jc (kk a ⟨d.d.table,d.d.aD,az,az⟩) a).2/\cB k E F h l/\j=.v (.int .i64 (jc (kk a ⟨d.d.table,d.d.aD,az,az⟩) a).1):=by
 obtain⟨B,H,r,I⟩:=i.x;obtain⟨⟨G,b,c,L⟩,x,P⟩:=d;obtain⟨K,S,M,j9⟩:=A
 dsimp only at*
 show AC γ _ [.ptr k 0,.agg [aj G,bo b,.J (bM c) x,.J (ad L) P]] h _;refine aK hm MJ ?_;refine bs λT V=>?_;have W:=μ (Y:=.cells [aj G,bo b,.J (bM c) x,.J (ad L) P]) (θ) V;have k0:=κ r;have N:k≠T:=by rintro rfl;rw[r]at V;cases V
 have k1:=N.symm;refine aa ?_;have aE:=ξ h T (.cells [aj G,bo b,.J (bM c) x,.J (ad L) P]);generalize h.set T _=O at*;refine ah (a4j c x O S) ?_;rintro _ Q⟨y,m,rfl⟩;have eP:=κ (y _ _ (W _ _ r));have k2:=κ (y _ _ aE);refine aa ?_;rw[kY];have e:eL ⟨b,c,az,az⟩ (bo b::.J (bM c) m::(ab az .nil .nil .nil++ab az .nil .nil .nil)):=⟨⟨m,_,_,_,_,_,_,rfl⟩,⟨bl,pV⟩,⟨bl,pV⟩,S⟩;have n:fJ=bo []::.J [] .nil::(ab az .nil .nil .nil++ab az .nil .nil .nil):=rfl;have X:∀z C o:R,∀p:ύ,putAt (z::C::p) 0 [o]=o::C::p:=λ_ _ _ _=>rfl;have k3:∀z C o:R,∀p:ύ,putAt (z::C::p) 1 [o]=z::o::p:=λ_ _ _ _=>rfl;rw[n,X];generalize ab az .nil .nil .nil++ab az .nil .nil .nil=k4 at*;have q:=a4b a B H ⟨b,c,az,az⟩ _ e ⟨K,S,M⟩ I v w Q;have k5:=e.all.1;clear n e;refine aa ?_;refine ah q ?_;clear q;rintro j k6⟨s,D⟩;have Y:=y _ _ (W _ _ r);have k7:=χ (s _ _ Y);have f:=π W (π y s);have t:=i.sub f;cases u:kk a ⟨b,c,az,az⟩with
 |error k8=>rw[u]at D;obtain⟨k9,rfl⟩:=D;refine aa ?_;exact⟨_,θ,t,cB.of f,rfl⟩
 |ok l0=>rw[u]at D;obtain⟨l1,Z,rfl⟩:=D;refine aa ?_;exact⟨_,θ,t.put Z,(cB.of f).A9,rfl⟩
def p6(c:List aU)(b:dt):Int×Option aU:=match c.find? (λa=>decide (a.name=b.table))with
 |none=>(3,ζ)
 |some a=>if α b.row=α a.aD+1 then(0,β a)else(6,β a)
theorem H0(b:U)(r n q:Nat)(s:af)(x:List aU)(t:dI b r n q s x)(Y:α x<=1000)(E:du)(u:E.d.Fit):
  AC γ 102 [.ptr r 0,E.V] b λG v=>b.sub v/\match p6 x E.d with
   |(L,ζ)=>G=.aJ [.agg fJ,.v (.int .i64 L)]
   |(L,β a)=>∃T,eL a T/\G=.aJ [.agg T,.v (.int .i64 L)]:=by
 obtain⟨w,A,P,B⟩:=t.x;obtain⟨⟨y,a,z,c⟩,C,D⟩:=E;obtain⟨Z,j9,k0,k1⟩:=u
 dsimp only at*
 have k2:=bN (q:=c);show AC γ _ [.ptr r 0,.agg [aj y,bo a,.J (bM z) C,.J (ad c) D]] b _;refine aK hm Of ?_;refine bs λd S=>?_;refine dd λh V k3 H=>?_;have k4:=κ P;have I:r≠d:=by rintro rfl;rw[P]at S;cases S
 have k5:=I.symm;have K:r≠h:=by rintro rfl;rw[P]at V;cases V
 have k6:=K.symm;refine aa ?_;rw[kY];have k7:=ht.all.1;have W:∀a T,eL a T->putAt fJ 0 T=T:=λa T M=>(p2 M).2.2.1;have k8:=ht.all.2.1;have k9:=W _ _ ht;generalize i:fJ=e at*;have l0:b.sub ((b.set d (.cells [aj y,bo a,.J (bM z) C,.J (ad c) D])).set h (.cells e)):=μ (μ θ S) V;have aE:((b.set d (.cells [aj y,bo a,.J (bM z) C,.J (ad c) D])).set h (.cells e)) d=β (.cells [aj y,bo a,.J (bM z) C,.J (ad c) D]):=by rw[ο _ _ H,ξ]
 have aL:=ξ (b.set d (.cells [aj y,bo a,.J (bM z) C,.J (ad c) D])) h (.cells e);generalize (b.set d _).set h _=N at*;refine ah (find_spec x w A a B δ N) ?_;rintro G _⟨rfl,o⟩;have l1:=κ aE;have l2:=χ aL;unfold Found at o;rw[i]at o;clear i;unfold p6
 dsimp only
 cases j:x.find? (λp=>decide (p.name=a))with
 |none=>
  rw[j]at o;obtain rfl:=o;refine aa ?_;refine aN λF k=>?_;have f:F≠h:=by rintro rfl;rw[aL]at k;cases k
  have O:=f.symm;exact aO
 |some p=>
  rw[j]at o;obtain⟨T,g,rfl⟩:=o;obtain⟨l3,l4,l5,_⟩:=g.all;have l6:=W _ _ g;have l:=λb=>tC p T g b;clear W;refine aa ?_;refine aN λF k=>?_;have f:F≠h:=by rintro rfl;rw[aL]at k;cases k
  have O:=f.symm;have Q:F≠d:=by rintro rfl;rw[aE]at k;cases k
  have l7:=Q.symm;refine aa ?_;by_cases m:α c=α p.aD+1
  .have X:(α c)=((α p.aD+1:Nat):Int):=δ
   dsimp only
   rw[if_pos m];refine bp (l _) ?_;simp_all
  .have X:¬(α c)=((α p.aD+1:Nat):Int):=δ
   dsimp only
   rw[if_neg m];refine bp (l _) ?_;simp_all
def Aa(a:U)(b c d:Nat)(h:af)(k:List aU)(o:dI a b c d h k):
  AC γ 10 [.ptr b 0] a λp r=>r=a/\p=.ptr c 0:=by
 obtain⟨y,z,x,C⟩:=o.x;have D:=κ x;refine aK hm Ll ?_
 repeat' first|refine aF (λ_=>?_) λ_=>?_|trivial
def a4m(a:U):AC γ 25 [] a λx p=>∃b c d,x=.ptr b 0/\a.sub p/\a b=ζ/\a c=ζ/\a d=ζ/\dI p b c d af.new []:=by refine aK hm LK ?_;refine ah (uX a) ?_;rintro _ C⟨c,d,y,z,rfl,r,h⟩;refine aa ?_;refine aN λb k=>?_;refine aa ?_;have o:=r.cA k;exact⟨_,θ,b,c,d,rfl,μ h (Ο h k),Ο h k,y,z,r.set o,⟨[],.nil,ξ _ _ _,trivial⟩,o.1,o.2⟩
end Go.Proofs.YtcfpcblgmmeioaaGreat
