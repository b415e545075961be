import Derived.Test.YtcfpcblgmmeioaaGreatME
import Derived.Test.YtcfpcblgmmeioaaGreatMC
import Derived.Test.YtcfpcblgmmeioaaGreatMD
import Derived.Test.YtcfpcblgmmeioaaGreatMB
set_option linter.all false
open Option renaming some->β,none->ε
open Go.Proofs.Tryz renaming prog->γ
open List renaming replicate->ζ,range->ψ,zipWith->Α,length_append->Γ,take_of_length_le->Θ,length->α
open Bool renaming true->η,false->ι
open Go.bt.U renaming a6->θ,af->κ,ag->μ,aj->ν,al->ξ,au->ο,set_set->σ,aK->χ,bH->Μ
open BitVec renaming ofInt->π
open Go.bt.R renaming cells->τ
open Go.Proofs.YtcfpcblgmmeioaaGreat.isRow renaming cells->φ
open Prod renaming fst->Β
set_option maxRecDepth 100000
namespace Go.Proofs.YtcfpcblgmmeioaaGreat
open Go Go.bt
variable{N:List Ρ}{g A c0:Χ}
def hU(a:aC isRow N g):bc 1 g:=a.cells λ_ _=>φ
variable{n b6:Ρ}{e i v M b9 h9:Nat}
theorem Di{a:Ρ->Ρ->Bool}(d:∀b<e,a (N.getD b []) n=η)(c:e<=α N)(h:e<α N->a (N.getD e []) n=ι):a1.dF a N n=N.take e++[n]++N.drop e:=by
 rw[a3o];change _=N.take e++n::N.drop e
 induction N generalizing e with
 |nil=>simp at c;subst c;rfl
 |cons k N ih=>
  cases e with
  |zero=>grind[a1.dF,List.takeWhile_cons,List.dropWhile_cons]
  |succ e=>have p:a k n=true:=d 0 δ;have:=ih (λb r=>d (b+1) δ) (by simpa using c) (λo=>h (by simpa using o));simp_all [a1.dF]
theorem XY(b:List Ρ)(L:Χ)(W o:Own)(k:Ρ)(y:U)(h:aC isRow b L)(t:α b<=1000)(e:∀z∈b,α z<=1000)(f:α k<=1000):
  AC γ 180 [.J L W,.J (ab k) o] y λz p=>y.sub p/\∃P C,z=.J P C/\aC isRow (a1.dF kc b k) P:=by
 have u:=h.len;have v:=hU h;refine aM hm Ns ?_;refine cQ [0,1] (λa:Nat×Χ×Own=>[(5,.J a.2.1 a.2.2),(6,.v (.int .i64 (a.1)))]) (λa p=>a.1<=α b/\(∀S<a.1,kc (b.getD S []) k=η)/\aC isRow (b.take a.1) a.2.1/\bj y p 1 a.2.1 a.2.2) (λa=>α b - a.1) (0,[],.nil) ⟨⟨ρ,λS w=>by omega,trivial,bj.nil θ⟩,aV⟩ ?_;rintro⟨d,A,on⟩ g ⟨D,r,c,x⟩ B
 dsimp only at D r c x|-
 have i:=c.len;rw[a2X]at i;refine aa ?_;refine aH (λj=>?_) λj=>?_
 .obtain⟨_,H,T,rfl⟩:=h.at [] (e:=d) δ;have l:=iy (a:=b) (b:=[]) (e:=d) δ;refine cl (Dc (b.getD d []) k T o g (e _ (by grind)) f) ?_;rintro _ I⟨V,rfl⟩;refine aa ?_;refine aH (λc2=>?_) λc2=>?_
  .refine gR (x.mono V) (hU c) λ_ C p m _=>?_;exact⟨(d+1,_,C),⟨by simp only;omega,upto r c2,by simp only[l];exact c.snoc ⟨T,rfl⟩,m⟩,⟨rfl,rfl⟩,by simp only;omega⟩
  .rw[Di r D λ_=>c2];refine gR (x.mono V) (hU c) λ_ n q E _=>?_;refine jO E (Bs (hU c) rfl) (hU (h.drop d)) λF s G _=>?_;exact⟨G.sub,_,F,rfl,(c.snoc ⟨o,rfl⟩).append (h.drop d)⟩
 .rw[Di r D λ_=>by omega];refine gR x (hU c) λ_ n q E _=>?_;refine jO E (Bs (hU c) rfl) (hU (h.drop d)) λF s G _=>?_;exact⟨G.sub,_,F,rfl,(c.snoc ⟨o,rfl⟩).append (h.drop d)⟩
def gH(a:Nat):Υ:=(ψ (a1.bI a)).map λb=>a/a1.bI a+if b<a%a1.bI a then 1 else 0
def hV(a:Υ):Χ:=a.map λ(b:Nat)=>R.v (.int .i64 (b:Int))
def xe{a:Nat}:a1.bI a<=a:=by unfold a1.bI;omega
variable{j8:Υ}
def tS:(hV j8).length=α j8:=by simp[hV]
def Dj:bc 1 (hV j8):=λb a=>by obtain⟨_,_,rfl⟩:=a3m.1 a;rfl
def tT{a:Nat}:(gH a).length=a1.bI a:=by simp[gH]
def xf{a b:Nat}(c:b<a1.bI a):(gH a).getD b 0=a/a1.bI a+if b<a%a1.bI a then 1 else 0:=by simp[gH,c]
def Dk(a:Nat)(g:a<=1000)(o:U):
  AC γ 238 [.v (.int .i64 (a:Int))] o λG d=>o.sub d/\∃L,G=.J (hV (gH a)) L:=by
 have P:(a:Int).tdiv 4=((a/4:Nat)):=rfl;have x:a1.bI a=if 4*(a/4)<a then a/4+1 else a/4:=by unfold a1.bI;split<;>omega
 refine aM hm OU ?_;refine nA [0] (λ_:Unit=>[(3,.v (.int .i64 (a1.bI a)))]) (λ_ d=>d=o) (λh=>?_) (λh=>?_) ?_
 .have h:=of_decide_eq_true h;rw[if_pos δ]at x;have b:((a/4:Nat))+1=(a1.bI a:Int):=δ;exact aV
 .have h:=of_decide_eq_false h;rw[if_neg δ]at x;have b:((a/4:Nat))=(a1.bI a:Int):=δ;exact aV
 rintro _ o rfl S;have i:hV []=[]:=rfl;clear x P;have j:=@xe a;have T:=@tT a;have E:=@xf a;refine aa ?_;refine cQ [0,3] (λc:Nat×Own=>[(4,.J (hV ((gH a).take c.1)) c.2),(5,.v (.int .i64 (c.1)))]) (λc d=>c.1<=a1.bI a/\bj o d 1 (hV ((gH a).take c.1)) c.2) (λc=>a1.bI a - c.1) (0,.nil) ⟨⟨ρ,bj.nil θ⟩,aV⟩ ?_;rintro⟨k,V⟩ l ⟨W,p⟩ S
 dsimp only at W p|-
 have m:=a6I a (a1.bI a);have n:(a:Int).tdiv (a1.bI a:Int)=((a/a1.bI a:Nat)):=rfl;have q:(a:Int).tmod (a1.bI a:Int)=((a%a1.bI a:Nat)):=rfl;refine aa ?_;refine aH (λh=>?_) λh=>?_
 .have F:=E (b:=k) δ;have y:=iy (a:=gH a) (b:=0) (e:=k) δ;rw[F]at y;have z:∀r:Nat,(if k<a%a1.bI a then 1 else 0)=r->hV ((gH a).take k)++[R.v (.int .i64 ((a/a1.bI a+r:Nat)))]=hV ((gH a).take (k+1)):=λr b=>by
   rw[y,b,hV,hV,a3V];rfl
  have e:=z 0;have f:=z 1;clear E F y z T;generalize a/a1.bI a=r at*;generalize a%a1.bI a=s at*;generalize gH a=t at*;refine aH (λc2=>?_) λc2=>?_
  .have b:=f (if_pos δ);refine gR p Dj (λ_ C d D _=>?_) (P:=by rw[tS,a2X];omega);exact⟨(k+1,C),⟨by simp only;omega,b▸D⟩,⟨by simp only[<-b];rfl,rfl⟩,by simp only;omega⟩
  .have b:=e (if_neg δ);refine gR p Dj (λ_ C d D _=>?_) (P:=by rw[tS,a2X];omega);exact⟨(k+1,C),⟨by simp only;omega,b▸D⟩,⟨by simp only[<-b];rfl,rfl⟩,by simp only;omega⟩
 .rw[a2U δ]at p|-;exact⟨p.sub,V,rfl⟩
def bz(c:U):(d:Nat)->a1.T d->R->Prop
 |0,a,h=>∃b p k o,h=.ptr b 0/\c b=β (.cells [.J p k,.J [] o])/\aC isRow (a1.rows a) p
 |d+1,a,h=>∃b r k o,h=.ptr b 0/\c b=β (.cells [.J [] o,.J r k])/\aC (bz c d) (a1.kids a) r/\a1.kids a≠[]/\(a1.kids a).length<=1000
def bz.fG{r x:U}(d:ix r x):∀ {a:Nat}{b:a1.T a}{c:R},bz r a b c->bz x a b c
 |0,b,c,⟨h,y,k,ec,h1,o,p⟩=>⟨h,y,k,ec,h1,d _ _ o,p⟩
 |a+1,b,c,⟨h,z,k,ec,h1,o,p,C⟩=>⟨h,z,k,ec,h1,d _ _ o,p.mono λ_ _=>bz.fG d,C⟩
variable{f u e1:U}
def bz.mono(b:f.sub u){t:a1.T e}{a:R}(c:bz f e t a):bz u e t a:=c.fG (U.rz b)
theorem bz.cells{d:U}{a:Nat}{h:a1.T a}{b:R}(c:bz d a h b):α b.cells=1:=by
 cases a with
 |zero=>obtain⟨k,_,_,_,rfl,_⟩:=c;rfl
 |succ a=>obtain⟨k,_,_,_,rfl,_⟩:=c;rfl
theorem bz.ptr{c:U}{a:Nat}{k:a1.T a}{d:R}(h:bz c a k d):∃b o p,d=.ptr b 0/\c b=β (.cells [o,p]):=by
 cases a with
 |zero=>obtain⟨b,_,_,_,rfl,r,_⟩:=h;simp_all
 |succ a=>obtain⟨b,_,_,_,rfl,r,_⟩:=h;simp_all
theorem Dl{k:Type}:∀(a:Nat)(b:List k),a<=α b->∀d∈a1.dW a b,d≠[]
 |0,b,_,d,c=>by cases c
 |a+1,b,p,d,c=>by
  have r:=a5I (α b) (a+1);have hm:=a4O (α b) (a7m a);have x:1<=α b/(a+1):=(a6U (a7m a)).2 δ;rw[a1.dW]at c;generalize (α b)/(a+1)=h at*;generalize (α b)%(a+1)=y at*;have z:(a+1)*h=a*h+h:=by rw[a3U];omega
  have C:a<=a*h:=a6C _ δ;rcases a3n.1 c with rfl|c
  .intro o;have:=congrArg α o;grind
  .exact Dl a _ (by rw[a3i];split<;>omega) d c
variable{b0:Type}
def XZ(a:List b0):a1.chunks a=(ψ (a1.bI (α a))).map λb=>(a.drop (b*(α a/a1.bI (α a))+min b (α a%a1.bI (α a)))).take (α a/a1.bI (α a)+if b<α a%a1.bI (α a) then 1 else 0):=a1.CE _ _
def eN(a b:Nat):Nat:=b*(a/a1.bI a)+min b (a%a1.bI a)
def xg(a:i<a1.bI e):eN e (i+1)=eN e i+(gH e).getD i 0:=by rw[xf a];unfold eN;rw[a3U];split<;>omega
def Dm(a:i<=a1.bI e):eN e i<=e:=by have:=a5I e (a1.bI e);have:=a3g (e/a1.bI e) a;unfold eN;omega
def tU{a:List b0}:(a1.chunks a).length=a1.bI (α a):=lN.1
def Dn{a:List b0}(b:e<a1.bI (α a)):(a1.chunks a).take (e+1)=(a1.chunks a).take e++[(a.take (eN (α a) (e+1))).drop (eN (α a) e)]:=by rw[a3W,XZ,a3u,a4Z b,xg b,xf b,a4i];simp[eN]
def Dp(a:i<a1.bI e):(hV (gH e))[i]?=β (.v (.int .i64 ((gH e).getD i 0:Nat))):=by simp[hV,tT,a]
def bz.c{a:List (a1.T e)}(b:aC (bz f e) a g):bc 1 g:=b.cells λ_ _=>bz.cells
def Dq(a:List Ρ)(o:Χ)(G:Own)(p:U)(r:aC isRow a o)(L:α a<=1000):
  AC γ 176 [.J o G] p λP d=>p.sub d/\∃k x,P=.J k x/\aC (bz d 0) ((a1.chunks a).map a1.leaf) k:=by
 have s:=r.len;have t:=hU r;have u:=xe (a:=α a);have v:(hV (gH (α a))).length=a1.bI (α a):=tS.trans tT;refine aM hm Nj ?_;refine cl (Dk (α a) L p) ?_;rintro _ S⟨T,w,rfl⟩;have A:eN (α a) 0=0:=by simp[eN]
 refine aa ?_;refine cQ [0,5] (λb:Nat×Χ×Own=>[(3,.J b.2.1 b.2.2),(4,.v (.int .i64 (eN (α a) b.1))),(6,.v (.int .i64 (b.1)))]) (λb d=>b.1<=a1.bI (α a)/\aC (bz d 0) (((a1.chunks a).take b.1).map a1.leaf) b.2.1/\bj S d 1 b.2.1 b.2.2) (λb=>a1.bI (α a) - b.1) (0,[],.nil) ⟨⟨ρ,trivial,bj.nil θ⟩,aV⟩ ?_;rintro⟨c,k,V⟩ W ⟨e,h,y⟩ B
 dsimp only at e h y|-
 have f:=h.len;rw[a3k,a2X,tU]at f;refine aa ?_;refine aH (λg=>?_) λg=>?_
 .have H:=xg (e:=α a) (i:=c) δ;have I:=Dm (e:=α a) (i:=c+1) δ;have K:=Dp (e:=α a) (i:=c) δ;have i:=Dn (a:=a) (e:=c) δ;have z:=(r.take (eN (α a) (c+1))).drop (eN (α a) c);generalize M:eN (α a) (c+1)=C at*;generalize eN (α a) c=D at*;generalize (gH (α a)).getD c 0=j at*;have N:(D)+(j)=(C:Int):=δ;refine rA (hU z) (λE l O=>?_);refine bp λF Q=>?_;have m:=q0 (f:=W) (u:=l.set F (.cells [.J ((o.take C).drop D) E,.J [] .nil]));refine gR (y.mono m) (bz.c h) λ_ x d n q=>?_;refine⟨(c+1,_,x),⟨by simp only;omega,?_,n⟩,⟨rfl,by simp only;congr 3;omega,rfl⟩,by simp only;omega⟩;simp only[i,a3V];exact(h.mono λ_ _=>bz.fG eZ).snoc ⟨F,_,E,.nil,rfl,q _ _ (ν _ _ _),z⟩
 .rw[a2U (by rw[tU];omega)]at h;exact⟨_,θ,ο T y.sub,k,V,rfl,h⟩
theorem xh(z:U)(a:List (a1.T e))(r:Χ)(P:Own)(k:U)(x:aC (bz z e) a r)(S:α a<=1000)(T:z.sub k):
  AC γ 177 [.J r P] k λV d=>k.sub d/\∃o y,V=.J o y/\aC (bz d (e+1)) ((a1.chunks a).map a1.node) o:=by
 have A:=x.len;have B:=bz.c x;have W:=xe (a:=α a);have H:(hV (gH (α a))).length=a1.bI (α a):=tS.trans tT;refine aM hm Nl ?_;refine cl (Dk (α a) S k) ?_;rintro _ f⟨C,I,rfl⟩;have K:eN (α a) 0=0:=by simp[eN]
 refine aa ?_;refine cQ [0,5] (λc:Nat×Χ×Own=>[(3,.J c.2.1 c.2.2),(4,.v (.int .i64 (eN (α a) c.1))),(6,.v (.int .i64 (c.1)))]) (λc d=>c.1<=a1.bI (α a)/\aC (bz d (e+1)) (((a1.chunks a).take c.1).map a1.node) c.2.1/\bj f d 1 c.2.1 c.2.2) (λc=>a1.bI (α a) - c.1) (0,[],.nil) ⟨⟨ρ,trivial,bj.nil θ⟩,aV⟩ ?_;rintro⟨b,o,g⟩ i ⟨j,h,p⟩ M
 dsimp only at j h p|-
 have l:=h.len;rw[a3k,a2X,tU]at l;refine aa ?_;refine aH (λm=>?_) λm=>?_
 .have N:=xg (e:=α a) (i:=b) δ;have O:=Dm (e:=α a) (i:=b+1) δ;have Q:=Dp (e:=α a) (i:=b) δ;have n:=Dn (a:=a) (e:=b) δ;have q:(a.take (eN (α a) (b+1))).drop (eN (α a) b)≠[]:=Dl (a1.bI (α a)) a W _ (a3j (i:=b+1) (by grind[a1.chunks]));have D:=(x.take (eN (α a) (b+1))).drop (eN (α a) b);generalize X:eN (α a) (b+1)=E at*;generalize eN (α a) b=F at*;generalize (gH (α a)).getD b 0=s at*;have Y:(F)+(s)=(E:Int):=δ;refine rA (bz.c D) (λG t Z=>?_);refine bp λL k0=>?_;have u:=q0 (f:=i) (u:=t.set L (.cells [.J [] .nil,.J ((r.take E).drop F) G]));have k2:=ο T (ο C p.sub);refine gR (p.mono u) (bz.c h) λ_ y d v w=>?_;refine⟨(b+1,_,y),⟨by simp only;omega,?_,v⟩,⟨rfl,by simp only;congr 3;omega,rfl⟩,by simp only;omega⟩;simp only[n,a3V];exact(h.mono λ_ _=>bz.fG eZ).snoc ⟨L,_,G,.nil,rfl,w _ _ (ν _ _ _),D.mono λ_ _=>bz.fG eZ,q,by simp[a1.eM];omega⟩
 .rw[a2U (by rw[tU];omega)]at h;exact⟨_,θ,ο C p.sub,o,g,rfl,h⟩
end Go.Proofs.YtcfpcblgmmeioaaGreat
namespace Go.a1
variable{lt:Row->Row->Bool}{ok:Row->Prop}
variable{e i v M b9 h9:Nat}{b0:Type}
def qk{a:List b0}{b:b0}(c:a[e]?=β b):a=a.take e++b::a.drop (e+1):=by obtain⟨d,rfl⟩:=a2Z.1 c;simp
variable{e9:Row}
def tV(y:Ord lt ok)(z:ok e9){a:List (T e)}(C:a≠[])(k:∀b∈a,1<=len b/\kG e b)(o:gD lt (a.flatMap (aW e)))(p:∀c∈a.flatMap (aW e),ok c):
  ∃b,a[cL lt e9 (a.map (cI e))]?=β b/\(∀c∈(a.take (cL lt e9 (a.map (cI e)))).flatMap (aW e),lt c e9=η)/\(∀c∈(a.drop (cL lt e9 (a.map (cI e))+1)).flatMap (aW e),lt e9 c=η):=by
 have D:a.map (cI e)=(a.map (aW e)).map (·.headD []):=by rw[a4N];rfl
 rw[a5W]at o p;obtain⟨r,d,h⟩:=CK y z (a.map (aW e)) (by simpa using C) (λF E=>by
  obtain⟨b,x,rfl⟩:=a3m.1 E;exact wX (k b x).1 (k b x).2) o p
 rw[<-D]at r d h;rw[<-a6p,<-a5W]at d;rw[<-a5T,<-a5W]at h;exact⟨_,Ν (by simpa using r),d,h⟩
theorem ql(C:Ord lt ok)(P:ok e9):∀(a:Nat)(b:T a),jc a b->gD lt (aW a b)->(∀d∈aW a b,ok d)->e9∉aW a b->
  (et lt e9 a b).flatMap (aW a)=dF lt (aW a b) e9/\(∀c∈et lt e9 a b,WF a c)/\1<=(et lt e9 a b).length/\(et lt e9 a b).length<=2:=by
 intro a
 induction a with
 |zero=>intro b D p o x;obtain⟨e,rfl⟩:=iB b;obtain⟨y,E,_,_⟩:=D;rw[hR]at y E;obtain⟨F,G,c,_⟩:=CI (h8:=dF lt e e9) (by rw[nN];omega) (by rw[nN];omega);exact⟨CG _,F,by simpa[et,qh] using G,by simpa[et,qh] using c⟩
 |succ a ih=>
  intro b D p o x;obtain⟨h,rfl⟩:=gB b;obtain⟨y,E,f,L⟩:=D;rw[dH]at y E L;have L:=L δ;rw[fA]at p o x|-;have g:∀c∈h,WF a c:=f;obtain⟨c,r,S,V⟩:=tV C P (by intro i;subst i;simp at y) (λc r=>by grind[gC]) p o;simp only[et,eM];generalize cL lt e9 (h.map (cI a))=z at r S V;rw[r];have s:=qk r;have j:h.flatMap (aW a)=(h.take z).flatMap (aW a)++(aW a c++(h.drop (z+1)).flatMap (aW a)):=by grind
  rw[j]at p o x|-;have l:=(a3Q.1 (a3Q.1 p).2.1).1;obtain⟨m,t,u,v⟩:=ih c (jc.of (g c (a3d r))) l (λd k=>o d (by simp[k])) (λk=>x (by simp[k]));have W:(h.take z++et lt e9 a c++h.drop (z+1)).length=α h - 1+(et lt e9 a c).length:=by grind
  obtain⟨F,G,n,_⟩:=CJ (by rw[W];omega) (by rw[W];omega) (λd k=>by
   grind)
  refine⟨?_,F,by simpa using G,by simpa using n⟩;simp only[];rw[CH,a3S,a3S,m,wY S,Xl,a3o];intro d k;cases q:lt d e9 with
  |false=>rfl
  |true=>have:=C.trans d e9 d (o d (by simp[k])) P (o d (by simp[k])) q (V d k);rw[C.jd]at this;cases this
theorem Dr{a b:T e}(k:kG e a)(o:kG e b)(d:2<=len a+len b)(h:len a+len b<=5):
  (jZ a b).flatMap (aW e)=aW e a++aW e b/\(∀c∈jZ a b,WF e c)/\1<=(jZ a b).length/\(jZ a b).length<=2:=by
 cases e with
 |zero=>obtain⟨a,rfl⟩:=iB a;obtain⟨b,rfl⟩:=iB b;grind[hR,CI,jZ,qh,iC,CG]
 |succ e=>obtain⟨a,rfl⟩:=gB a;obtain⟨b,rfl⟩:=gB b;rw[dH,dH]at d h;obtain⟨r,x,y,_⟩:=CJ (a:=a++b) (by simpa using d) (by simpa using h) (λc p=>(a3f.1 p).elim (k c) (o c));grind[jZ,eM,fA,CH]
variable{h8:List Row}
theorem filter_none(b:e9∉h8):h8.filter (λa=>decide (a≠e9))=h8:=by rw[a6j];grind
theorem Y0(b:gD lt h8)(d:∀e9,lt e9 e9=ι):α h8 - 1<=(h8.filter λc=>decide (c≠e9)).length:=by
 induction h8 with
 |nil=>simp
 |cons a h8 ih=>
  have h:=a3x.1 b;by_cases bS:a=e9
  .subst bS;have:a∉h8:=λk=>by grind
   rw[a6D ρ,filter_none this];simp
  simp_all
theorem p1(E:Ord lt ok)(v:ok e9):∀(a:Nat)(d:T a),jc a d->gD lt (aW a d)->(∀h∈aW a d,ok h)->
  aW a (cD lt e9 a d)=(aW a d).filter (λh=>decide (h≠e9))/\kG a (cD lt e9 a d)/\len d - 1<=len (cD lt e9 a d)/\len (cD lt e9 a d)<=4:=by
 intro a
 induction a with
 |zero=>intro d P o r;obtain⟨Q,rfl⟩:=iB d;obtain⟨F,G,_,_⟩:=P;rw[hR]at F G;simp only[cD,qh,iC,hR]at o|-;exact⟨trivial,trivial,Y0 o E.jd,by grind⟩
 |succ a ih=>
  intro d P o r;obtain⟨b,rfl⟩:=gB d;obtain⟨F,G,w,S⟩:=P;rw[dH]at F G S;have S:=S δ;rw[fA]at o r|-;have V:∀p∈b,WF a p:=w;obtain⟨p,x,i,j⟩:=tV E v (by intro y;subst y;simp at F) (λp x=>by grind[gC]) o r;simp only[cD,eM,dH];generalize cL lt e9 (b.map (cI a))=c at x i j;rw[x];simp only[dH,fA];have X:=qk x;obtain⟨A,_⟩:=a2Z.1 x;have B:b.flatMap (aW a)=(b.take c).flatMap (aW a)++(aW a p++(b.drop (c+1)).flatMap (aW a)):=by grind
  have Y:=o;have Z:=r;rw[B]at o r;have l:=V p (a3d x);have k0:=gC.1 l;obtain⟨H,L,I,m⟩:=ih p (jc.of l) (a3Q.1 (a3Q.1 o).2.1).1 (λh z=>r h (by simp[z]));generalize cD lt e9 a p=h at H L I m;have k2:=filter_none λz=>by
   have:=i e9 z;rw[E.jd]at this;cases this
  have k3:=filter_none λz=>by
   have:=j e9 z;rw[E.jd]at this;cases this
  have n:(b.flatMap (aW a)).filter (λh=>decide (h≠e9))=(b.take c).flatMap (aW a)++(aW a h++(b.drop (c+1)).flatMap (aW a)):=by grind
  rw[n];unfold kH;by_cases W:2<=len h
  .rw[if_pos W];have y:b.set c h=b.take c++h::b.drop (c+1):=by rw[a4e,if_pos A]
   refine⟨by grind,λq C=>?_,ρ,by simpa using G⟩;rw[eM,y]at C;simp only[a3f,a3n]at C;rcases C with C|rfl|C;grind
   .exact gC.2 ⟨W,m,L⟩
   grind
  .rw[if_neg W];have k4:len h=1:=δ;by_cases e:c=0
   .subst e;have k:b[1]?=β b[1]:=Ν δ;simp only[if_true];rw[k];simp only[Nat.zero_sub,a4Q,a3l,a3t,a6s]at n|-;generalize b[1]=D at k;have f:=V D (a3d k);have g:=gC.1 f;obtain⟨s,K,q,y⟩:=Dr L g.2.2 δ δ;have t:b.drop 1=D::b.drop 2:=by obtain⟨M,rfl⟩:=a2Z.1 k;simp
    refine⟨by grind,λN u=>?_,Κ,Κ⟩;grind[eM,List.mem_of_mem_drop]
   .rw[if_neg e];have k:b[c - 1]?=β b[c - 1]:=Ν δ;rw[k];simp only[if_neg e];generalize b[c - 1]=D at k;have f:=V D (a3d k);have g:=gC.1 f;obtain⟨s,K,q,y⟩:=Dr g.2.2 L δ δ;have t:b.take c=b.take (c - 1)++[D]:=by
     obtain⟨M,rfl⟩:=a2Z.1 k
     conv=>lhs;rw[show c=c - 1+1 by omega]
     simp
    have O:c - 1+2=c+1:=δ;rw[O];refine⟨by rw[a3S,a3S,s,t,a3S];simp,λN u=>?_,Κ,Κ⟩;simp only[eM,a3f]at u;grind
end Go.a1
namespace Go.Proofs.YtcfpcblgmmeioaaGreat
open Go Go.bt
abbrev ed:=Option ((a:Nat)×a1.T a)
def fo(c:U)(a:ed)(b:R):Prop:=
 match a with
 |none=>b=.v (.pointer ε)
 |some ⟨d,a⟩=>bz c d a b
def fo.fG{b c:U}(k:ix b c){a:ed}{d:R}(h:fo b a d):fo c a d:=by
 match a with
 |none=>exact h
 |some ⟨_,_⟩=>exact bz.fG k h
variable{e i v M b9 h9:Nat}
def p2:List (a1.T e)->ed
 |[]=>ε
 |[a]=>β ⟨e,a⟩
 |b=>β ⟨e+1,a1.node b⟩
variable{b0:Type}
def Y1{a:List b0}(b:α a=1):∃c,a=[c]:=a4M.1 b
theorem Y2(c:List (a1.T e))(x:Χ)(E:Own)(p:U)(F:aC (bz p e) c x)(G:α c<=4):
  AC γ 121 [.J x E] p λL h=>p.sub h/\fo h (p2 c) L:=by
 refine aM hm LW ?_;refine cQ [] (λd:Χ×Own=>[(0,.J d.1 d.2)]) (λd h=>p.sub h/\(aC (bz h e) c d.1\/2<=α c/\∃a,d.1=[a]/\bz h (e+1) (a1.node c) a)) (λd=>α d.1) (x,E) ⟨⟨θ,.inl F⟩,aV⟩ ?_;rintro⟨r,P⟩ y ⟨z,b⟩ g
 dsimp only at b|-
 refine aa ?_;refine aH (λk=>?_) λk=>?_
 .rcases b with b|⟨_,a,rfl,_⟩
  .have i:=b.len;refine cl (xh y c r P y b δ θ) ?_;rintro _ j⟨S,l,T,rfl,C⟩;rw[a1.nM δ G]at C;obtain⟨a,rfl⟩:=Y1 C.len;refine aa ?_;exact⟨([a],T),⟨ο z S,.inr ⟨δ,a,rfl,C.1⟩⟩,rfl,Κ⟩
  .simp at k
 .have V:(r=[]/\c=[])\/∃a,r=[a]/\fo y (p2 c) a:=by
   rcases b with b|⟨W,a,rfl,b⟩
   .match c,r,b,k with
    |[],[],_,_=>simp
    |[m],[a],b,_=>exact .inr ⟨a,rfl,b.1⟩
    |_:: _:: _,_:: _:: _,_,k=>simp at k;omega
   .match c,W with
    |_:: _:: _,_=>exact .inr ⟨a,rfl,b⟩
  clear b;rcases V with⟨rfl,rfl⟩|⟨a,rfl,o⟩
  .refine aa ?_;exact⟨_,θ,z,rfl⟩
  .have f:(∃D,a=.ptr D 0)\/a=.v (.pointer ε):=by
    unfold fo at o;split at o
    .exact .inr o
    .obtain⟨D,_,_,n,_⟩:=o.ptr;simp_all
   rcases f with⟨D,rfl⟩|rfl
   all_goals refine aa ?_;exact⟨_,θ,z,o⟩
theorem xi:∀(b:Nat)(d:a1.T b)(T:R)(p:U),bz p b d T->(a1.aW b d).length<=100000->
  AC γ 115 [T] p λW F=>p.sub F/\∃h G,W=.J h G/\aC isRow (a1.aW b d) h:=by
 intro b
 induction b with
 |zero=>rintro d _ p⟨e,h,G,f,rfl,k,o⟩L;have P:=κ k;have g:=o.len;have w:(a1.rows d).length<=100000:=L;refine aM hm vJ ?_;refine rA (hU o) λC i D=>?_;have P:=rd D.sub k;refine hj [0] (λc:Nat=>[(3,.J h C),(4,.v (.int .i64 (c)))]) (λc=>c=0) (λ_=>0) 0 rfl aV ?_;rintro _ rfl j;refine aa ?_;exact⟨D.sub,h,C,rfl,o⟩
 |succ b ih=>
  rintro d _ p⟨e,A,G,f,rfl,k,o,B,l⟩L;obtain⟨r,rfl⟩:=a1.gB d;rw[a1.eM]at o l;rw[a1.fA]at L|-;have P:=κ k;have g:=o.len;refine aM hm vJ ?_;refine rA Bt λC i D=>?_;refine cQ [0] (λa:Nat×Χ×Own=>[(3,.J a.2.1 a.2.2),(4,.v (.int .i64 (a.1)))]) (λa F=>a.1<=α r/\aC isRow ((r.take a.1).flatMap (a1.aW b)) a.2.1/\bj p F 1 a.2.1 a.2.2) (λa=>α r - a.1) (0,[],C) ⟨⟨ρ,trivial,D⟩,aV⟩ ?_;rintro⟨c,h,m⟩ n ⟨y,x,z⟩ j
  dsimp only at y x z|-
  have P:=rd z.sub k;refine aa ?_;refine aH (λE=>?_) λE=>?_
  .have y:c<α r:=δ;obtain⟨H,aM,V⟩:=o.get (Ν y);have q:=a1.qk (Ν y);have s:=a4o y;have t:=bz.mono z.sub V;obtain⟨I,_,_,rfl,_⟩:=V.ptr;generalize r[c]=E at*;have K:((r.take c).flatMap (a1.aW b)).length+(a1.aW b E).length<=100000:=by grind
   clear q;have M:=x.len;refine cl (ih E _ n t δ) ?_;rintro _ N⟨u,O,Q,rfl,S⟩;have X:=S.len;refine jO (z.mono u) (hU x) (hU S) λv Y k _=>?_;refine⟨(c+1,_,v),⟨by simp only;omega,?_,k⟩,⟨rfl,rfl⟩,by simp only;omega⟩;simp only[s,a3S,a3A,a6s,a3Y];exact x.append S
  .rw[a2U δ]at x;exact⟨z.sub,h,m,rfl,x⟩
def Y3(a:U):AC γ 115 [.v (.pointer ε)] a λb c=>c=a/\b=.J [] .nil:=by refine aM hm vJ ?_;trivial
def Y4(a:Nat)(b:a1.T a)(d:R)(c:U)(r:bz c a b d)(x:(a1.aW a b).length<=100000)(y:a1.aW a b≠[]):
  AC γ 237 [d] c λh z=>c.sub z/\∃k,h=.J (ab (a1.cI a b)) k:=by
 refine aM hm OS ?_;refine cl (xi a b d c r x) ?_;rintro _ C⟨D,E,k,rfl,o⟩;unfold a1.cI;cases p:a1.aW a b with
 |nil=>exact absurd p y
 |cons F h=>rw[p]at o;obtain⟨G,aM,L,rfl⟩:=o.get (i:=0) rfl;refine aa ?_;simp
theorem xj(b:List Ρ)(k:Χ)(x o:Own)(c:Ρ)(d:U)(p:aC isRow b k)(E:α b<=100000)(F:∀h∈b,α h<=1000):
  AC γ 114 [.J k x,.J (ab c) o] d λh y=>y=d/\h=.v (.bool (decide (c∈b))):=by
 have G:=p.len;refine aM hm LJ ?_;refine hj [0,1] (λa:Nat=>[(5,.v (.int .i64 (a)))]) (λa=>a<=α b/\∀r<a,b.getD r []≠c) (λa=>α b - a) 0 ⟨δ,λr L=>by omega⟩ aV ?_;rintro a⟨P,z⟩S;refine aa ?_;refine aH (λC=>?_) λC=>?_
 .obtain⟨_,T,D,rfl⟩:=p.at [] (e:=a) δ;refine mA (s4 (b.getD a []) c D o d (by grind)) ?_;refine aH (λc2=>?_) λc2=>?_
  .exact aX (by grind)
  .exact⟨a+1,⟨δ,upto z c2⟩,rfl,δ⟩
 grind[aX,List.getElem_of_mem,List.getD]
def gl(a:Ρ->Ρ->Bool)(b:Ρ):Nat->Nat->List Ρ->Nat
 |_,at_,[]=>at_
 |c,at_,d::bw=>gl a b (c+1) (if a b d=η then at_ else c) bw
def Ds{d:Ρ->Ρ->Bool}{h:Ρ}:∀(b:List Ρ)(k c:Nat),(∀a∈b,d h a=η)->gl d h k c b=c
 |[],_,_,_=>rfl
 |a::b,k,c,o=>by
  rw[gl,if_pos (o a ρ)];exact Ds b _ _ λa p=>o a (by simp[p])
theorem Dt{a:Ρ->Ρ->Bool}{b:Ρ}:∀(c:List Ρ)(k:Ρ)(d:Nat),c.Pairwise (λo p=>a b o=η->a b p=η)->gl a b (d+1) d c=d+a1.cL a b (k::c)
 |[],k,d,_=>rfl
 |h::c,k,d,r=>by
  have x:=a3x.1 r;rw[gl];have y:a1.cL a b (k::h::c)=if a b h=η then 0 else a1.cL a b (h::c)+1:=rfl;rw[y];by_cases hk:a b h=η;simp_all [Ds]
  .rw[if_neg hk,if_neg hk,Dt c h (d+1) x.2];omega
variable{N:List Ρ}{n b6:Ρ}
theorem Y5{a:Ρ->Ρ->Bool}(d:N.Pairwise (λb c=>a n b=η->a n c=η)):gl a n 0 0 N=a1.cL a n N:=by
 cases N with
 |nil=>rfl
 |cons h N=>grind[gl,Dt,List.pairwise_cons]
def Du{k o:Ρ->Ρ->Bool}{c:Ρ}:∀(b:List Ρ)(d h:Nat),(∀a∈b,k c a=o c a)->gl k c d h b=gl o c d h b
 |[],_,_,_=>rfl
 |a::b,d,h,p=>by
  rw[gl,gl,p a ρ];exact Du b _ _ λa r=>p a (by simp[r])
def Dv{d:Ρ->Ρ->Bool}{h k:Ρ}:∀(a:List Ρ)(b c:Nat),gl d h b c (a++[k])=if d h k=η then gl d h b c a else b+α a
 |[],b,c=>by rfl
 |o::a,b,c=>by
  rw[a4l,gl,Dv a,gl,a3e];split<;>omega
theorem Dw(b:List (a1.T e))(y:R)(c:Ρ)(z:Own)(h:U)(E:bz h (e+1) (a1.node b) y)(F:α c<=1000)(G:∀d∈b,(a1.aW e d).length<=100000/\a1.aW e d≠[]/\(a1.cI e d).length<=1000):
  AC γ 175 [y,.J (ab c) z] h λL o=>h.sub o/\L=.v (.int .i64 (gl kc c 0 0 (b.map (a1.cI e)):Int)):=by
 obtain⟨j,l,m,n,rfl,P,p,_,S⟩:=E;rw[a1.eM]at p S;have q:=p.len;have s:gl kc c 0 0 []=0:=rfl;refine aM hm Nh ?_;refine cQ [0,1] (λa:Nat=>[(5,.v (.int .i64 (gl kc c 0 0 ((b.map (a1.cI e)).take a)))),(6,.v (.int .i64 (a)))]) (λa o=>a<=α b/\h.sub o) (λa=>α b - a) 0 ⟨⟨δ,θ⟩,aV⟩ ?_;rintro a T⟨k,r⟩t;have u:=rd r P;refine aa ?_;refine aH (λd=>?_) λd=>?_
 .have k:a<α b:=δ;have V:=Dv (d:=kc) (h:=c) (k:=a1.cI e b[a]) ((b.map (a1.cI e)).take a) 0 0;rw[a2X,a3k,a4w δ,show(b.map (a1.cI e)).take a++[a1.cI e b[a]]=(b.map (a1.cI e)).take (a+1) by simp[a4o,k]]at V;have x:=G _ (a3r k);obtain⟨v,aM,C⟩:=p.get (Ν k);obtain⟨w,_,_,rfl,_⟩:=C.ptr;generalize b[a]=D at*;refine cl (Y4 e D _ T (bz.mono r C) x.1 x.2.1) ?_;rintro _ W⟨f,g,rfl⟩;refine cl (Dc c (a1.cI e D) z g W F x.2.2) ?_;rintro _ A⟨i,rfl⟩;have B:=ο r (ο f i);refine aa ?_;refine aH (λc2=>?_) λc2=>?_;grind;grind
 .rw[a2U (by rw[a3k];omega)]
theorem Y6{b c:Ρ->Ρ->Bool}(d:∀a∈N,b a n=c a n):a1.dF b N n=a1.dF c N n:=by
 unfold a1.dF;have r:∀N:List Ρ,(∀a∈N,b a n=c a n)->N.takeWhile (λa=>b a n)=N.takeWhile (λa=>c a n)/\N.dropWhile (λa=>b a n)=N.dropWhile (λa=>c a n):=by
  intro N
  induction N with
  |nil=>intro _;trivial
  |cons h N ih=>intro d;obtain⟨k,o⟩:=ih λa p=>d a (by simp[p]);simp only[a4k,a5q,d h ρ];rw[k,o];trivial
 simp_all
structure GT(d h:Nat)(t:a1.T h):Prop where
 wf:a1.jc h t
 dI:a1.gD bq (a1.aW h t)
 ok:∀x∈a1.aW h t,bF d x
 ek:(a1.aW h t).length<=1000
def xk{a:a1.T e}(b:a1.aW e a≠[]):a1.cI e a∈a1.aW e a:=by
 unfold a1.cI;cases c:a1.aW e a with
 |nil=>trivial
 |cons d h=>simp
structure Y7(d:Nat){h:Nat}(bw:List (a1.T h))(p:Ρ):Prop where
 ne:bw≠[]
 two:2<=α bw/\α bw<=4
 gk:∀c∈bw,GT d h c/\a1.WF h c/\a1.aW h c≠[]/\bF d (a1.cI h c)
 Dx:gl kc p 0 0 (bw.map (a1.cI h))=a1.cL bq p (bw.map (a1.cI h))
 at_:∃c,bw[a1.cL bq p (bw.map (a1.cI h))]?=β c
theorem GT.kids(x:1<=e)(y:e<=8){d:List (a1.T i)}(p:GT e (i+1) (a1.node d))(z:bF e n):Y7 e d n:=by
 obtain⟨D,E,T,r⟩:=p.wf;rw[a1.dH]at D E r;have r:=r δ;have V:∀a∈d,a1.WF i a:=T;have h:=p.dI;have k:=p.ok;have F:=p.ek;rw[a1.fA]at h k F;have o:d≠[]:=by intro W;subst W;simp at D
 have c:∀a∈d,GT e i a/\a1.WF i a/\a1.aW i a≠[]/\bF e (a1.cI i a):=by intro a b;have C:=V a b;have f:=a1.gC.1 C;have o:=a1.wX δ f.2.2;obtain⟨v,w,g⟩:=a5f b;rw[g,a3S,a3A]at h k F;have j:=(a3Q.1 (a3Q.1 h).2.1).1;refine⟨⟨a1.jc.of C,j,λl m=>k l (by simp[m]),by grind⟩,C,o,k _ (by simp[xk o])⟩
 refine⟨o,⟨r,E⟩,c,?_,?_⟩
 .rw[Du _ _ _ λA q=>by
   obtain⟨a,b,rfl⟩:=a3m.1 q;exact Dg x y z (c a b).2.2.2]
  refine Y5 ?_;rw[a5k];have s:=(List.pairwise_flatMap.1 h).2;refine a6B (λ{G L} P S t=>?_) s;intro u;exact(fB x y).trans n _ _ z (c G P).2.2.2 (c L S).2.2.2 u (t _ (xk (c G P).2.2.1) _ (xk (c L S).2.2.1))
 .obtain⟨a,b,_⟩:=a1.tV (fB x y) z o (λa b=>by grind[a1.gC]) h k;exact⟨a,b⟩
theorem Y8(P:1<=e)(S:e<=8)(b:Ρ)(T:Own)(D:bF e b):∀(a:Nat)(d:a1.T a)(E:R)(k:U),bz k a d E->GT e a d->b∉a1.aW a d->
  AC γ 122 [E,.J (ab b) T] k λV i=>k.sub i/\∃x F,V=.J x F/\aC (bz i a) (a1.et bq b a d) x:=by
 have l8:=D.len;intro a
 induction a with
 |zero=>rintro d _ k⟨j,M,F,N,rfl,y,c⟩G l;obtain⟨O,rfl⟩:=a1.iB d;rw[a1.qh]at c;obtain⟨_,Q,_,_⟩:=G.wf;have W:=G.ok;rw[a1.hR]at Q;rw[a1.iC]at W;have m:=κ y;refine aM hm Am ?_;refine cl (XY O M F T b k c δ (λV X=>by have:=(W V X).len;omega) δ) ?_;rintro _ n⟨z,Y,Z,rfl,q⟩;rw[Y6 (c:=bq) λk0 s=>Dg P S (W k0 s) D]at q;refine cl (Dq _ Y Z n q (by rw[a1.nN];omega)) ?_;rintro _ l9⟨k2,x,k3,rfl,L⟩;refine aa ?_;exact⟨_,θ,ο z k2,x,k3,rfl,L⟩
 |succ a ih=>
  intro d E k L G l;obtain⟨h,rfl⟩:=a1.gB d;have C:=G.kids P S D;have t:=Dw h E b T k L δ λo p=>by
   obtain⟨r,_,n0,k4⟩:=C.gk o p;have:=r.ek;have:=k4.len;grind
  obtain⟨j,n1,F,N,rfl,y,c,_,_⟩:=L;rw[a1.eM]at c;have n2:=c.len;obtain⟨n3,n4⟩:=C.two;have n5:¬(α h:Int)=0:=δ;have m:=κ y;obtain⟨o,p⟩:=C.at_;have u:a1.et bq b (a+1) (a1.node h)=(a1.chunks (h.take (a1.cL bq b (h.map (a1.cI a)))++a1.et bq b a o++h.drop (a1.cL bq b (h.map (a1.cI a))+1))).map a1.node:=by simp only[a1.et,a1.eM];rw[p]
  rw[u];rw[C.Dx]at t;clear u;generalize a1.cL bq b (h.map (a1.cI a))=v at*;have n9:=(a2Z.1 p).1;obtain⟨r,_,_,_⟩:=C.gk o (a3d p);have w:b∉a1.aW a o:=λs=>l (by rw[a1.fA];grind);obtain⟨_,_,a00,a01⟩:=a1.ql (fB P S) D a o r.wf r.dI r.ok w;have a02:=bz.c c;obtain⟨_,a03,A⟩:=c.get p;obtain⟨a04,_,_,rfl,_⟩:=A.ptr;refine aM hm Am ?_;refine cl t ?_;rintro _ n⟨z,rfl⟩;have m:=rd z y;have f:=c.take v;refine rA (bz.c f) λa05 k5 B=>?_;have a06:=rd (ο z B.sub) y;refine cl (ih o _ k5 (A.fG eZ) r w) ?_;rintro _ a07⟨k6,x,a08,rfl,g⟩;have a09:=g.len;refine jO (B.mono k6) (bz.c f) (bz.c g) (λa10 k7 k8 k9=>?_);have a11:k7.read j= _:=κ du;have H:=(f.mono λ_ _ a=>bz.fG (eZ) a).append (g.mono λ_ _=>bz.fG k9);have I:=c.drop (v+1);refine jO k8 (bz.c H) (bz.c I) (λl0 K l1 l2=>?_);have l3:=(H.mono λ_ _=>bz.fG l2).append (I.mono λ_ _ a=>bz.fG (eZ) a);refine cl (xh K _ _ l0 K l3 (by grind) θ) ?_;rintro _ a13⟨l4,l5,l6,rfl,l7⟩;refine aa ?_;exact⟨_,θ,ο z (ο l1.sub l4),l5,l6,rfl,l7⟩
def dX:ed->List Ρ
 |none=>[]
 |some ⟨a,b⟩=>a1.aW a b
def hX(a:Nat):ed->Prop
 |none=>True
 |some ⟨b,c⟩=>GT a b c
def ke(a:ed)(b:Ρ):ed:=
 match a with
 |none=>β ⟨0,a1.leaf [b]⟩
 |some ⟨c,a⟩=>if b∈a1.aW c a then β ⟨c,a⟩else p2 (a1.et bq b c a)
def Y9(z:1<=e)(C:e<=8)(c:Ρ)(k:Own)(D:bF e c)(a:ed)(E:R)(o:U)(d:fo o a E)(S:hX e a):
  AC γ 66 [E,.J (ab c) k] o λp F=>o.sub F/\∃G r,p=.aF [G,.v (.bool r)]/\fo F (ke a c) G:=by
 match a with
 |none=>obtain rfl:=d;refine aM hm Ah ?_;refine eb θ (by simp[bc,τ]) λT v V=>?_;refine aa ?_;refine bp λL W=>?_;exact⟨_,θ,ο V.sub (μ θ W),_,_,rfl,L,_,T,.nil,rfl,ν _ _ _,⟨k,rfl⟩,trivial⟩
 |some ⟨x,a⟩=>
  obtain⟨r,L,w,rfl,A⟩:=bz.ptr d;have b:GT e x a:=S;have B:=b.ek;refine aM hm Ah ?_;refine cl (xi x a (.ptr r 0) o d δ) ?_;rintro _ P⟨y,f,g,rfl,i⟩;refine mA (xj _ f g k c P i δ λp j=>by have:=(b.ok p j).len;omega) ?_;refine aH (λh=>?_) λh=>?_
  .refine⟨_,θ,y,_,_,rfl,?_⟩;simp only[ke,if_pos h];exact bz.mono y d
  .refine cl (Y8 z C c k D x a (.ptr r 0) P (bz.mono y d) b h) ?_;rintro _ l⟨m,n,q,rfl,s⟩;obtain⟨_,_,H,I⟩:=a1.ql (fB z C) D x a b.wf b.dI b.ok h;refine cl (Y2 _ n q l s δ) ?_;rintro p K⟨t,u⟩;refine aa ?_;refine⟨_,θ,ο y (ο m t),_,_,rfl,?_⟩;simp only[ke,if_neg h];exact u
structure gI(d:Nat)(b:Ρ×Ρ):Prop where
 ok:dD b.1 b.2 d=η
 aT:dc b.1
 aS:dc b.2
theorem kK:dD n b6 e=η↔1<=e/\e<=8/\α n=e/\α b6=e/\∀a,a<e->n.getD a 0<=b6.getD a 0:=by unfold dD;grind
theorem Dy{b:Int->Int->Int}(h:∀a c,b a c=a\/b a c=c)(k:dc n)(o:dc b6):dc (Α b n b6):=by intro a d;obtain⟨p,r,rfl⟩:=a3B d;grind[List.length_zipWith,List.getElem_mem]
theorem Dz{a:Int->Int->Int}(b:e<α n)(c:e<α b6):(Α a n b6).getD e 0=a (n.getD e 0) (b6.getD e 0):=by grind
theorem xl{d h:Ρ×Ρ}(a:gI e d)(b:gI e h):gI e (dV d h):=by
 have c:=kK.1 a.ok;have k:=kK.1 b.ok;unfold dV;rw[c.2.2.1,k.2.2.1,if_pos a.ok,if_pos b.ok,if_pos rfl];refine⟨kK.2 ⟨c.1,c.2.1,by simp_all,by simp_all,λr x=>?_⟩,?_,?_⟩;grind
 .exact Dy (λo p=>by omega) a.aT b.aT
 .exact Dy (λo p=>by omega) a.aS b.aS
theorem p3{a:Ρ×Ρ}(b:gI e a):dV ([],[]) a=a:=by have c:=kK.1 b.ok;unfold dV;have:dD ([]) [] ([]:Ρ).length=false:=rfl;rw[if_neg (by rw[this];simp),c.2.2.1,if_pos b.ok]
def xm(c:1<=e)(d:e<=8)(a:bF e n):gI e (gx n):=by have b:=a.len;unfold gx;rw[if_pos δ];exact⟨kK.2 ⟨c,d,b,b,λ_ _=>a6L _⟩,a.kd,a.kd⟩
structure lO(d:Nat)(n:Nat)(y:gy):Prop where
 live:y.live=n
 bf:(n=0/\y.bf=([],[]))\/(0<n/\gI d y.bf)
theorem DA{h:Nat}(o:1<=h)(p:h<=8):∀(b:List Ρ)(c:Nat)(a:gy),(∀d∈b,bF h d)->lO h c a->lO h (c+α b) ((b.map λd=>(d,η)).foldl fy a)
 |[],c,a,_,k=>by trivial
 |d::b,c,a,r,k=>by
  rw[a3q,a3I,a3e,show c+(α b+1)=(c+1)+α b by omega];refine DA o p b (c+1) _ (λy z=>r y (by simp[z])) ?_;have C:=xm o p (r d ρ);rw[fy,if_pos rfl];refine⟨by rw[show(({a with live:=a.live+1,bf:=dV a.bf (gx d)}:gy)).live=a.live+1 from rfl,k.live];omega,.inr ⟨δ,?_⟩⟩;rcases k.bf with⟨_,x⟩|⟨_,x⟩;grind[dV,gx,p3]
  .exact xl x C
structure ji(d n:Nat)(k:an):Prop where
 sum:α k.sum=32
 live:k.live=n
 size:k.size=n
 pos:1<=n
 bf:gI d (k.aT,k.aS)
 key:bF d k.key
def DB{k:Nat}:∀(a:List (an×Nat))(b:Nat)(d:gy),(∀c∈a,ji k c.2 c.1)->lO k b d->lO k (b+(a.map Prod.snd).sum) ((a.map Β).foldl gd d)
 |[],b,d,_,o=>by trivial
 |(c,h)::a,b,d,y,o=>by
  have p:=y (c,h) ρ;simp only[a3q,a3I,a4X];rw[show b+(h+(a.map Prod.snd).sum)=(b+h)+(a.map Prod.snd).sum by omega];refine DB a (b+h) _ (λz C=>y z (by simp[C])) ?_;have r:=p.bf;have D:=p.pos;refine⟨?_,.inr ⟨by have:1<=h:=D;omega,?_⟩⟩
  .show d.live+c.live= _;rw[o.live,p.live];push_cast;rfl
  .show gI k (dV d.bf (c.aT,c.aS));rcases o.bf with⟨_,x⟩|⟨_,x⟩
   .rw[x,p3 r];exact r
   .exact xl x r
def bN:(a:Nat)->a1.T a->an
 |0,b=>gf (cR (a1.rows b))
 |a+1,b=>gf (dT ((a1.kids b).map (bN a)))
def eW:(a:Nat)->a1.T a->bQ
 |0,b=>cR (a1.rows b)
 |a+1,b=>dT ((a1.kids b).map (bN a))
def tW:∀ {a:Nat}{b:a1.T a},bN a b=gf (eW a b)
 |0,_=>rfl
 |_+1,_=>rfl
def Ya:eW 0 (a1.leaf N)=cR N:=rfl
def xn{a:List (a1.T e)}:eW (e+1) (a1.node a)=dT (a.map (bN e)):=rfl
structure ee(d h:Nat)(t:a1.T h):Prop where
 wf:a1.jc h t
 ok:∀x∈a1.aW h t,bF d x
 ek:(a1.aW h t).length<=1048576
def GT.hs{b:a1.T e}(a:GT i e b):ee i e b:=⟨a.wf,a.ok,by have:=a.ek;omega⟩
theorem ee.gk{d:List (a1.T e)}(b:ee i (e+1) (a1.node d)):∀a∈d,ee i e a/\a1.WF e a:=by obtain⟨z,C,p,D⟩:=b.wf;have c:=b.ok;have h:=b.ek;rw[a1.fA]at c h;intro a k;have o:=p a k;obtain⟨E,F,r⟩:=a5f k;rw[r,a3S,a3A]at c h;exact⟨⟨a1.jc.of o,λx y=>c x (by simp[y]),by grind⟩,o⟩
def ee.ne{a:a1.T e}(b:ee i e a):a1.aW e a≠[]:=a1.wX b.wf.1 b.wf.2.2.1
structure xo(d n:Nat)(x:bQ):Prop where
 xp:x.In d
 p4:ji d n (gf x)
 nS:fg d x=β (gf x)
variable{w j0:an}
def ji.ne(a:ji e i w):w≠aB:=by rintro rfl;have:=a.size;have:=a.pos;simp[aB]at*;omega
theorem ji.ok{b c:Nat}{d:an}(a:ji b c d)(h:c<=1048576):eK b d=true:=by have k:=a.size;have o:=a.live;have p:=a.pos;unfold eK;rw[decide_eq_false a.ne,a7d,Ξ];refine⟨Κ,?_⟩;rw[if_neg δ];exact a.bf.ok
def ji.p4(a:ji e i w)(c:i<=1048576):w.In e:=by have d:=a.size;have h:=a.live;have k:=a.pos;have b:=kK.1 a.bf.ok;have o:α w.aT=e:=b.2.2.1;have p:α w.aS=e:=b.2.2.2.1;have r:=a.key.len;exact⟨a.sum,a.bf.aT,a.bf.aS,a.key.kd,δ,δ,δ,δ,δ,δ,δ⟩
theorem tX(o:1<=e)(p:e<=8)(c:1<=α N)(r:α N<=4)(b:∀a∈N,bF e a):xo e (α N) (cR N):=by
 have x:dE e (cR N)=true:=by unfold dE cR;simp only[a7n,a3k,List.all_nil,a7c,a3a,decide_true,Ξ,a3h,decide_eq_true_eq,Function.comp];refine⟨λa d=>(b a d).len,?_⟩;simp[c,r]
 have h:=DA o p N 0 ⟨0,(cR N).rows.length,([],[])⟩ b ⟨rfl,.inl ⟨rfl,rfl⟩⟩;have y:fz (cR N)=(N.map λa=>(a,η)).foldl fy ⟨0,(cR N).rows.length,([],[])⟩:=rfl;rw[<-y,a3t]at h;have z:(fz (cR N)).size=α N:=by rw[xa];simp[cR]
 have C:gI e (fz (cR N)).bf:=by
  rcases h.bf with⟨k,_⟩|⟨_,k⟩
  .omega
  .exact k
 refine⟨⟨x,λa d=>?_,λF G=>by trivial⟩,⟨oS _,h.live,z,c,C,?_⟩,?_⟩
 .obtain⟨D,E,rfl⟩:=a3m.1 d;exact(b D E).kd
 .show bF e (keyOf (cR N))
  match N,c with
  |a::N,_=>exact b a ρ
 .unfold fg;grind
def Yb:(gf (cR N)).key=N.headD []:=by show keyOf (cR N)= _;cases N<;>rfl
theorem Yc{a:List (an×Nat)}(o:2<=α a)(z:α a<=4)(c:∀b∈a,ji e b.2 b.1)(p:(a.map Prod.snd).sum=i)(L:i<=1048576):xo e i (dT (a.map Β)):=by
 have r:∀b∈a,b.2<=i:=λb c=>by
  rw[<-p];obtain⟨P,S,rfl⟩:=a5f c;simp;omega
 have C:dE e (dT (a.map Β))=true:=by unfold dE dT;simp only[a7n,a3k,List.all_nil,a4q,a3a,decide_true,Ξ,a3h,Function.comp];refine⟨λb d=>(c b d).ok (by have:=r b d;omega),?_⟩;simp[o,z];exact λT V d=>⟨(c _ d).key.len,(c _ d).ne⟩
 have x:=DB a 0 ⟨0,0,([],[])⟩ c ⟨rfl,.inl ⟨rfl,rfl⟩⟩;have D:fz (dT (a.map Β))=(a.map Β).foldl gd ⟨0,0,([],[])⟩:=rfl;rw[<-D,a3t,p]at x;have E:1<=i:=by
  match a,o with
  |b::a,_=>have:=(c b ρ).pos;have:=r b ρ;omega
 have F:(fz (dT (a.map Β))).size=i:=by
  rw[xa,<-p];have:∀(a:List (an×Nat)),(∀b∈a,ji e b.2 b.1)->(((a.map Β).map (·.size)).sum:Int)=(((a.map Prod.snd).sum:Nat):Int):=by
   intro a
   induction a with
   |nil=>intro _;rfl
   |cons b a ih=>intro d;simp only[a3q,a4X];rw[ih λh k=>d h (by simp[k]),(d b ρ).size];push_cast;rfl
  simp only[dT,a3a];rw[this a c];simp
 have G:gI e (fz (dT (a.map Β))).bf:=by
  rcases x.bf with⟨y,_⟩|⟨_,y⟩
  .omega
  .exact y
 refine⟨⟨C,λW f=>by trivial,λb d=>?_⟩,⟨oS _,x.live,F,E,G,?_⟩,?_⟩
 .obtain⟨h,k,rfl⟩:=a3m.1 d;exact(c h k).p4 (by have:=r h k;omega)
 .show bF e (keyOf (dT (a.map Β)))
  match a,o with
  |b::a,_=>exact(c b ρ).key
 .unfold fg;grind
def lP{r:Nat}(y:1<=r)(z:r<=8):∀(a:Nat)(c:a1.T a),ee r a c->xo r (a1.aW a c).length (eW a c)/\(bN a c).key=a1.cI a c
 |0,c,d=>by
  obtain⟨E,rfl⟩:=a1.iB c;obtain⟨x,k,_⟩:=d.wf;rw[a1.hR]at x k;have C:=d.ok;rw[a1.iC]at C;exact⟨tX y z x k C,Yb⟩
 |a+1,c,d=>by
  obtain⟨h,rfl⟩:=a1.gB c;obtain⟨x,k,S,o⟩:=d.wf;rw[a1.dH]at x k o;have o:=o δ;have D:=d.gk;have F:=d.ek;have ih:=λb p=>lP y z a b (D b p).1;have G:(h.map λb=>(bN a b,(a1.aW a b).length)).map Β=h.map (bN a):=by rw[a4N];rfl
  have L:((h.map λb=>(bN a b,(a1.aW a b).length)).map Prod.snd).sum=(a1.aW (a+1) (a1.node h)).length:=by rw[a4N,a1.fA,List.length_flatMap];rfl
  have:=Yc (by simpa using o) (by simpa using k) (λT P=>by
   obtain⟨b,p,rfl⟩:=a3m.1 P;simp only[tW];exact(ih b p).1.p4) L F
  rw[G]at this;refine⟨this,?_⟩
  match h,o with
  |b::h,_=>
   show(bN a b).key= _;have p:=ih b ρ;rw[p.2];unfold a1.cI;rw[a1.fA,a3A];have:=(D b ρ).1.ne;cases V:a1.aW a b with
   |nil=>trivial
   |cons W E=>rfl
def qm(b:1<=i)(c:i<=8){a:a1.T e}(d:ee i e a):ji i (a1.aW e a).length (bN e a):=by rw[tW];exact(lP b c e a d).1.p4
def Yd(b:1<=i)(c:i<=8){a:a1.T e}(d:ee i e a):(bN e a).key=a1.cI e a:=(lP b c e a d).2
theorem ee.high{r:Nat}:∀(a:Nat)(b:a1.T a),ee r a b->a+1<=(a1.aW a b).length
 |0,b,c=>by
  have:=c.ne;grind
 |a+1,b,c=>by
  obtain⟨h,rfl⟩:=a1.gB b;obtain⟨x,y,z,d⟩:=c.wf;rw[a1.dH]at x y d;have d:=d δ;have k:=c.gk
  match h,d with
  |o::p::h,_=>have C:=ee.high a o (k o ρ).1;have D:=ee.high a p (k p ρ).1;rw[a1.fA,a3A,a3A];simp only[a2V];omega
def ht(a b:Int):Int:=if a<b then -1 else if b<a then 1 else 0
def gW:Ρ->Ρ->Int
 |[],[]=>0
 |[],_:: _=> -1
 |_:: _,[]=>1
 |a::c,b::d=>if ht a b=0 then gW c d else ht a b
def DC(b:Int)(a:U):AC γ 334 [.v (.int .i64 b)] a λc d=>d=a/\c=.v (.bool ι):=by
 refine aM hm QY ?_
 repeat' first|refine aH (λ_=>?_) λ_=>?_|trivial
def DD(b c:Int)(a:U):AC γ 314 [.v (.int .i64 b),.v (.int .i64 c)] a λd h=>h=a/\d=.v (.int .i64 (ht b c)):=by
 refine aM hm QC ?_;refine bd (DC b a) ?_;refine bd (DC c a) ?_
 repeat' first|refine aH (λ_=>?_) λ_=>?_|trivial
 .rw[ht,if_pos ‹_›]
 .rw[ht,if_neg ‹_›,if_pos ‹_›]
 .rw[ht,if_neg ‹_›,if_neg ‹_›]
theorem drop_cons{a:List b0}{b:b0}(c:e<α a):a.drop e=a.getD e b::a.drop (e+1):=by simp_all
theorem s6{a:List b0}(b:α a<=e):a.drop e=[]:=a3D b
theorem Ye(b c:Ρ)(h k:Own)(d:U)(y:α b<=1000000000000):AC γ 315 [.J (ab b) h,.J (ab c) k] d λo p=>p=d/\o=.v (.int .i64 (gW b c)):=by
 have z:=bK (n:=b);have C:=bK (n:=c);have D:=@er b;have E:=@er c;refine aM hm QE ?_;refine hj [0,1,9,10] (λa:Nat=>[(11,.v (.int .i64 a))]) (λa=>a<=α b/\a<=α c/\gW b c=gW (b.drop a) (c.drop a)) (λa=>α b - a) 0 ⟨δ,δ,rfl⟩ aV ?_;rintro a⟨F,G,L⟩P;refine aa ?_;refine aH (λr=>?_) λr=>?_
 .refine aH (λx=>?_) λx=>?_
  .rw[drop_cons (b:=0) δ,s6 (a:=c) δ,gW]
  .have S:=drop_cons (a:=b) (b:=0) (e:=a) δ;have T:=drop_cons (a:=c) (b:=0) (e:=a) δ;refine bd (DD _ _ _) ?_;refine aH (λc2=>?_) λc2=>?_
   .rw[gW,if_neg c2]
   .rw[gW,if_pos δ];grind
 .repeat' first|refine aH (λ_=>?_) λ_=>?_|trivial
  .rw[s6 δ,drop_cons (b:=0) δ,gW]
  grind[s6,gW]
def cB(a:Nat)(b c:Ρ):Int:=if ht (b.getD a 0) (c.getD a 0)=0 then gW b c else ht (b.getD a 0) (c.getD a 0)
def DE(a b:Ρ)(o p:Own)(c:Nat)(d:U)(h:Nat)(z:d.read h=β [.v (.int .i64 (c:Int))])(C:c<α a)(D:c<α b)(r:α a<=1000000000000):
  AC γ 313 [.J (ab a) o,.J (ab b) p,.ptr h 0] d λx y=>y=d/\x=.v (.int .i64 (cB c a b)):=by
 have E:=@er a;have F:=@er b;refine aM hm QA ?_;refine bd (DD _ _ _) ?_;refine aH (λk=>?_) λk=>?_
 .rw[cB,if_neg k]
 .refine bd (Ye _ _ _ _ _ r) ?_;rw[cB,if_pos δ]
def DF(o a b:Nat)(y:0<a)(z:b<=1000000000000)(C:a<=8)(d:U):
  AC γ 276 [dz o a,.v (.int .i64 (b:Int))] d λp h=>d.sub h/\∃c,h c=β (.cells [.v (.int .i64 ((b%a:Nat):Int))])/\d c=ε/\p=.bA 313 [] [.ptr c 0]:=by
 have D:(b:Int).tmod (a:Int)=((b%a:Nat)):=rfl;have E:¬(a:Int)=0:=δ;refine aM hm PW ?_;refine bp λc r=>?_;refine dk λx k F G=>?_;refine⟨_,θ,?_,x,ν _ _ _,k,rfl⟩;exact μ (μ θ r) k
def DG(c d:Ρ)(h k:Own)(o a b:Nat)(p:0<a)(x:a<=8)(y:b<=1000000000000)(P:α c=a)(S:α d=a)(r:U):
  AC γ 222 [dz o a,.J (ab c) h,.J (ab d) k,.v (.int .i64 (b:Int))] r λz C=>C=r/\z=.v (.int .i64 (if cB (b%a) c d<0 then 0 else 1)):=by
 have T:=a4O b p;refine aM hm On ?_;refine bp λV D=>?_;refine ak (DF o a b p y x _) ?_;rintro _ E⟨F,G,L,_,rfl⟩;refine aa ?_;refine eC a7v (DE c d h k (b%a) E G (κ L) δ δ δ) ?_;rintro _ _⟨rfl,rfl⟩;refine aa ?_
 repeat' first|refine aH (λ_=>?_) λ_=>?_|trivial
 all_goals exact ο (μ θ D) F
theorem xq(a c:Ρ)(r x:Own)(k:Nat)(p:U)(F:k<α a)(G:α c=α a)(L:α a<=1000000000000):
  AC γ 120 [.J (ab a) r,.J (ab c) x,.v (.int .i64 (k:Int))] p λy z=>z=p/\y=.v (.bool (decide (cB k a c<0))):=by
 have P:=bK (n:=a);have S:=@er a;have T:=@er c;have C:∀d h:Int,ht d h=0↔d=h:=λd h=>by unfold ht;omega
 have V:∀d h:Int,ht d h<0↔d<h:=λd h=>by unfold ht;omega
 refine aM hm LU ?_;refine aH (λD=>?_) λD=>?_;simp_all [cB];have W:cB k a c=gW a c:=by rw[cB,if_pos (by rw[C];omega)]
 refine hj [0,1] (λb:Nat=>[(7,.v (.int .i64 b))]) (λb=>b<=α a/\gW (a.drop b) (c.drop b)=gW a c) (λb=>α a - b) 0 ⟨δ,rfl⟩ aV ?_;rintro b⟨e,o⟩f;refine aa ?_;refine aH (λE=>?_) λE=>?_
 .rw[drop_cons (b:=0) δ,drop_cons (b:=0) (e:=b) δ,gW]at o;refine aH (λc2=>?_) λc2=>?_;grind;grind
 .rw[s6 δ,s6 δ]at o;exact aX (by rw[<-o];rfl)
def ev(c:Nat)(a:Ρ)(d:List Ρ):List Ρ:=d.takeWhile (λb=>decide (cB c b a<0))++a::d.dropWhile (λb=>decide (cB c b a<0))
def dP(a:Nat)(b:List Ρ):List Ρ:=b.foldl (λc d=>ev a d c) []
theorem Yf(b:Nat)(c:Ρ)(a:List Ρ):(ev b c a).length=α a+1:=by have:=congrArg α (a3F (p:=λd=>decide (cB b d c<0)) (l:=a));grind[Γ,ev,List.length_cons]
theorem xr:n∈ev e b6 N↔n=b6\/n∈N:=by have:=congrArg (λN=>n∈N) (a3F (p:=λn=>decide (cB e n b6<0)) (l:=N));simp only[a3f,eq_iff_iff]at this;grind[ev]
theorem Yg(c:∀a<e,cB i (N.getD a []) n<0)(b:e<=α N)(d:e<α N->¬cB i (N.getD e []) n<0):ev i n N=N.take e++n::N.drop e:=by
 induction N generalizing e with
 |nil=>simp at b;subst b;rfl
 |cons h N ih=>
  cases e with
  |zero=>grind[cB,ev,List.takeWhile_cons,List.dropWhile_cons]
  |succ e=>have o:cB i h n<0:=c 0 δ;have:=ih (λa p=>c (a+1) δ) (by simpa using b) (λk=>d (by simpa using k));simp_all [ev]
theorem Yh(h:List Ρ)(l:Χ)(H:Own)(y F:Nat)(e:U)(m:aC isRow h l)(I:∀G∈h,α G=F)(k5:y<F)(k6:F<=8)(k7:α h<=100000):
  AC γ 174 [.J l H,.v (.int .i64 (y:Int))] e λG L=>e.sub L/\∃n K,aC isRow (dP y h) n/\G=.J n K:=by
 have k8:=m.len;refine aM hm Nf ?_;refine cQ [0,1] (λb:Nat×Χ×Own=>[(6,.v (.int .i64 b.1)),(5,.J b.2.1 b.2.2)]) (λb L=>e.sub L/\b.1<=α h/\∃c,(h.take b.1).foldl (λc x=>ev y x c) []=c/\α c=b.1/\(∀G∈c,α G=F)/\aC isRow c b.2.1) (λb=>α h - b.1) (0,[],.nil) ⟨⟨θ,δ,[],rfl,rfl,ρ,trivial⟩,aV⟩ ?_;rintro⟨z,C,bC⟩ M ⟨q,N,c,P,O,Q,p⟩ X
 dsimp only at N P O p|-
 have k9:=p.len;refine aa ?_;refine aH (λY=>?_) λY=>?_
 .have s:h[z]?=β (h.getD z []):=by simp_all
  obtain⟨_,l0,f,rfl⟩:=m.get s;have l1:=I _ (a3d s);have t:=iy (a:=h) (b:=[]) (e:=z) δ;generalize h.getD z []=x at*;have el:∀a,a<α c->∃E,C[a]?=β (.J (ab (c.getD a [])) E):=λa T=>by
   obtain⟨_,k,E,rfl⟩:=p.get (i:=a) (x:=c.getD a []) (by simp_all);exact⟨E,k⟩
  have Z:∀a,a<α c->(c.getD a []).length=F:=λa T=>Q _ (by simp_all);refine cQ [0,1,5,6] (λb:Nat×Χ×Own=>[(8,.v (.int .i64 b.1)),(7,.J b.2.1 b.2.2)]) (λb L=>b.1<=α c/\(∀u<b.1,cB y (c.getD u []) x<0)/\aC isRow (c.take b.1) b.2.1/\bj M L 1 b.2.1 b.2.2) (λb=>α c - b.1) (0,[],.nil) ⟨⟨δ,λu d=>by simp at d,trivial,bj.nil θ⟩,aV⟩ ?_;rintro⟨a,V,on⟩ l2 ⟨T,v,r,W⟩ X
  dsimp only at T v r W|-
  have l3:α V=a:=by rw[r.len,a2X];omega
  have w:¬(a<α c/\cB y (c.getD a []) x<0)->ev y x c=c.take a++x::c.drop a:=λd=>Yg v T λk0 D=>d ⟨k0,D⟩;by_cases jg:(a)<(z:Int)
  .obtain⟨E,l4⟩:=el a δ;have l5:=Z a δ;have k2:=iy (a:=c) (b:=[]) (e:=a) δ;generalize l6:c.getD a []=b at*;refine aa ?_;refine bd (xq b x E f y _ δ δ δ) ?_;refine aH (λc2=>?_) λc2=>?_
   .refine mB (λA S=>?_);refine ei (W.mono (μ θ S)) (r.cells λ_ _=>φ) (λk o=>by rw[a3s]at o;subst o;rfl) Κ Κ λg B D=>?_;refine aa ?_;refine⟨(a+1,V++[.J (ab b) E],g),⟨by simp only;omega,?_,?_,D⟩,⟨rfl,rfl⟩,by simp only;omega⟩;grind
    .simp only[k2];exact r.snoc ⟨_,rfl⟩
   .have k:=w δ;refine mB (λA S=>?_);refine ei (W.mono (μ θ S)) (r.cells λ_ _=>φ) (λk o=>by rw[a3s]at o;subst o;rfl) Κ Κ λg B D=>?_;have k3:dN 1 (.J C bC) (β (.v (.int .i64 (a)))) ε=β (.J (C.drop a) .any):=oL δ (p.cells λ_ _=>φ);refine aa ?_;refine ei D (λk o=>by rcases a3f.1 o with d|d;exact r.cells (λ_ _=>φ) k d;rw[a3s]at d;subst d;rfl) ((p.drop a).cells λ_ _=>φ) Κ Κ λi k4 j=>?_;refine aa ?_;refine⟨(z+1,V++[.J (ab x) f]++C.drop a,i),⟨ο q j.sub,by simp only;omega,_,rfl,?_,?_,?_⟩,⟨rfl,rfl⟩,by simp only;omega⟩;grind;grind
    .simp only[t,a5j,P,a3I,a5Q,k];rw[a5X];exact(r.snoc ⟨_,rfl⟩).append (p.drop a)
  .have k:=w δ;refine aa ?_;refine mB (λA S=>?_);refine ei (W.mono (μ θ S)) (r.cells λ_ _=>φ) (λk o=>by rw[a3s]at o;subst o;rfl) Κ Κ λg B D=>?_;have k3:dN 1 (.J C bC) (β (.v (.int .i64 (a)))) ε=β (.J (C.drop a) .any):=oL δ (p.cells λ_ _=>φ);refine aa ?_;refine ei D (λk o=>by rcases a3f.1 o with d|d;exact r.cells (λ_ _=>φ) k d;rw[a3s]at d;subst d;rfl) ((p.drop a).cells λ_ _=>φ) Κ Κ λi k4 j=>?_;refine aa ?_;refine⟨(z+1,V++[.J (ab x) f]++C.drop a,i),⟨ο q j.sub,by simp only;omega,_,rfl,?_,?_,?_⟩,⟨rfl,rfl⟩,by simp only;omega⟩;grind;grind
   .simp only[t,a5j,P,a3I,a5Q,k];rw[a5X];exact(r.snoc ⟨_,rfl⟩).append (p.drop a)
 .obtain rfl:z=α h:=δ;rw[a3K]at P;exact⟨C,bC,by rw[dP,P];exact p,rfl⟩
inductive aA where
 |nil
 |node (r:Ρ) (live:Bool) (a b:aA)
def dJ(a:U):aA->R->Prop
 |.nil,b=>b=.v (.pointer ε)
 |.node k live o p,b=>∃c r d h,b=.ptr c 0/\a c=β (.cells [.J (ab k) r,.v (.bool live),d,h])/\dJ a o d/\dJ a p h
def dJ.mono{b c:U}(a:b.sub c):∀ {d:aA}{h:R},dJ b d h->dJ c d h
 |.nil,_,k=>k
 |.node _ _ _ _,_,⟨o,p,r,x,h1,y,z,C⟩=>⟨o,p,r,x,h1,a _ _ y,z.mono a,C.mono a⟩
theorem dJ.cells{b:U}:∀ {c:aA}{a:R},dJ b c a->a.cells=[a]
 |.nil,_,rfl=>rfl
 |.node _ _ _ _,_,⟨_,_,_,_,rfl,_⟩=>rfl
def _root_.Go.bt.U.part(b c d:U):U:=λa=>if c a=ε\/d a≠ε then b a else ε
def DH:U:=λ_=>ε
variable{f u e1:U}
theorem qn:(f.part u e1).sub f:=λa b c=>by
 grind[U.part]
def DI{c d:U}(h:f.sub u)(k:e1.sub c):(e1.part u d).sub (c.part f d):=λo p a=>by
 rw[U.part]at a|-;split at a
 .rename_i b;rw[if_pos (b.imp_left λb=>Μ h b)];exact k _ _ a
 .cases a
def Yi{c:U}(b:f.sub u):(e1.part u DH).sub (e1.part f c):=λh k a=>by
 rw[U.part]at a|-;split at a
 .rename_i d;rw[if_pos (.inl (Μ b (d.resolve_right λb=>b rfl)))];exact a
 .cases a
def p5(b:f.sub u):f.sub (u.part e1 f):=λc d a=>by rw[U.part,if_pos (.inr (by rw[a];simp))];exact b _ _ a
theorem tY(a:f e=ε):u.part f e1 e=u e:=if_pos (.inl a)
def aA.size:aA->Nat
 |.nil=>0
 |.node _ _ a b=>1+a.size+b.size
def aA.all:aA->List Ρ
 |.nil=>[]
 |.node a live b c=>b.all++c.all++(if live=η then [a]else [])
def qo:∀(c:aA)(b:R)(a:U),dJ a c b->c.size<=1000000->AC γ 112 [b] a λd h=>h=a/\d=.v (.int .i64 (c.size:Int))
 |.nil,b,a,k,_=>by
  obtain rfl:b=.v (.pointer ε):=k;refine aM hm Ak ?_;trivial
 |.node d live o p,b,a,⟨E,F,r,x,h1,y,z,C⟩,D=>by
  subst h1;have G:=κ y;simp only[aA.size]at D;refine aM hm Ak ?_;refine bd (qo o r a z δ) ?_;refine bd (qo p x a C δ) ?_;rfl
def kL:∀a:aA,α a.all<=a.size
 |.nil=>by trivial
 |.node d live b c=>by
  have:=kL b;have:=kL c;simp only[aA.all,aA.size,a2V];split<;>simp<;>omega
def s7:∀(r:aA)(b:R)(a:U),dJ a r b->r.size<=1000000->AC γ 111 [b] a λz G=>∃x k,bj a G 1 x k/\aC isRow r.all x/\z=.J x k
 |.nil,b,a,L,_=>by
  obtain rfl:b=.v (.pointer ε):=L;refine aM hm Aj ?_;exact⟨_,θ,[],.nil,bj.nil θ,trivial,rfl⟩
 |.node z live C D,b,a,⟨g,k,P,S,h1,o,c,y⟩,T=>by
  subst h1;have i:=κ o;simp only[aA.size]at T;have j:=kL C;have l:=kL D;refine aM hm Aj ?_;refine ak (s7 C P a c δ) ?_;rintro _ V⟨m,n,p,d,rfl⟩;have q:=κ (p.sub _ _ o);refine aa ?_;refine ak (s7 D S V (y.mono p.sub) δ) ?_;rintro _ s⟨t,u,E,h,rfl⟩;have v:=κ (E.sub _ _ (p.sub _ _ o));have w:=d.len;have A:=h.len;refine aa ?_;refine ei (p.mono E.sub) (d.cells λ_ _=>φ) (h.cells λ_ _=>φ) δ δ λW B c=>?_;have H:=κ (c.sub _ _ o);refine aa ?_;cases live with
  |true=>refine aa ?_;refine mB (λI e=>?_);refine ei (c.mono (μ θ e)) ((d.append h).cells λ_ _=>φ) (λK F=>by rw[a3s]at F;subst F;rfl) Κ Κ λf M y=>?_;refine aa ?_;exact⟨_,θ,_,f,y,(d.append h).append ⟨⟨k,rfl⟩,trivial⟩,rfl⟩
  |false=>refine aa ?_;exact⟨_,θ,_,W,c,by simpa[aA.all] using d.append h,rfl⟩
def fp(b:Nat):Nat->List Ρ->Nat->aA
 |0,_,_=>.nil
 |c+1,a,dep=>if a=[]then .nil else
  .node ((dP (dep%b) a).getD (α a/2) []) η (fp b c ((dP (dep%b) a).take (α a/2)) (dep+1)) (fp b c ((dP (dep%b) a).drop (α a/2+1)) (dep+1))
theorem xt{h:Nat}:∀(b a:List Ρ),(b.foldl (λk c=>ev h c k) a).length=α a+α b/\∀d,d∈b.foldl (λk c=>ev h c k) a↔d∈a\/d∈b
 |[],a=>by simp
 |c::b,a=>by
  obtain⟨o,p⟩:=xt b (ev h c a);refine⟨by rw[a3I,o,Yf,a3e];omega,λd=>?_⟩;grind[xr]
theorem p6(b:Nat)(a:List Ρ):(dP b a).length=α a:=by rw[dP,(xt a []).1];simp
def qp:n∈dP e N↔n∈N:=by rw[dP,(xt N []).2];simp
theorem tZ(b:Nat)(E:0<b)(F:b<=8):∀(h:Nat)(a:List Ρ)(d:Χ)(k:Own)(dep:Nat)(r:U),aC isRow a d->(∀o∈a,α o=b)->α a<=h->h<=100000->dep+h<=1000000->
  AC γ 113 [.J d k,.v (.int .i64 (dep:Int))] r λo g=>r.sub g/\dJ (g.part r DH) (fp b h a dep) o
 |0,a,d,k,dep,r,x,C,v,_,_=>by
  obtain rfl:a=[]:=a2Y δ;obtain rfl:d=[]:=a2Y x.len;refine aM hm vI ?_;exact⟨_,θ,θ,rfl⟩
 |h+1,a,d,k,dep,r,x,C,v,N,O=>by
  have Q:=x.len;by_cases G:a=[]
  .subst G;obtain rfl:d=[]:=a2Y x.len;refine aM hm vI ?_;rw[fp,if_pos rfl];exact⟨_,θ,θ,rfl⟩
  have X:=a3T.2 G;have Y:¬(α a:Int)=0:=δ;obtain⟨_,Z,k0,rfl⟩:=x.get (i:=0) (x:=a.getD 0 []) (by simp_all);have k2:=C (a.getD 0 []) (by simp_all);have k3:=bK (n:=a.getD 0 []);have w:(dep:Int).tmod (b:Int)=((dep%b:Nat)):=rfl;have k4:¬(b:Int)=0:=δ;have A:(α a:Int).tdiv 2=((α a/2:Nat)):=rfl;have k5:∀L k,cJ L (.J d k) (.v (.int .i64 0))=eJ L d[0]? :=λL k=>pY;refine aM hm vI ?_;refine ak (Yh a d k (dep%b) b r x C (a4O _ E) F δ) ?_;rintro _ B⟨D,y,P,p,rfl⟩;have i:=p.len;rw[p6]at i;have j:=p6 (dep%b) a;have S:∀T∈dP (dep%b) a,α T=b:=λT H=>C T (qp.1 H);obtain⟨z,l⟩:∃z,dP (dep%b) a=z:=⟨_,rfl⟩;rw[fp,if_neg G];rw[l]at j S p|-;generalize I:α a/2=c at*;obtain⟨_,k6,m,rfl⟩:=p.get (i:=c) (x:=z.getD c []) (by grind);have k7:dN 1 (.J y P) ε (β (.v (.int .i64 (c))))=β (.J (y.take c) .any):=by have:=ns (e0:=.i64) (O:=P) (b1:=(c)) δ δ (p.cells λ_ _=>φ);trivial
  have k8:dN 1 (.J y P) (β (.v (.int .i64 ((c)+1)))) ε=β (.J (y.drop (c+1)) .any):=oL (e:=c+1) δ (p.cells λ_ _=>φ);refine aa ?_;refine ak (tZ b E F h (z.take c) (y.take c) .any (dep+1) B (p.take c) (λo V=>S o (a3j V)) (by rw[a2X];omega) δ δ) ?_;rintro n K⟨W,q⟩;refine aa ?_;refine ak (tZ b E F h (z.drop (c+1)) (y.drop (c+1)) .any (dep+1) K (p.drop (c+1)) (λo V=>S o (a3v V)) (by rw[a3i];omega) δ δ) ?_;rintro s k9⟨e,t⟩;clear l j i w A I;have l0:=q.cells;have l1:=t.cells;refine aa ?_;refine aO λM u=>?_;refine aa ?_;have f:=μ (X:=.cells [.J (ab (z.getD c [])) m,.v (.bool η),n,s]) θ u;exact⟨_,θ,ο D (ο W (ο e f)),M,m,n,s,rfl,(tY (Μ D (Μ W (Μ e u)))).trans (ν _ _ _),q.mono (DI D (ο e f)),t.mono (DI (ο D W) f)⟩
theorem Yj{b c:U}(h:∀a,u a=ε->f a=ε)(k:∀a,c a≠ε->f a=ε\/b a≠ε):(e1.part u c).sub (e1.part f b):=λa o d=>by
 rw[U.part]at d|-;grind
variable{X j6:bl}
def xu(c:f.sub u):(f.set e X).sub (u.set e X):=λd h a=>by
 by_cases b:d=e
 .subst b;rw[ν]at a|-;exact a
 .rw[ξ _ _ b]at a|-;exact c _ _ a
theorem xv{d h:U}(o:f.sub u)(p:e1=f.set e j6)(k:f e=ε):
  (d.part (u.set e X) ((u.part e1 h).set e X)).sub (d.part f h):=Yj (λc a=>by
   by_cases b:c=e
   .subst b;exact k
   .rw[ξ _ _ b]at a;exact Μ o a) λc a=>by
   by_cases b:c=e
   .subst b;exact .inl k
   .rw[ξ _ _ b,U.part]at a;split at a;simp_all [ξ]
    .trivial
theorem u0{a:U}(b:f=e1.set e X)(c:u e=ε):a.part f u e=none:=by simp_all [U.part,ν]
def aA.Ok(a:Nat):aA->Prop
 |.nil=>True
 |.node b _ c d=>α b=a/\c.Ok a/\d.Ok a
theorem aA.Ok.all{c:Nat}:∀ {d:aA},d.Ok c->∀b∈d.all,α b=c
 |.nil,_,b,a=>by trivial
 |.node o live p r,⟨h1,h,k⟩,b,a=>by
  simp only[aA.all,a3f]at a;rcases a with (a|a)|a
  .exact h.all b a
  .exact k.all b a
  simp_all
def gX(d:Nat)(h:aA)(k:Nat):aA:=
 match h with
 |.nil=>.nil
 |.node c live a b=>if max a.size b.size>2*(aA.node c live a b).size/3+1 then fp d (aA.node c live a b).all.length (aA.node c live a b).all k else .node c live a b
theorem xw(o:Nat)(j:0<o)(l:o<=8)(d:Ρ)(h:Bool)(a b:aA)(F:R)(p:Nat)(k r:U)(G:dJ r (.node d h a b) F)(L:r.sub k)(m:(aA.node d h a b).Ok o)(x:(aA.node d h a b).size<=100000)(k3:p<=100000):
  AC γ 119 [F,.v (.int .i64 (p:Int))] k λy P=>k.sub P/\dJ (P.part k r) (gX o (.node d h a b) p) y:=by
 have z:=G.mono L;obtain⟨k4,k5,y,n,rfl,q,s,t⟩:=id z;have k6:=κ q;have u:a.size<=100000:=by simp only[aA.size]at x;omega
 have w:b.size<=100000:=by simp only[aA.size]at x;omega
 refine aM hm LR ?_;refine bd (qo a y k s δ) ?_;refine bd (qo b n k t δ) ?_;have A:=kL (aA.node d h a b);have S:=qo _ _ k z δ;rw[gX];have B:=tZ o j l (aA.node d h a b).all.length (aA.node d h a b).all;have H:=s7 _ _ k z δ;have I:=m.all;generalize aA.node d h a b=K at*;obtain⟨c,T⟩:∃c,K.size=c:=⟨_,rfl⟩;obtain⟨C,V⟩:∃c,a.size=c:=⟨_,rfl⟩;obtain⟨D,W⟩:∃c,b.size=c:=⟨_,rfl⟩;rw[T]at S x A|-;rw[V]at u|-;rw[W]at w|-;clear T V W;have M:(2*(c:Int)).tdiv 3=((2*c/3:Nat)):=by grind
 obtain⟨E,e⟩:∃E,2*c/3=E:=⟨_,rfl⟩;rw[e]at M|-;have N:max (C:Int) (D)=((max C D)):=δ;obtain⟨f,g⟩:∃f,max C D=f:=⟨_,rfl⟩;rw[g]at N|-;have hm:E<=100000:=δ;clear e g;refine bd S ?_;refine aH (λO=>?_) λO=>?_
 .rw[if_pos δ];refine ak H ?_;rintro _ Q⟨X,Y,i,Z,rfl⟩;refine aa ?_;refine ak (B X Y p Q Z I δ δ δ) ?_;rintro v k7⟨k0,k2⟩;refine aa ?_;exact⟨_,θ,ο i.sub k0,k2.mono (Yi i.sub)⟩
 .rw[if_neg δ];exact⟨_,θ,θ,G.mono (p5 L)⟩
theorem qq(b:Nat):∀(c:Nat)(a:List Ρ)(dep:Nat),(fp b c a dep).size<=α a
 |0,_,_=>a3N _
 |c+1,a,dep=>by
  rw[fp];split
  .exact a3N _
  .rename_i d;have:=a3T.2 d;have h:=qq b c ((dP (dep%b) a).take (α a/2)) (dep+1);have k:=qq b c ((dP (dep%b) a).drop (α a/2+1)) (dep+1);grind[List.length_take,p6,List.length_drop,aA.size]
theorem xx(b:Nat):∀(d:Nat)(h:List Ρ)(dep:Nat),(∀a∈h,α a=b)->(fp b d h dep).Ok b
 |0,_,_,_=>trivial
 |d+1,h,dep,o=>by
  rw[fp];split
  .trivial
  .rename_i p;have:=a3T.2 p;have k:∀a∈dP (dep%b) h,α a=b:=λa c=>o a (qp.1 c);refine⟨?_,xx b d _ _ λa c=>k a (a3j c),xx b d _ _ λa c=>k a (a3v c)⟩;grind[dP,p6,List.getD,List.getElem?_eq_getElem,List.getElem_mem]
theorem Yk(b:Nat)(a:aA)(c:Nat):(gX b a c).size<=a.size:=by
 unfold gX;split
 .trivial
 .split
  .exact a4f (qq _ _ _ _) (kL _)
  .omega
variable{a8:aA}
def xy(b:Nat)(a:a8.Ok e):(gX e a8 b).Ok e:=by
 unfold gX;split
 .trivial
 .split
  .exact xx _ _ _ _ a.all
  .exact a
def cO(a:Nat)(b:Ρ):aA->Nat->aA×Bool
 |.nil,_=>(.node b η .nil .nil,η)
 |.node c live d h,dep=>
  if c=b then(gX a (.node c η d h) dep,!live)
  else if cB (dep%a) b c<0 then(gX a (.node c live (cO a b d (dep+1)).1 h) dep,(cO a b d (dep+1)).2)
  else(gX a (.node c live d (cO a b h (dep+1)).1) dep,(cO a b h (dep+1)).2)
theorem p7(a:Nat)(b:Ρ):∀(c:aA)(dep:Nat),(cO a b c dep).1.size<=c.size+1
 |.nil,_=>a3w _
 |.node k live d h,dep=>by
  have o:=p7 a b d (dep+1);have p:=p7 a b h (dep+1);grind[cO,Nat.le_trans,Yk,aA.size]
def u1{a:Nat}{b:Ρ}(c:α b=a):∀ {r:aA} (dep:Nat),r.Ok a->(cO a b r dep).1.Ok a
 |.nil,_,_=>⟨c,trivial,trivial⟩
 |.node d live h k,dep,⟨h1,o,p⟩=>by
  rw[cO];split
  .exact xy (a8:=.node d η h k) _ ⟨h1,o,p⟩
  .split
   .exact xy (a8:=.node d live (cO a b h (dep+1)).1 k) _ ⟨h1,u1 c _ o,p⟩
   .exact xy (a8:=.node d live h (cO a b k (dep+1)).1) _ ⟨h1,o,u1 c _ p⟩
def xz(a:Nat)(E:0<a)(P:a<=8)(o:Ρ)(g:Own)(S:α o=a):∀(T:aA)(V:R)(dep:Nat)(x y:U),dJ y T V->y.sub x->T.Ok a->T.size+1+dep<=100000->
  AC γ 65 [V,.J (ab o) g,.v (.int .i64 (dep:Int))] x λk H=>x.sub H/\∃d,k=.aF [d,.v (.bool (cO a o T dep).2)]/\dJ (H.part x y) (cO a o T dep).1 d
 |.nil,V,dep,x,y,q,z,I,K=>by
  obtain rfl:V=.v (.pointer ε):=q;refine aM hm Ag ?_;refine aO λb h=>?_;refine aa ?_;exact⟨_,θ,μ θ h,_,rfl,b,g,_,_,rfl,(tY h).trans (ν _ _ _),rfl,rfl⟩
 |.node c live F G,V,dep,x,y,q,z,I,K=>by
  obtain⟨M,p,k,d,rfl,N,i,j⟩:=q;have W:=z _ _ N;have O:=i.mono z;have Q:=j.mono z;obtain⟨s,l,m⟩:=id I;have k6:=κ W;have k7:=bK (n:=o);have k8:=O.cells;have k9:=Q.cells;refine aM hm Ag ?_;refine bp λb h=>?_;have X:=μ (X:=.cells [.J (ab c) p,.v (.bool live),k,d]) θ h;have l0:=κ (X _ _ W);have l1:M≠b:=by rintro rfl;rw[h]at W;cases W
  have C:=Μ z h;obtain⟨n,Y⟩:∃n,n=x.set b (.cells [.J (ab c) p,.v (.bool live),k,d]):=⟨_,rfl⟩;simp only[aA.size]at K;refine aa ?_;refine ak (s4 c o _ _ _ δ) ?_;rintro _ _⟨rfl,rfl⟩;refine aa ?_;refine aH (λt=>?_) λt=>?_
  .subst t;have Z:dJ ((x.part n y).set b (.cells [.J (ab c) p,.v (.bool η),k,d])) (.node c η F G) (.ptr b 0):=by have r:=μ (X:=.cells [.J (ab c) p,.v (.bool η),k,d]) (p5 (e1:=n) z) C;exact⟨b,p,k,d,rfl,ν _ _ _,i.mono r,j.mono r⟩
   refine ak (xw a E P c η F G _ dep _ _ Z (xu qn) ⟨s,l,m⟩ (by simp only[aA.size];omega) δ) ?_;rintro v L⟨r,D⟩;have l2:=κ (r _ _ (μ θ h _ _ W));refine aa ?_;rw[cO,if_pos rfl];exact⟨_,θ,ο (μ θ h) r,_,rfl,D.mono (xv θ Y h)⟩
  rw[cO,if_neg t];have l3:(dep:Int).tmod (a:Int)=((dep%a:Nat)):=rfl;refine ak (xq o c _ _ (dep%a) _ (by rw[S];exact a4O _ E) δ δ) ?_;rintro _ _⟨rfl,rfl⟩;refine aa ?_;refine aH (λc2=>?_) λc2=>?_
  .refine ak (xz a E P o g S F k (dep+1) _ y i (μ z C) l δ) ?_;rintro _ L⟨r,v,rfl,D⟩;have u:=r _ _ (ν _ _ _);have k0:dR L b=β [.J (ab c) p,.v (.bool live),k,d]:=by simp[dR,u]
   have k2:=D.cells;have e:=ο (μ θ h) r;rw[if_pos c2];refine aa ?_;have f:=μ (X:=.cells [.J (ab c) p,.v (.bool live),v,d]) θ (u0 rfl C:L.part (x.set b (.cells [.J (ab c) p,.v (.bool live),k,d])) y b=ε);have w:dJ _ (.node c live (cO a o F (dep+1)).1 G) (.ptr b 0):=⟨b,p,v,d,rfl,ν _ _ _,D.mono f,j.mono (ο (p5 (ο (μ z C) r)) f)⟩;have k3:=p7 a o F (dep+1);refine ak (xw a E P _ _ _ _ _ dep _ _ w (xu qn) ⟨s,u1 S _ l,m⟩ (by simp only[aA.size];omega) δ) ?_;rintro k4 k5⟨A,B⟩;refine aa ?_;exact⟨_,θ,ο (μ e h) A,_,rfl,B.mono (xv e rfl h)⟩
  .refine ak (xz a E P o g S G d (dep+1) _ y j (μ z C) m δ) ?_;rintro _ L⟨r,v,rfl,D⟩;have u:=r _ _ (ν _ _ _);have k0:dR L b=β [.J (ab c) p,.v (.bool live),k,d]:=by simp[dR,u]
   have k2:=D.cells;have e:=ο (μ θ h) r;rw[if_neg c2];refine aa ?_;have f:=μ (X:=.cells [.J (ab c) p,.v (.bool live),k,v]) θ (u0 rfl C:L.part (x.set b (.cells [.J (ab c) p,.v (.bool live),k,d])) y b=ε);have w:dJ _ (.node c live F (cO a o G (dep+1)).1) (.ptr b 0):=⟨b,p,k,v,rfl,ν _ _ _,i.mono (ο (p5 (ο (μ z C) r)) f),D.mono f⟩;have k3:=p7 a o G (dep+1);refine ak (xw a E P _ _ _ _ _ dep _ _ w (xu qn) ⟨s,l,u1 S _ m⟩ (by simp only[aA.size];omega) δ) ?_;rintro k4 k5⟨A,B⟩;refine aa ?_;exact⟨_,θ,ο (μ e h) A,_,rfl,B.mono (xv e rfl h)⟩
theorem u2{a:U}(c:u=f.set e j6)(d:f e=ε):((e1.part u a).set e X).sub ((e1.set e X).part f a):=λb h k=>by
 by_cases o:b=e;grind[ν,tY];simp_all [ξ,U.part]
def cb(b:Nat)(a:Ρ):aA->Nat->aA×Bool
 |.nil,_=>(.nil,ι)
 |.node c live d h,dep=>
  if c=a then(.node c ι d h,live)
  else if cB (dep%b) a c<0 then(.node c live (cb b a d (dep+1)).1 h,(cb b a d (dep+1)).2)
  else(.node c live d (cb b a h (dep+1)).1,(cb b a h (dep+1)).2)
theorem p8(a:Nat)(b:Ρ):∀(c:aA)(dep:Nat),(cb a b c dep).1.size=c.size
 |.nil,_=>rfl
 |.node k live d h,dep=>by
  have o:=p8 a b d (dep+1);have p:=p8 a b h (dep+1);grind[cb,aA.size]
def xA{a:Nat}{h:Ρ}:∀ {b:aA} (dep:Nat),b.Ok a->(cb a h b dep).1.Ok a
 |.nil,_,_=>trivial
 |.node k live o p,dep,⟨h1,c,d⟩=>by
  rw[cb];split
  .trivial
  .split
   .exact⟨h1,xA _ c,d⟩
   .exact⟨h1,c,xA _ d⟩
def xB(b:Nat)(V:0<b)(s:b<=8)(p:Ρ)(W:Own)(e:α p=b):∀(D:aA)(E:R)(dep:Nat)(y z:U),dJ z D E->z.sub y->D.Ok b->D.size+1+dep<=1000000->
  AC γ 110 [E,.J (ab p) W,.v (.int .i64 (dep:Int))] y λc t=>y.sub t/\∃a,c=.aF [a,.v (.bool (cb b p D dep).2)]/\dJ (t.part y z) (cb b p D dep).1 a
 |.nil,E,dep,y,z,f,r,u,w=>by
  obtain rfl:E=.v (.pointer ε):=f;refine aM hm Ai ?_;exact⟨_,θ,θ,_,rfl,rfl⟩
 |.node d live g i,E,dep,y,z,f,r,u,w=>by
  obtain⟨B,o,c,a,rfl,H,P,S⟩:=f;have T:=r _ _ H;have I:=P.mono r;have K:=S.mono r;obtain⟨Y,M,N⟩:=id u;have Z:=κ T;have k0:=bK (n:=p);have k2:=I.cells;have k3:=K.cells;refine aM hm Ai ?_;refine bp λh k=>?_;have O:=μ (X:=.cells [.J (ab d) o,.v (.bool live),c,a]) θ k;have k4:=κ (O _ _ T);have k5:B≠h:=by rintro rfl;rw[k]at T;cases T
  have C:=Μ r k;obtain⟨j,A⟩:∃j,j=y.set h (.cells [.J (ab d) o,.v (.bool live),c,a]):=⟨_,rfl⟩;simp only[aA.size]at w;refine aa ?_;refine ak (s4 d p _ _ _ δ) ?_;rintro _ _⟨rfl,rfl⟩;refine aa ?_;refine aH (λl=>?_) λl=>?_
  .subst l;rw[cb,if_pos rfl];have x:=μ (X:=.cells [.J (ab d) o,.v (.bool ι),c,a]) (p5 (e1:=j) r) C;exact⟨_,θ,μ θ k,_,rfl,h,o,c,a,rfl,(tY k).trans (ν _ _ _),P.mono (ο x (u2 A k)),S.mono (ο x (u2 A k))⟩
  rw[cb,if_neg l];have k6:(dep:Int).tmod (b:Int)=((dep%b:Nat)):=rfl;refine ak (xq p d _ _ (dep%b) _ (by rw[e];exact a4O _ V) δ δ) ?_;rintro _ _⟨rfl,rfl⟩;refine aa ?_;refine aH (λc2=>?_) λc2=>?_
  .refine ak (xB b V s p W e g c (dep+1) _ z P (μ r C) M δ) ?_;rintro _ F⟨x,v,rfl,G⟩;have m:=x _ _ (ν _ _ _);have Q:dR F h=β [.J (ab d) o,.v (.bool live),c,a]:=by simp[dR,m]
   have X:=G.cells;have n:=ο (μ θ k) x;rw[if_pos c2];refine aa ?_;have L:=μ (X:=.cells [.J (ab d) o,.v (.bool live),v,a]) θ (u0 rfl C:F.part (y.set h (.cells [.J (ab d) o,.v (.bool live),c,a])) z h=ε);have q:dJ _ (.node d live (cb b p g (dep+1)).1 i) (.ptr h 0):=⟨h,o,v,a,rfl,ν _ _ _,G.mono L,S.mono (ο (p5 (ο (μ r C) x)) L)⟩;exact⟨_,θ,μ n k,_,rfl,q.mono (u2 rfl k)⟩
  .refine ak (xB b V s p W e i a (dep+1) _ z S (μ r C) N δ) ?_;rintro _ F⟨x,v,rfl,G⟩;have m:=x _ _ (ν _ _ _);have Q:dR F h=β [.J (ab d) o,.v (.bool live),c,a]:=by simp[dR,m]
   have X:=G.cells;have n:=ο (μ θ k) x;rw[if_neg c2];refine aa ?_;have L:=μ (X:=.cells [.J (ab d) o,.v (.bool live),c,v]) θ (u0 rfl C:F.part (y.set h (.cells [.J (ab d) o,.v (.bool live),c,a])) z h=ε);have q:dJ _ (.node d live g (cb b p i (dep+1)).1) (.ptr h 0):=⟨h,o,c,v,rfl,ν _ _ _,P.mono (ο (p5 (ο (μ r C) x)) L),G.mono L⟩;exact⟨_,θ,μ n k,_,rfl,q.mono (u2 rfl k)⟩
def kM(a:Nat)(b:Ρ)(c:aA):aA×Bool:=
 if(cb a b c 0).2=η/\2*(cb a b c 0).1.all.length<(cb a b c 0).1.size then(fp a (cb a b c 0).1.all.length (cb a b c 0).1.all 0,η)else cb a b c 0
def Yl(a:Nat)(z:0<a)(C:a<=8)(b:Ρ)(D:Own)(L:α b=a)(c:aA)(o:R)(k:U)(P:dJ k c o)(E:c.Ok a)(u:c.size+1<=100000):
  AC γ 62 [o,.J (ab b) D] k λS F=>k.sub F/\∃d,S=.aF [d,.v (.bool (kM a b c).2)]/\dJ F (kM a b c).1 d:=by
 refine aM hm Kk ?_;refine ak (xB a z C b D L c o 0 k k P θ E δ) ?_;rintro _ T⟨p,d,rfl,V⟩;have r:=V.mono qn;have W:=xA (h:=b) 0 E;have cn:=p8 a b c 0;rw[kM];generalize cb a b c 0=e at*;obtain⟨h,f⟩:=e
 dsimp only at*
 have w:=kL h;cases f with
 |false=>refine aa ?_;rw[if_neg ρ];exact⟨_,θ,p,d,rfl,r⟩
 |true=>
  refine aa ?_;refine ak (s7 h d T r δ) ?_;rintro _ G⟨A,B,x,g,rfl⟩;have y:=r.mono x.sub;have H:=g.len;refine aa ?_;refine bd (qo h d G y δ) ?_;refine aH (λi=>?_) λi=>?_
  .rw[if_pos ⟨rfl,δ⟩];refine ak (s7 h d G y δ) ?_;rintro _ j⟨l,m,n,q,rfl⟩;refine aa ?_;refine ak (tZ a z C (α h.all) h.all l m 0 j q W.all δ δ δ) ?_;rintro v I⟨s,t⟩;refine aa ?_;exact⟨_,θ,ο p (ο x.sub (ο n.sub s)),v,rfl,t.mono qn⟩
  .rw[if_neg δ];exact⟨_,θ,ο p x.sub,d,rfl,y⟩
structure nT where
 prev:Τ
 num:Int
 ops:Τ
 DJ:Τ
 deriving DecidableEq
def nT.ok(a:nT):Prop:=α a.prev=32/\α a.ops=32/\α a.DJ=32
def Ym(a:Τ)(b:Int)(c d:Τ):Χ:=a.map ao++(.v (.int .i64 b)::(c.map ao++d.map ao))
def nT.C(a:nT):Χ:=Ym a.prev a.num a.ops a.DJ
def nT.V(a:nT):R:=.agg a.C
def nT.may(a:nT):Bool:=decide (0<=a.num)&&decide (a.num<=1099511627776)
theorem xC(a:Τ)(b:Nat)(c:b<α a):(⟨a.toArray⟩:ByteArray).get! b=a[b]:=by simp[ByteArray.get!,c]
theorem DK(a:Τ)(b:Nat)(c:b<α a)(d:a[b].toNat<128):Utf8.decode ⟨a.toArray⟩ b=(a[b].toNat,1):=by simp[Utf8.decode,xC a b c,d]
theorem decode_high(b:Τ)(a:Nat)(E:a<α b)(F:128<=b[a].toNat):
  128<=(Utf8.decode ⟨b.toArray⟩ a).1/\(Utf8.decode ⟨b.toArray⟩ a).1<=1114111/\1<=(Utf8.decode ⟨b.toArray⟩ a).2/\a+(Utf8.decode ⟨b.toArray⟩ a).2<=α b/\
   ∀c,(r:c<α b)->a<=c->c<a+(Utf8.decode ⟨b.toArray⟩ a).2->128<=b[c].toNat:=by
 have f:∀c,(r:c<α b)->a<=c->c<a+1->128<=b[c].toNat:=λc r G x=>by
  grind
 have h:∀k,(a+k<α b/\((⟨b.toArray⟩:ByteArray).get! (a+k)).toNat/64=2)->∃E:a+k<α b,128<=b[a+k].toNat:=λk g=>by
  grind[xC]
 have S:=nt b;have T:((⟨b.toArray⟩:ByteArray).get! (a+0)).toNat=b[a].toNat:=by rw[a4K,xC b a E]
 have i:b[a].toNat<256:=b[a].toNat_lt;unfold Utf8.decode;simp only[T,S];rw[if_neg δ];have v:∀z:Nat,Utf8.valid (z)=η->z<=1114111:=λz d=>by
  simp only[Utf8.valid,a4x,Ξ,decide_eq_true_eq]at d;omega
 split
 .rename_i d;simp only[Ξ,decide_eq_true_eq,beq_iff_eq]at d;obtain⟨L,o⟩:=d;obtain⟨P,y⟩:=h 1 o;split;grind;trivial
 .split
  .rename_i d;simp only[Ξ,decide_eq_true_eq,beq_iff_eq]at d;obtain⟨⟨L,o⟩,C⟩:=d;obtain⟨P,y⟩:=h 1 o;obtain⟨V,D⟩:=h 2 C;split
   .rename_i p;simp only[Ξ,decide_eq_true_eq]at p;refine⟨by simp only;omega,v _ p.2,ρ,Κ,λc r G x=>?_⟩;rcases(by simp only at x;omega:c=a\/c=a+1\/c=a+2)with rfl|rfl|rfl
    .exact F
    .exact y
    .exact D
   trivial
  .split
   .rename_i d;simp only[Ξ,decide_eq_true_eq,beq_iff_eq]at d;obtain⟨⟨⟨L,o⟩,C⟩,W⟩:=d;obtain⟨P,y⟩:=h 1 o;obtain⟨V,D⟩:=h 2 C;obtain⟨j,e⟩:=h 3 W;split
    .rename_i p;simp only[Ξ,decide_eq_true_eq]at p;refine⟨by simp only;omega,v _ p.2,ρ,Κ,λc r G x=>?_⟩;rcases(by simp only at x;omega:c=a\/c=a+1\/c=a+2\/c=a+3)with rfl|rfl|rfl|rfl
     .exact F
     .exact y
     .exact D
     .exact e
    trivial
   trivial
def fq(b:Nat)(a:Int):Bool:=(decide (97<=a)&&decide (a<=122))||(!decide (b=0)&&((decide (48<=a)&&decide (a<=57))||decide (a=95)))
def kN(b:ByteArray):Nat->Nat->Bool
 |0,_=>η
 |c+1,a=>if a<b.size then fq a (Utf8.decode b a).1&&kN b c (a+(Utf8.decode b a).2)else η
def jj(a:Τ):Bool:=kN ⟨a.toArray⟩ (α a+1) 0&&decide (1<=α a/\α a<=16)
theorem Yn(a:Τ)(b:Nat)(c:b<α a):1<=(Utf8.decode ⟨a.toArray⟩ b).2/\b+(Utf8.decode ⟨a.toArray⟩ b).2<=α a/\(Utf8.decode ⟨a.toArray⟩ b).1<=1114111:=by grind[DK,decode_high]
variable{B:Τ}
def s8:rp (bo B)=β (.v (.int .i64 (α B))):=vV
theorem DL(a:Τ)(l:α a<=1000000)(k:U):
  AC γ 97 [bo a] k λe o=>o=k/\e=.v (.bool (jj a)):=by
 refine aZ hm Le ρ ?_;have f:∀(L)(V),w1 (bo a) k (bX L V)=iq k (bT (λg=>L g ⟨a.toArray⟩) ()):=λL V=>B7;refine aI @f ?_;refine aO λr y=>?_;refine dS ?_;refine cz (λP o=>∃x b:Nat,b<=α a/\α a<x+b/\kN ⟨a.toArray⟩ x b=kN ⟨a.toArray⟩ (α a+1) 0/\k.sub o/\o r=β (.it ⟨a.toArray⟩ b)/\P 0=bo a/\P 7=.ptr r 0)
  (λ_ o=>match o r with|some (.it _ b)=>α a - b|_=>0) ⟨α a+1,0,δ,δ,rfl,μ θ y,ν _ _ _,?_⟩ ?_
 .exact pW
 .rintro P o⟨x,b,m,n,z,C,S,p,h⟩;refine aI @h ?_;by_cases D:b<α a
  .obtain⟨x,rfl⟩:∃i,x=i+1:=⟨x - 1,δ⟩;obtain⟨q,s,t⟩:=Yn a b D;have j:=nt a;rw[kN,if_pos (by rw[j];exact D)]at z;refine Uh S D ?_;generalize (Utf8.decode ⟨a.toArray⟩ b).1=c at*;generalize (Utf8.decode ⟨a.toArray⟩ b).2=E at*;have F (d:fq b c=ι):jj a=false:=by rw[d,a5b]at z;rw[jj,<-z];rfl
   have u (d:fq b c=η):(∃W G:Nat,G<=α a/\α a<W+G/\kN ⟨a.toArray⟩ W G=kN ⟨a.toArray⟩ (α a+1) 0/\k.sub (o.set r (.it ⟨a.toArray⟩ (b+E)))/\(o.set r (.it ⟨a.toArray⟩ (b+E))) r=β (.it ⟨a.toArray⟩ G)):=by rw[d,a4q]at z;grind[μ,ν]
   have T:((b:Int)=0)=(b=0):=ρ;have v:(match o r with|some (.it _ b)=>α a - b|_=>0)=α a - b:=by rw[S]
   have w:(match(o.set r (.it ⟨a.toArray⟩ (b+E))) r with|some (.it _ b)=>α a - b|_=>0)=α a -(b+E):=by rw[ν]
   have A:α a -(b+E)<α a - b:=δ;by_cases iD:(97)<=(c:Int)
   .by_cases a2:(c:Int)<=122
    .have d:fq b c=true:=by simp[fq,iD,a2]
     refine aI (aL @p @h @iD @a2) ?_;simp_all
    .by_cases a0:(b:Int)=0
     .have d:fq b c=false:=by simp[fq,a2];omega
      refine aI (ba @p @h @iD @a2 @a0) ?_;exact⟨k,μ C y,rfl,by rw[F d]⟩
     .have d:fq b c=false:=by simp[fq,a2];omega
      have a3:¬(c:Int)<48:=δ;have a4:(57:Int)<c:=δ;have a5:¬(c:Int)=95:=δ;refine aI (bs @p @h @iD @a2 @a0 @a3 @a4 @a5) ?_;exact⟨k,μ C y,rfl,by rw[F d]⟩
   .by_cases a0:(b:Int)=0
    .have d:fq b c=false:=by simp[fq,iD];omega
     refine aI (aL @p @h @iD @a0) ?_;exact⟨k,μ C y,rfl,by rw[F d]⟩
    .have T:¬b=0:=δ;by_cases a3:(c:Int)<48
     .have d:fq b c=false:=by simp[fq,iD];omega
      have a5:¬(c:Int)=95:=δ;refine aI (bx @p @h @iD @a0 @a3 @a5) ?_;exact⟨k,μ C y,rfl,by rw[F d]⟩
     .by_cases a4:(57:Int)<c
      .by_cases a5:(c:Int)=95
       .have d:fq b c=true:=by simp[fq,a5,T]
        refine aI (cd @p @h @iD @a0 @a3 @a4 @a5) ?_;simp_all
       .have d:fq b c=false:=by simp[fq,iD,a5];omega
        refine aI (cd @p @h @iD @a0 @a3 @a4 @a5) ?_;exact⟨k,μ C y,rfl,by rw[F d]⟩
      .have d:fq b c=true:=by simp[fq,iD,T];omega
       refine aI (bx @p @h @iD @a0 @a3 @a4) ?_;simp_all
  .have B:jj a=decide (1<=α a/\α a<=16):=by
    have:kN ⟨a.toArray⟩ x b=true:=by
     cases x with
     |zero=>rfl
     |succ x=>rw[kN,if_neg (by rw[nt];exact D)]
    rw[jj,<-z,this,a4q]
   refine Ui S D ?_;by_cases d1:(1:Int)<=α a
   .by_cases d2:(α a:Int)<=16
    .refine aI (ba @p @h @s8 @d1 @d2) ?_;grind
    .refine aI (ba @p @h @s8 @d1 @d2) ?_;grind
   .refine aI (aL @p @h @s8 @d1) ?_;grind
def bY(a:List Τ):Χ:=a.map bo
variable{j4:List Τ}
def kO:(bY j4).length=α j4:=by simp[bY]
def u3{a:List Τ}{b:Nat}(c:b<α a):(bY a)[b]?=β (bo (a.getD b [])):=by simp[bY,c]
def xD:eJ 1 (β (bo B))=β (.bR [bo B]):=rfl
theorem Yo(a:List Τ)(C:Own)(h:Τ)(T:α a<=1000000)(d:U):
  AC γ 207 [.J (bY a) C,bo h] d λF o=>o=d/\∃k:Int,F=.v (.int .i64 k)/\decide (0<=k)=decide (h∈a):=by
 refine aZ hm NZ ρ ?_;have G:=kO (j4:=a);refine aI @G ?_;refine cz (λc o=>∃b:Nat,b<=α a/\o=d/\h∉a.take b/\c 0=.J (bY a) C/\c 1=bo h/\c 7=.v (.int .i64 (α a))/\c 8=.v (.int .i64 b))
  (λc _=>match c 8 with|.v (.int _ k)=>(α a - k).toNat|_=>0) ⟨0,δ,rfl,ρ,?_⟩ ?_
 .exact pW
 .rintro c d⟨b,V,rfl,W,p,r,x,y⟩;by_cases z:(b:Int)<α a
  .have L:b<α a:=δ;have D:=u3 L;have P:a.getD b []∈a:=by simp_all
   have e:a.take (b+1)=a.take b++[a.getD b []]:=by simp_all
   generalize a.getD b []=S at*;by_cases E:h=S
   .refine aI (cW @p @r @x @y @z @fJ @D @xD @E) ?_;refine⟨d,θ,rfl,b,rfl,?_⟩;simp[P]
   .refine aI (cW @p @r @x @y @z @fJ @D @xD @E) ?_;grind
  .obtain rfl:b=α a:=δ;refine aI (ba @p @r @x @y @z) ?_;refine⟨d,θ,rfl,-1,rfl,?_⟩;simp_all
def Yp(b:List Τ)(d:Own)(c:Τ)(h:α b<=1000000)(a:U):
  AC γ 158 [.J (bY b) d,bo c] a λk o=>o=a/\k=.v (.bool (decide (c∈b))):=by
 refine aZ hm MJ ρ ?_;refine dS ?_;refine ak (Yo b d c h a) ?_;rintro _ a⟨rfl,r,rfl,p⟩;refine aI @p ?_
 all_goals exact⟨a,θ,rfl⟩
def lQ(a:List Τ)(b:Nat):Bool:=jj (a.getD b [])&&(!decide (a.getD b []=[105,100])&& !decide (a.getD b []∈a.take b))
def mN(a:List Τ):Bool:=(ψ (α a)).all (lQ a)&&decide (1<=α a/\α a<=7)
theorem xE(a:e<α j4)(b:lQ j4 e=ι):mN j4=false:=by grind[mN,Bool.and_eq_false_iff,List.all_eq_false]
theorem Yq(b:∀a,a<α j4->lQ j4 a=η):mN j4=decide (1<=α j4/\α j4<=7):=by
 have:(ψ (α j4)).all (lQ j4)=true:=by simp_all
 rw[mN,this,a4q]
theorem Yr(a:List Τ)(x:Own)(n:α a<=1000000)(V:∀W∈a,α W<=1000000)(c:U):
  AC γ 98 [.J (bY a) x] c λe E=>E=c/\e=.v (.bool (mN a)):=by
 refine aZ hm Lg ρ ?_;have y:=kO (j4:=a);refine aI @y ?_;refine cz (λr E=>∃b:Nat,b<=α a/\E=c/\(∀z,z<b->lQ a z=η)/\r 0=.J (bY a) x/\r 5=.J (bY a) x/\r 6=.v (.int .i64 (α a))/\r 7=.v (.int .i64 b))
  (λr _=>match r 7 with|.v (.int _ f)=>(α a - f).toNat|_=>0) ⟨0,δ,rfl,λz g=>by omega,?_⟩ ?_
 .exact pW
 .rintro r c⟨b,q,rfl,i,h,k,o,p⟩;by_cases C:(b:Int)<α a
  .have D:b<α a:=δ;have j:=u3 D;have l:a.getD b []∈a:=by simp_all
   have P:lQ a b=(jj (a.getD b [])&&(!decide (a.getD b []=[105,100])&& !decide (a.getD b []∈a.take b))):=rfl;generalize a.getD b []=d at*;refine aI (bs @h @k @o @p @C @fJ @j @xD) ?_;refine ak (DL d (V d l) c) ?_;rintro _ c⟨rfl,rfl⟩;cases S:jj d
   .refine aI (aL @h @k @o @p) ?_;exact⟨c,θ,rfl,by rw[xE D (by rw[P,S];rfl)]⟩
   .have s:(bY a).take b=bY (a.take b):=by simp[bY]
    by_cases F:d=[105,100]
    .have G:ir .eql (bo d) (.v (.string ⟨#[105,100]⟩))=β (.v (.bool η)):=by have:=pV (a:=d) (b:=[105,100]);rw[decide_eq_true F]at this;exact this
     refine aI (ba @h @k @o @p @G) ?_;exact⟨c,θ,rfl,by rw[xE D (by rw[P,S,decide_eq_true F];rfl)]⟩
    .have G:ir .eql (bo d) (.v (.string ⟨#[105,100]⟩))=β (.v (.bool ι)):=by have:=pV (a:=d) (b:=[105,100]);rw[decide_eq_false F]at this;exact this
     have m:dN 1 (.J (bY a) x) ε (β (.v (.int .i64 (b))))=β (.J (bY (a.take b)) .any):=by grind[ns,bc,bY,bo,τ,Int.toNat_natCast]
     refine aI (bx @h @k @o @p @G @m) ?_;refine ak (Yp (a.take b) _ d (by rw[a2X];omega) c) ?_;rintro _ c⟨rfl,rfl⟩;by_cases T:d∈a.take b
     .refine aI (ba @h @k @o @p @T) ?_;exact⟨c,θ,rfl,by rw[xE D (by simp_all)]⟩
     .refine aI (ba @h @k @o @p @T) ?_;refine⟨⟨b+1,δ,λz g=>?_,ρ⟩,δ⟩;grind
  .obtain rfl:b=α a:=δ;have L:=Yq i;by_cases d1:(1:Int)<=α a
   .by_cases d2:(α a:Int)<=7
    .refine aI (bs @h @k @o @p @C @y @d1 @d2) ?_;exact⟨c,θ,rfl,by rw[L];simp;omega⟩
    .refine aI (bs @h @k @o @p @C @y @d1 @d2) ?_;exact⟨c,θ,rfl,by rw[L];simp;omega⟩
   .refine aI (cd @h @k @o @p @C @y @d1) ?_;exact⟨c,θ,rfl,by rw[L];simp;omega⟩
structure de where
 kind:UInt8
 table:Τ
 aG:List Τ
 row:Ρ
structure df where
 d:de
 fN:Own
 dh:Own
def df.C(a:df):Χ:=[ao a.d.kind,bo a.d.table,.J (bY a.d.aG) a.fN,.J (ab a.d.row) a.dh]
def df.V(a:df):R:=.agg a.C
def df.Ys{a:df}:α a.C=4:=rfl
def df.m1{a:df}:aP ι 1 (a.C.drop 1)=bo a.d.table:=rfl
def df.m2{a:df}:aP ι 1 (a.C.drop 2)=.J (bY a.d.aG) a.fN:=rfl
def df.m3{a:df}:aP ι 1 (a.C.drop 3)=.J (ab a.d.row) a.dh:=rfl
def de.ok(a:de):Prop:=α a.table<=16/\α a.aG<=8/\(∀b∈a.aG,α b<=16)/\α a.row<=255
def ew(a:de):Bool:=jj a.table&&
  (if a.kind.toNat=1 then mN a.aG&&decide (α a.row=0)
   else if a.kind.toNat=2 then decide (α a.aG=0)&&decide (α a.row=0)
   else if a.kind.toNat=3\/a.kind.toNat=4 then decide (α a.aG=0)&&(decide (2<=α a.row)&&decide (α a.row<=8))
   else ι)
structure de.Fit(d:de):Prop where
 t:α d.table<=1000000
 c:α d.aG<=1000000
 cs:∀c∈d.aG,α c<=1000000
 r:α d.row<=1000000
def DM(a:df)(k:a.d.Fit)(b:U):
  AC γ 54 [a.V] b λo p=>p=b/\o=.v (.bool (ew a.d)):=by
 obtain⟨⟨r,d,c,h⟩,x,y⟩:=a;obtain⟨z,C,D,G⟩:=k;have L:=kO (j4:=c);have P:=bK (n:=h);show AC _ _ [.agg [ao r,bo d,.J (bY c) x,.J (ab h) y]] b _;refine aM hm K4 ?_;refine bp λS T=>?_;refine bd (DL d z _) ?_;refine aH (λE=>?_) λE=>?_
 .rw[ew];exact bf
 refine aH (λF=>?_) λF=>?_
 .refine bd (Yr c _ C D _) ?_
  repeat' first|refine aH (λ_=>?_) λ_=>?_|trivial
  all_goals (rw[ew];exact bf)
 repeat' first|refine aH (λ_=>?_) λ_=>?_|trivial
 all_goals (rw[ew];exact bf)
def mO(b:Nat)(a:UInt8):Bool:=(decide (97<=a.toNat)&&decide (a.toNat<=122))||(!decide (b=0)&&((decide (48<=a.toNat)&&decide (a.toNat<=57))||decide (a.toNat=95)))
def mP(a:Τ):Bool:=(ψ (α a)).all (λb=>mO b (a.getD b 0))&&(decide (0<α a)&&decide (α a<17))
def DN(a:Τ)(d:U)(y:α a<=1000000):
  AC γ 109 [bo a] d λp h=>h=d/\p=.v (.bool (mP a)):=by
 refine aM hm LC ?_;refine cQ [0] (λb:Nat=>[(3,.v (.int .i64 b))]) (λb h=>h=d/\b<=α a/\∀c<b,mO c (a.getD c 0)=η) (λb=>α a - b) 0 ?_ ?_
 .refine aa ?_;simp
 rintro b _⟨rfl,z,k⟩C;refine aa ?_;refine aH (λr=>?_) λr=>?_
 .have x:mO b (a.getD b 0)=ι->mP a=false:=λo=>by rw[mP,tg δ o];rfl
  repeat' first|refine aH (λ_=>?_) λ_=>?_|trivial
  all_goals first
   |omega
   |(rw[x (by rw[mO];exact pZ)])
   |exact⟨b+1,⟨δ,upto k (by rw[mO];exact pZ)⟩,rfl,δ⟩
 have D:mP a=(decide (0<α a)&&decide (α a<17)):=by rw[mP,th λc o=>k c δ];rfl
 repeat' first|refine aH (λ_=>?_) λ_=>?_|trivial
 all_goals exact bf
def kP(a:List Τ)(b:Nat):Bool:=mP (a.getD b [])&&(!decide (a.getD b []=[105,100])&&(ψ b).all λc=> !decide (a.getD c []=a.getD b []))
def xF(a:List Τ):Bool:=(ψ (α a)).all (kP a)
def nU(a:de):Bool:=mP a.table&&
  (if a.kind.toNat=1 then xF a.aG&&(decide (0<α a.aG)&&(decide (α a.aG<8)&&decide (α a.row=0)))
   else if a.kind.toNat=2 then decide (α a.aG+α a.row=0)
   else(decide (a.kind.toNat=3)||decide (a.kind.toNat=4))&&(decide (α a.aG=0)&&(decide (1<α a.row)&&decide (α a.row<9))))
theorem Yt(h:df)(E:h.d.Fit)(k:U):
  AC γ 59 [h.V] k λF G=>G=k/\F=.v (.bool (nU h.d)):=by
 obtain⟨⟨x,o,b,p⟩,L,P⟩:=h;obtain⟨y,S,z,T⟩:=E
 dsimp only at y S z T|-
 have l:=kO (j4:=b);have m:=bK (n:=p);show AC _ _ [.agg [.v (.int .u8 x.toNat),bo o,.J (bY b) L,.J (ab p) P]] k _;refine aM hm Ke ?_;refine bp λn q=>?_;refine bd (DN o _ y) ?_;refine aH (λV=>?_) λV=>?_
 .rw[nU];exact bf
 refine aH (λW=>?_) λW=>?_
 .have s:xF b=(ψ (α b)).all (kP b):=rfl;have t:=@u3 b;have u:∀r,ir .eql (bo r) (.v (.string ⟨#[105,100]⟩))=β (.v (.bool (decide (r=[105,100])))):=λr=>pV;have e:∀a,a<α b->(b.getD a []).length<=1000000:=λa f=>z _ (by simp_all);refine hj [1] (λa:Nat=>[(3,.v (.int .i64 a))]) (λa=>a<=α b/\∀d<a,kP b d=η) (λa=>α b - a) 0 ⟨δ,λd C=>by omega⟩ (aV) ?_;rintro a⟨f,g⟩i;refine aa ?_;refine aH (λc2=>?_) λc2=>?_
  .have D:kP b a=ι->nU ⟨x,o,b,p⟩=false:=λC=>by grind[nU,tg]
   refine bd (DN _ _ (e a δ)) ?_
   repeat' first|refine aH (λ_=>?_) λ_=>?_|trivial
   .exact aX (D (by rw[kP];simp_all)).symm
   .refine hj [1,3] (λc:Nat=>[(4,.v (.int .i64 c))]) (λc=>c<=a/\∀d<c,b.getD d []≠b.getD a []) (λc=>a - c) 0 ⟨δ,λd C=>by omega⟩ (aV) ?_;rintro c⟨v,j⟩i;refine aa ?_;refine aH (λaE=>?_) λaE=>?_
    .refine aH (λaL=>?_) λaL=>?_;grind[aX,kP,tg]
     .exact⟨c+1,⟨δ,upto j aL⟩,rfl,δ⟩
    .refine⟨a+1,⟨δ,upto g ?_⟩,rfl,δ⟩;grind[kP,th]
   .exact aX (D (by rw[kP];simp_all)).symm
  repeat' first|refine aH (λ_=>?_) λ_=>?_|trivial
  all_goals grind[nU,th,bf]
 repeat' first|refine aH (λ_=>?_) λ_=>?_|trivial
 all_goals (rw[nU];exact bf)
end Go.Proofs.YtcfpcblgmmeioaaGreat
namespace Go.bt
open Go
end Go.bt
namespace Go.Proofs.YtcfpcblgmmeioaaGreat
open Go Go.bt
structure xG where
 o:hK
 st:Int
 wJ:Bool
 a:hK
 b:hK
def xG.ok(a:xG):Prop:=a.o.ok/\a.a.ok/\a.b.ok
section
variable{F:xG}(h:F.ok)
include h
end
structure aU where
 name:Τ
 aG:List Τ
 cc:an
 cE:an
 deriving DecidableEq
instance:Inhabited aU:=⟨⟨[],[],aB,aB⟩⟩
structure ef(t:aU)(T:Χ):Prop where
 e:∃fN gg ec a mQ mR b,T=bo t.name::.J (bY t.aG) fN::(ae t.cc gg ec a++ae t.cE mQ mR b)
 k:α t.cc.sum=32/\t.cc.cH
 z:α t.cE.sum=32/\t.cE.cH
 c:α t.aG<=1000000
def fr(a:aU)(b:R):Prop:=∃T,b=.agg T/\ef a T
variable{g A c0:Χ}{h4:aU}
theorem ef.all(x:ef h4 g):α g=76/\g.take 76=g/\aP ι 1 g=bo h4.name/\∃o a b c d h k,aP ι 1 (g.drop 1)=.J (bY h4.aG) o/\(g.drop 2).take 37=ae h4.cc a b c/\(g.drop 39).take 37=ae h4.cE d h k:=by obtain⟨⟨o,a,b,c,d,h,k,rfl⟩,⟨y,_⟩,⟨z,_⟩,_⟩:=x;have p:=(aN (O:=a) (e4:=b) (h5:=c) y).len;have r:=(aN (O:=d) (e4:=h) (h5:=k) z).len;refine⟨by simp[p,r],a2U (by simp[p,r]),rfl,o,a,b,c,d,h,k,rfl,?_,?_⟩;simp_all;grind
end Go.Proofs.YtcfpcblgmmeioaaGreat
namespace Go.bt
open Go
end Go.bt
namespace Go.Proofs.YtcfpcblgmmeioaaGreat
open Go Go.bt
structure aU.mG(t:aU):Prop where
 n:α t.name<=16
 c:α t.aG<=7
 cs:∀c∈t.aG,α c<=16
 k:t.cc.mG
 z:t.cE.mG
structure kf where
 kind:UInt8
 qs:Int
 at_:Ρ
abbrev kf.V(a:kf)(b:Own):R:=.agg [.v (.int .u8 (a.kind.toNat:Int)),.v (.int .i64 a.qs),.J (ab a.at_) b]
def kf.ok(a:kf)(b:Nat):Bool:=
 decide (1<=b/\b<=8)&&(if a.kind=0 then decide (a.qs=0)&&decide (α a.at_=0)
  else if a.kind=1\/a.kind=2 then(decide (0<a.qs)||decide (a.qs=0)&&decide (a.kind=2))&&decide (a.qs<=(b:Int) - 1)&&decide (α a.at_=0)
  else decide (a.kind=3)&&decide (a.qs=0)&&decide (1<b)&&decide (α a.at_=b - 1))
theorem DO(a:kf)(h:Own)(c:Nat)(d:U)(r:c<=1000000000000)(x:α a.at_<=1000000000000):
  AC γ 117 [a.V h,.v (.int .i64 (c:Int))] d λk o=>o=d/\k=.v (.bool (a.ok c)):=by
 obtain⟨b,y,p⟩:=a
 dsimp only at*
 have z:=bK (n:=p);have C:=hP b 0 δ;have D:=hP b 1 δ;have E:=hP b 2 δ;have F:=hP b 3 δ;refine aM hm LN ?_;refine bp λG L=>?_
 repeat' first|refine aH (λ_=>?_) λ_=>?_|trivial
 all_goals grind[kf.ok,bf,aX]
theorem u4(b:kf)(h:Own)(c:Nat)(d:U)(r:c<=1000000000000)(x:α b.at_<=1000000000000):
  AC γ 265 [b.V h,.v (.int .i64 (c:Int))] d λk o=>o=d/\k=.v (.bool (b.ok c)):=by
 obtain⟨a,y,p⟩:=b
 dsimp only at*
 have z:=bK (n:=p);have C:=hP a 0 δ;have D:=hP a 1 δ;have E:=hP a 2 δ;have F:=hP a 3 δ;refine aM hm PC ?_;refine bp λG L=>?_
 repeat' first|refine aH (λ_=>?_) λ_=>?_|trivial
 all_goals try first
  |(rw[kf.ok];exact bf)
  |(refine aX ?_;simp only[kf.ok]at*;grind)
 rename_i P S T;obtain rfl:a=2:=a3Z.1 (by simp_all);refine aX ?_;rw[a5t];simp[kf.ok,-List.length_eq_zero_iff];omega
abbrev hv(a b:Nat):R:=.agg [.v (.int .u64 (a:Int)),.v (.int .u64 (b:Int))]
def Yu(a c b d:Nat)(h:U):AC γ 179 [hv a c,hv b d] h λk o=>o=h/\k=.v (.bool (decide (a<b\/a=b/\c<d))):=by
 refine aM hm Nq ?_;refine bp λp r=>?_;refine dk λx y z C=>?_
 repeat' first|refine aH (λ_=>?_) λ_=>?_|trivial
 all_goals exact bf
def qt(a c b d:Nat):Int:=if a=b/\c=d then 0 else if a<b\/a=b/\c<d then -1 else 1
theorem DP(a b c d:Nat)(h:U):AC γ 271 [hv a b,hv c d] h λk o=>o=h/\k=.v (.int .i64 (qt a b c d)):=by
 have p:∀a b:Nat,db [(2,bZ.int IntKind.u64)] [R.v (.int .u64 (a)),R.v (.int .u64 (b))]:=λa b=>by simp[db,bZ.sE]
 have r:peq (hv a b) (hv c d)=decide ((a:Int)=c/\(b:Int)=d):=by rw[a5t];simp[peq]
 refine aM hm PK ?_;refine bp λx y=>?_;refine dk λz C D E=>?_
 repeat' first|refine aH (λ_=>?_) λ_=>?_|trivial
 all_goals grind[qt]
abbrev gY(a:Ρ)(b:Nat):Int:=a.getD b 0
def iE(c d a:Ρ):Bool:=dD c d (α a)&&(ψ (α a)).all λb=>decide (gY c b<=gY a b)&&decide (gY a b<=gY d b)
def nV(a b c d:Ρ):Bool:=dD a b (α a)&&dD c d (α a)
def jk(b c d h:Ρ):Bool:=nV b c d h&&(ψ (α b)).all λa=>decide (gY b a<=gY h a)&&decide (gY d a<=gY c a)
def Yv(c:U)(k o:Nat)(d h b:Ρ)(p r x:Own)(a:Nat)(C:c.read k=β [.J (ab d) p,.J (ab h) r])(D:c.read o=β [.J (ab b) x])(E:a<α d)(F:a<α h)(G:a<α b):
  AC γ 309 [.v (.int .i64 (a:Int)),.ptr k 0,.ptr o 0] c λy z=>z=c/\y=.v (.bool (decide (gY d a<=gY b a)&&decide (gY b a<=gY h a))):=by
 have L:=@er d;have P:=@er h;have S:=@er b;refine aM hm Qu ?_
 repeat' first|refine aH (λ_=>?_) λ_=>?_|trivial
 all_goals exact bf
def Yw(h:U)(b c a:Ρ)(k o p:Own)(r:α a<=1000000000000):
  AC γ 273 [fh b c k o,.J (ab a) p] h λx y=>y=h/\x=.v (.bool (iE b c a)):=by
 have G:=bK (n:=a);refine aM hm PO ?_;refine bp λz L=>?_;refine dk λC P S D=>?_;refine bd (nJ _ b c _ _ _ r) ?_;refine aH (λd=>?_) λd=>?_
 .obtain⟨T,V,W,e⟩:=mH d;refine bd (wN (α a) _ _ _ _ _ r a7v λE F=>Yv _ z C b c a k o p E (by simp[U.read,ν,ξ,D]) (by simp[U.read,ν]) δ δ F) ?_;refine aX ?_;rw[iE,d,a4q]
 .refine aX ?_;rw[iE,d,a5b]
def Yx(b:U)(o p:Nat)(c d h k:Ρ)(r x y z:Own)(a:Nat)(E:b.read o=β [.J (ab c) r,.J (ab d) x])(F:b.read p=β [.J (ab h) y,.J (ab k) z])(G:a<α c)(L:a<α d)(P:a<α h)(S:a<α k):
  AC γ 325 [.v (.int .i64 (a:Int)),.ptr o 0,.ptr p 0] b λC D=>D=b/\C=.v (.bool (decide (gY c a<=gY k a)&&decide (gY h a<=gY d a))):=by
 have T:=@er c;have V:=@er d;have W:=@er h;have e:=@er k;refine aM hm QS ?_
 repeat' first|refine aH (λ_=>?_) λ_=>?_|trivial
 all_goals exact bf
def Yy(d:U)(b c a h:Ρ)(o p r x:Own)(k:α b<=1000000000000):
  AC γ 300 [fh b c o p,fh a h r x] d λy z=>z=d/\y=.v (.bool (nV b c a h)):=by
 have C:=bK (n:=b);refine aM hm Qm ?_;refine bp λD E=>?_;refine dk λF G L P=>?_;refine bd (nJ _ b c _ _ _ k) ?_;refine aH (λa=>?_) λa=>?_
 .refine bd (nJ _ _ _ _ _ _ k) ?_;refine aX ?_;rw[nV,a,a4q]
 .refine aX ?_;rw[nV,a,a5b]
variable{n b6:Ρ}
theorem xH{a b:Ρ}(c:nV n b6 a b=η):α b6=α n/\α a=α n/\α b=α n/\1<=α n/\α n<=8:=by rw[nV,Ξ]at c;obtain⟨d,h⟩:=c;have d:=mH d;grind[mH]
def DQ(k:U)(a b c d:Ρ)(o p r x:Own)(y:α a<=1000000000000):
  AC γ 302 [fh a b o p,fh c d r x] k λz C=>C=k/\z=.v (.bool (jk a b c d)):=by
 have P:=bK (n:=a);refine aM hm Qo ?_;refine bp λD S=>?_;refine dk λE T V F=>?_;refine bd (Yy _ a b c d _ _ _ _ y) ?_;refine aH (λh=>?_) λh=>?_
 .obtain⟨W,e,f,g⟩:=xH h;refine bd (wN (α a) _ _ _ _ _ y a7v λG L=>Yx _ D E a b c d o p r x G (by simp[U.read,ν,ξ,F]) (by simp[U.read,ν]) L δ δ δ) ?_;refine aX ?_;rw[jk,h,a4q]
 .refine aX ?_;rw[jk,h,a5b]
def fO(a b c d:Ρ):Ρ×Ρ:=if jk a b c d=η then(Α max a c,Α min b d)else([],[])
set_option maxHeartbeats 1000000 in
theorem Yz(C:U)(a c h d:Ρ)(m n q s:Own)(E:α a<=1000000000000):
  AC γ 268 [fh a c m n,fh h d q s] C λl6 o=>∃r t,l6=.aF [.agg [r,t],.v (.bool (jk a c h d))]/\oT C o (fO a c h d).1 (fO a c h d).2 r t:=by
 have k2:=bK (n:=a);have u:=@er a;have v:=@er c;have w:=@er h;have A:=@er d;refine aM hm PG ?_;refine bp λB a15=>?_;refine dk λH a16 I l7=>?_;refine hG λF l8 l9 n0 n1 n2=>?_;refine bd (DQ _ a c h d _ _ _ _ E) ?_;refine aH (λG=>?_) λG=>?_
 .rw[fO,if_neg (by simp[G])];exact⟨_,θ,_,_,rfl,C,aw.nil θ,aw.nil aV⟩
 .rw[fO,if_pos G];obtain⟨a18,a19,a27,a29,a30⟩:=xH (by rw[jk,Ξ]at G;exact G.1);generalize L:((C.set B _).set H _).set F _=P;have W:C.sub P:=by subst L;exact aV
  have K:P B=β (.cells [.J (ab a) m,.J (ab c) n]):=by subst L;exact aV
  have M:P H=β (.cells [.J (ab h) q,.J (ab d) s]):=by subst L;exact aV
  have aL:P F=β (.cells [.J [] .nil,.J [] .nil]):=by subst L;exact aV
  clear L;refine ak (tC P a c _ _ E δ) ?_;rintro _ n3⟨r,t,rfl,a34,n4,n5⟩;obtain⟨x,⟨I,_⟩|⟨e,n9,bm,k3,rfl,f,k4,a00,N,S,k5,a01⟩⟩:=n4
  .exfalso;grind
  obtain⟨D,⟨I,_⟩|⟨y,a02,O,k6,rfl,T,k7,a03,Q,V,k8,a04⟩⟩:=n5
  .exfalso;grind
  obtain rfl:n9=α a:=by rw[k2]at S;omega
  obtain rfl:a02=α a:=by rw[bK]at V;omega
  have k9:=D _ _ k4;simp only[a3M]at a00 a03 N Q k5 k8;obtain⟨g,rfl⟩:∃X,k3=ab a++X:=⟨k3.drop (α a),by rw[<-N,a3y]⟩;obtain⟨i,rfl⟩:∃X,k6=ab c++X:=⟨k6.drop (α a),by rw[<-Q,a3y]⟩;have k:∀ {l0:U}{b Y:Nat}{j:bl},l0 b=ε->l0 Y=β j->b≠Y/\Y≠b:=λE l=>⟨(by rintro rfl;rw[E]at l;cases l),(by rintro rfl;rw[E]at l;cases l)⟩;have jO:=D _ _ (x _ _ K);have l1:=D _ _ (x _ _ M);have l2:=D _ _ (x _ _ aL);obtain⟨a36,a05⟩:=k T k4;obtain⟨a38,a42⟩:=k f K;obtain⟨a43,a47⟩:=k f M;obtain⟨a06,a48⟩:=k f aL;obtain⟨a52,a56⟩:=k T (x _ _ K);obtain⟨a57,a61⟩:=k T (x _ _ M);obtain⟨a07,a62⟩:=k T (x _ _ aL);have a08:=Μ W f;have a09:=Μ (ο W x) T;have Z:=ο W (ο x D);clear N Q S V x D;have a63:∀a c k0 d:Nat,(R.aq a c k0 d).cells=[.aq a c k0 d]:=λ_ _ _ _=>rfl;refine aa ?_;refine aO λa10 z=>?_;obtain⟨a65,a68⟩:=k z jO;obtain⟨a69,a71⟩:=k z l1;obtain⟨a73,a74⟩:=k z l2;obtain⟨a81,a83⟩:=k z k9;obtain⟨Wa,a84⟩:=k z k7;have l3:=Μ Z z;refine aa ?_;refine cQ [2,3,4,6,17] (λb:Nat=>[(18,.v (.int .i64 (b)))]) (λb o=>b<=α a/\C.sub o/\o B=β (.cells [.J (ab a) m,.J (ab c) n])/\o H=β (.cells [.J (ab h) q,.J (ab d) s])/\o F=β (.cells [.J [] .nil,.J [] .nil])/\
      o a10=β (.cells [.aq e (α a) bm 1,.aq y (α a) O 1])/\o e=β (.cells (ab (mix max a h b)++g))/\o y=β (.cells (ab (mix min c d b)++i))) (λb=>α a - b) 0 ⟨⟨a3N _,μ (μ Z l3) l3,aV,aV,aV,aV,?_,?_⟩,aV⟩ ?_
  .have a11:mix max a h 0=a:=by rfl
   exact aV
  .have a11:mix min c d 0=c:=by rfl
   exact aV
  clear jO l1 l2 k9 k7 z k2;rintro b o⟨a86,a13,c2,aE,aL,cd,l4,l5⟩a88;have a89:=κ c2;have a90:=κ aE;have a92:=κ cd;have n3:=χ l4;have a94:=χ l5;clear I l7 l9 n0 n1 n2 Z W;by_cases a95:b<α a
  .have k0:(b)<(α a:Int):=δ;have a96:=u δ;have a97:=v (b:=b) δ;have a98:=w (b:=b) δ;have a99:=A (b:=b) δ;clear u v w A;have b00:=tE δ δ g (v:=max (a.getD b 0) (h.getD b 0)) rfl;have b01:=tE δ δ i (v:=min (c.getD b 0) (d.getD b 0)) rfl;have b02:b+1<=(ab (mix max a h b)++g).length:=by rw[a2V,bK,tD δ δ];omega
   have b03:b+1<=(ab (mix min c d b)++i).length:=by rw[a2V,bK,tD δ δ];omega
   generalize a.getD b 0=b04 at*;generalize h.getD b 0=b05 at*;generalize c.getD b 0=a3 at*;generalize d.getD b 0=a4 at*;generalize ab (mix max a h b)++g=b06 at*;generalize ab (mix min c d b)++i=b07 at*;refine aa ?_;grind
  .obtain rfl:b=α a:=δ;clear u v w A;have S:mix max a h (α a)=Α max a h:=by unfold mix;grind
   have V:mix min c d (α a)=Α min c d:=by unfold mix;grind
   have b08:(ab (mix max a h (α a))).length=α a:=by rw[S,bK,a5p];omega
   have b09:(ab (mix min c d (α a))).length=α a:=by rw[V,bK,a5p];omega
   have b10:=χ aL;have b11:¬(α a:Int)<α a:=δ;refine aa ?_;refine⟨_,θ,_,_,rfl,?_⟩;rw[<-S,<-V];refine⟨(o.set F (.cells [.aq e (α a) bm 1,.aq y (α a) O 1])).del y,⟨λr j p=>?_,.inr ⟨e,α a,bm,_,rfl,a08,by rw[U.eg _ a05,ξ _ _ a06];exact l4,?_,?_,?_,k5,a01⟩⟩,⟨λr j p=>?_,.inr ⟨y,α a,O,_,rfl,U.hC _ _,by rw[ξ _ _ a07];exact l5,?_,?_,?_,k8,a04⟩⟩⟩
   .have k:r≠y:=by rintro rfl;rw[a09]at p;cases p
    have a14:r≠F:=by rintro rfl;rw[l8]at p;cases p
    rw[U.eg _ k,ξ _ _ a14];exact a13 r j p
   .rw[a2V,bK]at*;omega
   simp_all
   .omega
   .have k:r≠y:=by rintro rfl;rw[U.hC]at p;cases p
    rw[U.eg _ k]at p;exact p
   .rw[a2V,bK]at*;omega
   simp_all
   .omega
def DR(h:U)(a b c d:Ρ)(k o p r:Own)(z:α a<=1000000000000):
  AC γ 268 [fh a b k o,fh c d p r] h λx y=>h.sub y/\x=.aF [fh (fO a b c d).1 (fO a b c d).2 .any .any,.v (.bool (jk a b c d))]:=
 (Yz h a b c d k o p r z).view λx y C=>by
  obtain⟨D,W,rfl,e,E,F⟩:=C;obtain⟨f,G,L⟩:=rM F;have P:=E.mono G;obtain⟨S,T,V⟩:=rM P;exact⟨_,S,View.aF (a:=[]) ((View.agg (a:=[D]) rfl L).trans (View.agg (a:=[]) rfl V)),T,rfl⟩
abbrev fs:kf:=⟨0,0,[]⟩
def qu(a:Nat):fs.ok a=decide (1<=a/\a<=8):=by simp[kf.ok]
def mS(a:Int):Nat:=(IntKind.u64.wrap ((π 64 (IntKind.u64.wrap a)^^^π 64 9223372036854775808).toNat:Int)).toNat
def YA(a:Int):br .xor (.int .u64 (IntKind.u64.wrap a)) (.int .u64 9223372036854775808)=β (.int .u64 (mS a:Int)):=by have b:br .xor (.int .u64 (IntKind.u64.wrap a)) (.int .u64 9223372036854775808)=β (.int .u64 (IntKind.u64.wrap ((π 64 (IntKind.u64.wrap a)^^^π 64 9223372036854775808).toNat))):=rfl;rw[b,mS,a4s];exact Int.emod_nonneg _ Λ
def DS(a:Int)(b:U):AC γ 303 [.v (.int .i64 a)] b λc d=>d=b/\c=hv 0 (mS a):=by have h:=YA a;refine aM hm Qq ?_;refine bp λk o=>?_;rfl
def lR(b:0<α n)(a:Own):cJ 1 (.J (ab n) a) (.v (.int .i64 0))=β (.bR [.v (.int .i64 (n.getD 0 0))]):=by have:=pY (e:=1) (g:=ab n) (O:=a) (e0:=.i64) (i:=0);rw[er b]at this;exact this
def xI(a:Ρ):R:=if 1<=α a/\α a<=8 then .aF [hv 0 (mS (a.getD 0 0)),.v (.int .i64 0)]else .aF [hv 0 0,.v (.int .i64 1)]
def xJ(c d:Own)(a:Ρ)(b:U)(k:α a<=1000000000000):AC γ 331 [fs.V c,.J (ab a) d] b λo p=>p=b/\o=xI a:=by
 have x:=bK (n:=a);have y:=@er a;have h:=λb=>u4 fs c (α a) b k ρ;simp only[qu]at h;refine aM hm QU ?_;refine bp λz C=>?_;refine dk λD E F G=>?_;refine bd (h _) ?_;rw[xI];refine aH (λr=>?_) λr=>?_
 .rfl
 .have L:=lR (n:=a) δ d;refine aa ?_;refine bd (DS _ _) ?_;rfl
def xK(a b:Nat)(h:Int)(c d:Nat)(k:Int):Bool:=if qt a b c d=0 then decide (h<k)else decide (qt a b c d<0)
theorem DT(a b c d:Nat)(h k:Int)(o:U):AC γ 332 [hv a b,.v (.int .i64 h),hv c d,.v (.int .i64 k)] o λp r=>r=o/\p=.v (.bool (xK a b h c d k)):=by
 refine aM hm QW ?_;refine bp λx y=>?_;refine dk λz C D E=>?_;refine bd (DP _ _ _ _ _) ?_
 repeat' first|refine aH (λ_=>?_) λ_=>?_|trivial
 all_goals simp_all [xK,if_pos,if_neg]
def nW(a:Ρ):Prop:=1<=α a/\α a<=8
def xL(a:nW n):xI n=.aF [hv 0 (mS (n.getD 0 0)),.v (.int .i64 0)]:=if_pos a
def s9(a b:Ρ):Bool:=xK 0 (mS (a.getD 0 0)) (a.getD 0 0) 0 (mS (b.getD 0 0)) (b.getD 0 0)
def DU(o c d:Own)(a b:Ρ)(h:U)(k:nW a)(y:α b=α a):AC γ 312 [fs.V o,.J (ab a) c,.J (ab b) d] h λp r=>r=h/\p=.v (.bool (s9 a b)):=by have z:=bK (n:=a);have C:=bK (n:=b);have D:=@er a;have E:=@er b;have x:=id k;obtain⟨F,G⟩:=k;have bm:=xL x;have L:=xL (n:=b) ⟨δ,δ⟩;refine aM hm Qy ?_;refine bp λP S=>?_;refine bd (xJ _ _ a _ δ) ?_;have T:=lR (n:=a) δ c;have V:=lR (n:=b) δ d;refine dk λW e f g=>?_;refine bd (xJ _ _ b _ δ) ?_;refine hG λi j _ _ _ _=>?_;refine bd (DT _ _ _ _ _ _ _) ?_;rfl
abbrev YB:=s9
def sa(a b:Ρ):Int:=if s9 a b=η then -1 else if s9 b a=η then 1 else 0
theorem YC(d r x:Own)(a b:Ρ)(h:U)(p:Nat)(C:h.read p=β [.v (.int .u8 0),.v (.int .i64 0),.J (ab []) d])(k:nW a)(c:α b=α a):AC γ 311 [.J (ab a) r,.J (ab b) x,.ptr p 0] h λy z=>z=h/\y=.v (.int .i64 (sa a b)):=by
 refine aM hm Qw ?_;refine bd (DU d _ _ a b _ k c) ?_;refine aH (λo=>?_) λo=>?_
 .rw[sa,if_pos o]
 .refine bd (DU d _ _ b a _ ⟨by rw[c];exact k.1,by rw[c];exact k.2⟩ c.symm) ?_;refine aH (λc2=>?_) λc2=>?_
  .rw[sa,if_neg (by simp[o]),if_pos c2]
  simp_all [sa]
theorem DV(h c k:Own)(a b:Ρ)(d:U)(o:dD a b (α a)=η):AC γ 269 [fs.V h,fh a b c k] d λp r=>r=d/\p=.aF [hv 0 (mS (a.getD 0 0)),.v (.int .i64 (a.getD 0 0)),.v (.int .i64 0)]:=by
 obtain⟨x,y,z,C⟩:=mH o;have D:=bK (n:=a);have E:fs.ok (α a)=true:=by rw[qu];simp_all
 have F:=lR (n:=a) δ c;refine aM hm PI ?_;refine bp λG L=>?_;refine dk λP S T V=>?_;refine hG λW e f g a3 a4=>?_;refine bd (nJ _ a b _ _ _ δ) ?_;refine bd (u4 fs _ _ _ δ ρ) ?_;refine bd (DS _ _) ?_;refine wi λi j l m n q s t=>?_;rfl
def YD(d p r h:Own)(a c b:Ρ)(k:U)(o:dD a c (α a)=η)(z:α b=α a):AC γ 308 [fs.V d,fh a c p r,.J (ab b) h] k λx y=>y=k/\x=.v (.bool (YB b a)):=by obtain⟨C,D,E,F⟩:=mH o;have G:=bK (n:=a);have L:=bK (n:=b);have P:=lR (n:=b) δ h;have bm:=xL (n:=b) ⟨δ,δ⟩;refine aM hm Qs ?_;refine bp λS T=>?_;refine dk λV W e f=>?_;refine bd (DV d _ _ a c _ o) ?_;refine hG λg i j l a3 a4=>?_;refine bd (xJ _ _ b _ δ) ?_;refine wi λm n q s t u v w=>?_;refine bd (DT _ _ _ _ _ _ _) ?_;rfl
def YE(a:Nat)(k:a<=8)(b:U):AC γ 264 [.v (.int .u64 1),.v (.int .u64 (a:Int))] b λc d=>d=b/\c=.aF [.v (.int .u64 0),.v (.int .u64 (a:Int))]:=by
 have h:AC γ 299 [.v (.int .u64 1),.v (.int .u64 (a:Int))] b λc d=>d=b/\c=.aF [.v (.int .u64 0),.v (.int .u64 (a:Int))]:=by
  have o:br .and (.int .u64 1) (.int .u64 4294967295)=β (.int .u64 1):=by rfl
  have p:br .shr (.int .u64 1) (.int .u64 32)=β (.int .u64 0):=by rfl
  obtain⟨r,x⟩:br .and (.int .u64 (a)) (.int .u64 4294967295)=β (.int .u64 (a))/\br .shr (.int .u64 (a)) (.int .u64 32)=β (.int .u64 0):=by
   obtain rfl|rfl|rfl|rfl|rfl|rfl|rfl|rfl|rfl:a=0\/a=1\/a=2\/a=3\/a=4\/a=5\/a=6\/a=7\/a=8:=δ
   all_goals exact⟨Ο,Ο⟩
  have y:br .shr (.int .u64 0) (.int .u64 32)=β (.int .u64 0):=by rfl
  have z:br .and (.int .u64 0) (.int .u64 4294967295)=β (.int .u64 0):=by rfl
  have C:(1)*(a:Int)=a:=Int.one_mul _;have D:(0)*(a:Int)=0:=Int.zero_mul _;exact aM hm Qk trivial
 refine aM hm Pz ?_;exact bd h trivial
variable{q b7:R}
def YF:∀ {a:Nat},(ζ a [q]).flatten=ζ a q
 |0=>rfl
 |a+1=>by simp
theorem DW(b:Nat)(z:1<=b)(C:b<=8)(d:Int)(r:Own)(h:U):AC γ 212 [.J [.v (.int .i64 d)] r,.v (.int .i64 (b:Int))] h λD p=>aw h p 1 (ab (ζ b d)) D:=by
 refine aM hm O5 ?_;refine q2 ?_;refine bd (YE b C h) ?_;refine q2 ?_;refine TW δ δ λc x=>?_;rw[YF];have T:lr 1 (.aq c b b 1) (.J [.v (.int .i64 d)] r) (h.set c (.cells (ζ b (.v (.int .i64 0)))))=β (.v (.int .i64 1),h.set c (.cells (ζ 1 (.v (.int .i64 d))++ζ (b - 1) (.v (.int .i64 0))))):=by obtain⟨o,rfl⟩:∃o,b=o+1:=⟨b - 1,δ⟩;simp[lr,c8,ν,σ,flat,τ,putAt]
 refine aa ?_;refine cQ [7] (λa:Nat=>[(8,.v (.int .i64 (a)))]) (λa p=>1<=a/\a<=b/\p=h.set c (.cells (ζ a (.v (.int .i64 d))++ζ (b - a) (.v (.int .i64 0))))) (λa=>b - a) 1 ⟨⟨a3w _,z,rfl⟩,aV⟩ ?_;rintro a _⟨V,E,rfl⟩W;refine aa ?_;refine aH (λF=>?_) λF=>?_
 .have e:c9 1 (.aq c b b 1) (β (.v (.int .i64 (a)))) ε ε=β (.bB c a (b - a) (b - a) 1):=by simp_all [fK]
  have f:c9 1 (.aq c b b 1) ε (β (.v (.int .i64 (a)))) ε=β (.aq c a b 1):=hi E;generalize y:ζ a (R.v (.int .i64 d))++ζ (b - a) (.v (.int .i64 0))=k;have G:α k=b:=by subst y;simp;omega
  have L:c8 (h.set c (.cells k)) 1 (.aq c a b 1)=β (a,ζ a (.v (.int .i64 d))):=by have P:(h.set c (.cells k)).read c=β k:=κ (ν _ _ _);simp only[c8,P,G,a3M];grind
  have S:=gP (M:=a) (i:=b - a) (h9:=b - a) L (ν h c (.cells k)) δ;have o:putAt k a ((ζ a (R.v (.int .i64 d))).take ((b - a)*1))=ζ (a+min a (b - a)) (.v (.int .i64 d))++ζ (b -(a+min a (b - a))) (.v (.int .i64 0)):=by subst y;rw[a3M,List.take_replicate,putAt,a5h ρ,a4E,Nat.min_comm (b - a) a,<-List.replicate_append_replicate,a4z,a4E,a3D ρ,a3l,List.drop_replicate];congr 2;omega
  rw[o,σ]at S;refine aa ?_;exact⟨a+min a (b - a),⟨δ,δ,rfl⟩,by congr 2,δ⟩
 .obtain rfl:a=b:=δ;refine⟨_,θ,μ θ x,.inr ⟨c,a,a,_,rfl,x,ν _ _ _,?_,?_,?_,a3w _,by unfold maxLen;omega⟩⟩
  .simp
  .simp[ab]
  .simp[ab]
def hY:Int:= -9223372036854775808
def iF:Int:=9223372036854775807
def YG(a:Nat)(p:1<=a)(r:a<=8)(h:U):AC γ 164 [.v (.int .i64 (a:Int))] h λC D=>∃b c,C=.agg [b,c]/\oT h D (ζ a hY) (ζ a iF) b c:=by have L:¬(a:Int)<1:=δ;have P:¬8<(a:Int):=δ;refine aM hm MU ?_;refine bp λx k=>?_;have S:=k;refine VG λT E V y=>?_;refine Bq (DW a p r hY _ _) λb W o=>?_;have z:=o.1 _ _ ((ξ _ _ y).trans (ν h x (.cells [.J [] .nil,.J [] .nil])));refine mB λe F=>?_;refine Bq (DW a p r iF _ _) λc f d=>?_;have d:=d.base (μ θ F);have c2:=χ (d.1 _ _ z);have g:=fi o;have i:=fi d;refine aa ?_;have G:=(ja (X:=.cells [b,c]) o ((ξ _ _ y).trans (ν h x (.cells [.J [] .nil,.J [] .nil])))).base (μ (μ (μ θ k) E) k);exact⟨_,θ,b,c,rfl,_,G,ja d z⟩
def p9(a:Nat)(b:Bool):ar:=⟨38,5,
(.seq
(.plain (bC 10 (.eA (lz 0))::[]))
(.block 0
(.loop
(.seq
(.seq
(.plain (av 11 10::av 12 3::cw 13 .lss 11 12::[]))
(.cond (aD 13)
.skip
(.exit 0)))
(.seq
(.block 1
(.draw (av 16 0::av 17 1::av 18 10::cw 19 .add 17 18::av 20 0::av 21 2::av 22 10::cw 23 .add 21 22::av 24 0::av 25 2::av 26 10::cw 27 .add 25 26::bC 28 (.dB a (aD 24) (aD 27))::bC 29 (.load b a (aD 28))::av 30 0::av 31 1::av 32 10::cw 33 .add 31 32::bC 34 (.dB a (aD 30) (aD 33))::bC 35 (.load b a (aD 34))::bC 36 (.dB a (aD 16) (aD 19))::on (.store a (aD 36) (aD 29))::bC 37 (.dB a (aD 20) (aD 23))::on (.store a (aD 37) (aD 35))::[])
(aY 0::aY 1::aY 2::aY 3::aY 4::aY 5::aY 6::aY 7::aY 8::aY 9::aY 10::aY 11::aY 12::aY 13::aY 14::aY 15::aY 16::aY 17::aY 18::aY 19::aY 20::aY 21::aY 22::aY 23::[])))
(.plain (av 14 10::eS 15 .add 14 1::av 10 15::[]))))))),[]⟩
def YH:di γ 0 341=β (p9 41 η):=Ο
def YI:di γ 0 348=β (p9 1 ι):=Ο
def qv(b:Nat)(c:Bool)(a:FuncId):ar:=⟨58,5,
(.seq
(.plain (av 12 2::av 13 1::cw 14 .sub 12 13::av 10 14::[]))
(.seq
(.plain (av 15 3::av 16 2::cw 17 .sub 15 16::av 11 17::[]))
(.seq
(.block 0
(.loop
(.seq
(.seq
(.plain (av 18 10::av 19 11::cw 20 .neq 18 19::[]))
(.cond (aD 20)
.skip
(.exit 0)))
(.block 1
(.seq
(.plain (av 21 10::av 22 11::cw 23 .gtr 21 22::[]))
(.cond (aD 23)
(.seq
(.plain (av 24 0::av 25 2::av 26 10::cw 27 .sub 25 26::av 28 2::av 29 11::av 30 4::bC 31 (.fv a [(aD 24),(aD 27),(aD 28),(aD 29),(aD 30)])::[]))
(.plain (av 32 10::av 33 11::cw 34 .sub 32 33::av 10 34::[])))
(.seq
(.plain (av 35 0::av 36 2::av 37 10::cw 38 .sub 36 37::av 39 2::av 40 11::cw 41 .add 39 40::av 42 10::cw 43 .sub 41 42::av 44 10::av 45 4::bC 46 (.fv a [(aD 35),(aD 38),(aD 43),(aD 44),(aD 45)])::[]))
(.plain (av 47 11::av 48 10::cw 49 .sub 47 48::av 11 49::[])))))))))
(.plain (av 50 0::av 51 2::av 52 10::cw 53 .sub 51 52::av 54 2::av 55 10::av 56 4::bC 57 (.fv a [(aD 50),(aD 53),(aD 54),(aD 55),(aD 56)])::[]))))),[]⟩
def YJ:di γ 0 330=β (qv 41 η 341):=Ο
def YK:di γ 0 346=β (qv 1 ι 348):=Ο
def sb(a:Nat)(b:Bool):ar:=⟨53,4,
(.seq
(.plain (av 10 1::eS 11 .add 10 1::av 8 11::[]))
(.block 0
(.loop
(.seq
(.seq
(.plain (av 12 8::av 13 2::cw 14 .lss 12 13::[]))
(.cond (aD 14)
.skip
(.exit 0)))
(.seq
(.block 1
(.seq
(.plain (av 17 8::av 9 17::[]))
(.block 2
(.loop
(.seq
(.seq
(.draw (av 18 9::av 19 1::cw 20 .gtr 18 19::av 21 20::eB 21 η 22 (.eA (aD 3))::eB 21 η 23 (.eA (aD 0))::eB 21 η 24 (.eA (aD 9))::eB 21 η 25 (.dB a (aD 23) (aD 24))::eB 21 η 26 (.load b a (aD 25))::eB 21 η 27 (.eA (aD 0))::eB 21 η 28 (.eA (aD 9))::eB 21 η 29 (.bin .sub (aD 28) (lz 1))::eB 21 η 30 (.dB a (aD 27) (aD 29))::eB 21 η 31 (.load b a (aD 30))::eB 21 η 32 (.ic (aD 22) [(aD 26),(aD 31)])::eB 21 η 33 (.bin .lss (aD 32) (lz 0))::bC 34 (.pick (aD 21) (aD 33) pO)::[])
(aY 0::aY 1::aY 2::aY 3::aY 4::aY 5::aY 6::aY 7::aY 8::aY 9::aY 10::aY 11::aY 12::aY 13::aY 14::aY 15::aY 16::[]))
(.cond (aD 34)
.skip
(.exit 2)))
(.seq
(.block 3
(.draw (av 37 0::av 38 9::av 39 0::av 40 9::eS 41 .sub 40 1::av 42 0::av 43 9::eS 44 .sub 43 1::bC 45 (.dB a (aD 42) (aD 44))::bC 46 (.load b a (aD 45))::av 47 0::av 48 9::bC 49 (.dB a (aD 47) (aD 48))::bC 50 (.load b a (aD 49))::bC 51 (.dB a (aD 37) (aD 38))::on (.store a (aD 51) (aD 46))::bC 52 (.dB a (aD 39) (aD 41))::on (.store a (aD 52) (aD 50))::[])
(aY 0::aY 1::aY 2::aY 3::aY 4::aY 5::aY 6::aY 7::aY 8::aY 9::aY 10::aY 11::aY 12::aY 13::aY 14::aY 15::aY 16::aY 17::[])))
(.plain (av 35 9::eS 36 .sub 35 1::av 9 36::[]))))))))
(.plain (av 15 8::eS 16 .add 15 1::av 8 16::[]))))))),[]⟩
def YL:di γ 0 306=β (sb 41 η):=Ο
def YM:di γ 0 143=β (sb 1 ι):=Ο
def sc(a:Nat)(b:Bool)(c d:FuncId):ar:=⟨220,5,
(.seq
(.seq
(.plain (av 25 2::av 26 1::cw 27 .sub 25 26::eS 28 .eql 27 1::[]))
(.cond (aD 28)
(.seq
(.plain (av 29 2::av 10 29::[]))
(.seq
(.plain (av 30 3::av 11 30::[]))
(.seq
(.block 0
(.loop
(.seq
(.seq
(.plain (av 31 10::av 32 11::cw 33 .lss 31 32::[]))
(.cond (aD 33)
.skip
(.exit 0)))
(.block 1
(.seq
(.plain (av 34 10::av 35 11::cw 36 .add 34 35::bC 37 (.ib .u64 (aD 36))::bC 38 (.bin .shr (aD 37) (.const (.int .u64 1)))::bC 39 (.ib .i64 (aD 38))::av 12 39::[]))
(.seq
(.draw (av 40 4::av 41 0::av 42 12::bC 43 (.dB a (aD 41) (aD 42))::bC 44 (.load b a (aD 43))::av 45 0::av 46 1::bC 47 (.dB a (aD 45) (aD 46))::bC 48 (.load b a (aD 47))::bC 49 (.ic (aD 40) [(aD 44),(aD 48)])::eS 50 .lss 49 0::[])
(aY 0::aY 1::aY 2::aY 3::aY 4::aY 5::aY 6::aY 7::aY 8::aY 9::aY 10::[]))
(.cond (aD 50)
(.plain (av 51 12::eS 52 .add 51 1::av 10 52::[]))
(.plain (av 53 12::av 11 53::[])))))))))
(.seq
(.seq
(.plain (av 54 1::av 13 54::[]))
(.block 2
(.loop
(.seq
(.seq
(.plain (av 55 13::av 56 10::eS 57 .sub 56 1::cw 58 .lss 55 57::[]))
(.cond (aD 58)
.skip
(.exit 2)))
(.seq
(.block 3
(.draw (av 61 0::av 62 13::av 63 0::av 64 13::eS 65 .add 64 1::av 66 0::av 67 13::eS 68 .add 67 1::bC 69 (.dB a (aD 66) (aD 68))::bC 70 (.load b a (aD 69))::av 71 0::av 72 13::bC 73 (.dB a (aD 71) (aD 72))::bC 74 (.load b a (aD 73))::bC 75 (.dB a (aD 61) (aD 62))::on (.store a (aD 75) (aD 70))::bC 76 (.dB a (aD 63) (aD 65))::on (.store a (aD 76) (aD 74))::[])
(aY 0::aY 1::aY 2::aY 3::aY 4::aY 5::aY 6::aY 7::aY 8::aY 9::aY 10::aY 11::aY 12::aY 13::aY 14::aY 15::aY 16::aY 17::[])))
(.plain (av 59 13::eS 60 .add 59 1::av 13 60::[])))))))
.ret))))
.skip))
(.seq
(.seq
(.plain (av 77 3::av 78 2::cw 79 .sub 77 78::eS 80 .eql 79 1::[]))
(.cond (aD 80)
(.seq
(.plain (av 81 1::av 14 81::[]))
(.seq
(.plain (av 82 2::av 15 82::[]))
(.seq
(.block 4
(.loop
(.seq
(.seq
(.plain (av 83 14::av 84 15::cw 85 .lss 83 84::[]))
(.cond (aD 85)
.skip
(.exit 4)))
(.block 5
(.seq
(.plain (av 86 14::av 87 15::cw 88 .add 86 87::bC 89 (.ib .u64 (aD 88))::bC 90 (.bin .shr (aD 89) (.const (.int .u64 1)))::bC 91 (.ib .i64 (aD 90))::av 16 91::[]))
(.seq
(.draw (av 92 4::av 93 0::av 94 2::bC 95 (.dB a (aD 93) (aD 94))::bC 96 (.load b a (aD 95))::av 97 0::av 98 16::bC 99 (.dB a (aD 97) (aD 98))::bC 100 (.load b a (aD 99))::bC 101 (.ic (aD 92) [(aD 96),(aD 100)])::eS 102 .lss 101 0::bC 103 (.un .not (aD 102))::[])
(aY 0::aY 1::aY 2::aY 3::aY 4::aY 5::aY 6::aY 7::aY 8::aY 9::aY 10::aY 11::[]))
(.cond (aD 103)
(.plain (av 104 16::eS 105 .add 104 1::av 14 105::[]))
(.plain (av 106 16::av 15 106::[])))))))))
(.seq
(.seq
(.plain (av 107 2::av 17 107::[]))
(.block 6
(.loop
(.seq
(.seq
(.plain (av 108 17::av 109 14::cw 110 .gtr 108 109::[]))
(.cond (aD 110)
.skip
(.exit 6)))
(.seq
(.block 7
(.draw (av 113 0::av 114 17::av 115 0::av 116 17::eS 117 .sub 116 1::av 118 0::av 119 17::eS 120 .sub 119 1::bC 121 (.dB a (aD 118) (aD 120))::bC 122 (.load b a (aD 121))::av 123 0::av 124 17::bC 125 (.dB a (aD 123) (aD 124))::bC 126 (.load b a (aD 125))::bC 127 (.dB a (aD 113) (aD 114))::on (.store a (aD 127) (aD 122))::bC 128 (.dB a (aD 115) (aD 117))::on (.store a (aD 128) (aD 126))::[])
(aY 0::aY 1::aY 2::aY 3::aY 4::aY 5::aY 6::aY 7::aY 8::aY 9::aY 10::aY 11::aY 12::aY 13::aY 14::aY 15::aY 16::aY 17::[])))
(.plain (av 111 17::eS 112 .sub 111 1::av 17 112::[])))))))
.ret))))
.skip))
(.seq
(.plain (av 129 1::av 130 3::cw 131 .add 129 130::bC 132 (.ib .u64 (aD 131))::bC 133 (.bin .shr (aD 132) (.const (.int .u64 1)))::bC 134 (.ib .i64 (aD 133))::av 18 134::[]))
(.seq
(.plain (av 135 18::av 136 2::cw 137 .add 135 136::av 19 137::[]))
(.seq
(.plain (bC 20 (.eA (lz 0))::bC 21 (.eA (lz 0))::[]))
(.seq
(.seq
(.plain (av 138 2::av 139 18::cw 140 .gtr 138 139::[]))
(.cond (aD 140)
(.seq
(.plain (av 141 19::av 142 3::cw 143 .sub 141 142::av 20 143::[]))
(.plain (av 144 18::av 21 144::[])))
(.seq
(.plain (av 145 1::av 20 145::[]))
(.plain (av 146 2::av 21 146::[])))))
(.seq
(.plain (av 147 19::eS 148 .sub 147 1::av 22 148::[]))
(.seq
(.block 8
(.loop
(.seq
(.seq
(.plain (av 149 20::av 150 21::cw 151 .lss 149 150::[]))
(.cond (aD 151)
.skip
(.exit 8)))
(.block 9
(.seq
(.plain (av 152 20::av 153 21::cw 154 .add 152 153::bC 155 (.ib .u64 (aD 154))::bC 156 (.bin .shr (aD 155) (.const (.int .u64 1)))::bC 157 (.ib .i64 (aD 156))::av 23 157::[]))
(.seq
(.draw (av 158 4::av 159 0::av 160 22::av 161 23::cw 162 .sub 160 161::bC 163 (.dB a (aD 159) (aD 162))::bC 164 (.load b a (aD 163))::av 165 0::av 166 23::bC 167 (.dB a (aD 165) (aD 166))::bC 168 (.load b a (aD 167))::bC 169 (.ic (aD 158) [(aD 164),(aD 168)])::eS 170 .lss 169 0::bC 171 (.un .not (aD 170))::[])
(aY 0::aY 1::aY 2::aY 3::aY 4::aY 5::aY 6::aY 7::aY 8::aY 9::aY 10::aY 11::aY 12::aY 13::[]))
(.cond (aD 171)
(.plain (av 172 23::eS 173 .add 172 1::av 20 173::[]))
(.plain (av 174 23::av 21 174::[])))))))))
(.seq
(.plain (av 175 19::av 176 20::cw 177 .sub 175 176::av 24 177::[]))
(.seq
(.seq
(.plain (av 178 20::av 179 2::cw 180 .lss 178 179::av 181 180::eB 181 η 182 (.eA (aD 2))::eB 181 η 183 (.eA (aD 24))::eB 181 η 184 (.bin .lss (aD 182) (aD 183))::bC 185 (.pick (aD 181) (aD 184) pO)::[]))
(.cond (aD 185)
(.plain (av 186 0::av 187 20::av 188 2::av 189 24::av 190 4::bC 191 (.fv d [(aD 186),(aD 187),(aD 188),(aD 189),(aD 190)])::[]))
.skip))
(.seq
(.seq
(.plain (av 192 1::av 193 20::cw 194 .lss 192 193::av 195 194::eB 195 η 196 (.eA (aD 20))::eB 195 η 197 (.eA (aD 18))::eB 195 η 198 (.bin .lss (aD 196) (aD 197))::bC 199 (.pick (aD 195) (aD 198) pO)::[]))
(.cond (aD 199)
(.plain (av 200 0::av 201 1::av 202 20::av 203 18::av 204 4::bC 205 (.fv c [(aD 200),(aD 201),(aD 202),(aD 203),(aD 204)])::[]))
.skip))
(.seq
(.plain (av 206 18::av 207 24::cw 208 .lss 206 207::av 209 208::eB 209 η 210 (.eA (aD 24))::eB 209 η 211 (.eA (aD 3))::eB 209 η 212 (.bin .lss (aD 210) (aD 211))::bC 213 (.pick (aD 209) (aD 212) pO)::[]))
(.cond (aD 213)
(.plain (av 214 0::av 215 18::av 216 24::av 217 3::av 218 4::bC 219 (.fv c [(aD 214),(aD 215),(aD 216),(aD 217),(aD 218)])::[]))
.skip))))))))))))),[]⟩
def YN:di γ 0 307=β (sc 41 η 307 330):=Ο
def YO:di γ 0 343=β (sc 1 ι 343 346):=Ο
def u5(c:Nat)(d:Bool)(a b:FuncId):ar:=⟨63,3,
(.seq
(.plain (bC 6 (.eA (lz 20))::[]))
(.seq
(.plain (av 10 6::bC 7 (.eA (lz 0))::av 8 10::[]))
(.seq
(.block 0
(.loop
(.seq
(.seq
(.plain (av 11 8::av 12 1::cw 13 .leq 11 12::[]))
(.cond (aD 13)
.skip
(.exit 0)))
(.block 1
(.seq
(.plain (av 14 0::av 15 7::av 16 8::av 17 2::bC 18 (.fv a [(aD 14),(aD 15),(aD 16),(aD 17)])::[]))
(.seq
(.plain (av 19 8::av 7 19::[]))
(.plain (av 20 8::av 21 6::cw 22 .add 20 21::av 8 22::[]))))))))
(.seq
(.plain (av 23 0::av 24 7::av 25 1::av 26 2::bC 27 (.fv a [(aD 23),(aD 24),(aD 25),(aD 26)])::[]))
(.block 2
(.loop
(.seq
(.seq
(.plain (av 28 6::av 29 1::cw 30 .lss 28 29::[]))
(.cond (aD 30)
.skip
(.exit 2)))
(.block 3
(.seq
(.plain (av 31 6::bC 32 (.bin .mul (lz 2) (aD 31))::bC 7 (.eA (lz 0))::av 8 32::[]))
(.seq
(.block 4
(.loop
(.seq
(.seq
(.plain (av 33 8::av 34 1::cw 35 .leq 33 34::[]))
(.cond (aD 35)
.skip
(.exit 4)))
(.block 5
(.seq
(.plain (av 36 0::av 37 7::av 38 7::av 39 6::cw 40 .add 38 39::av 41 8::av 42 2::bC 43 (.fv b [(aD 36),(aD 37),(aD 40),(aD 41),(aD 42)])::[]))
(.seq
(.plain (av 44 8::av 7 44::[]))
(.plain (av 45 8::av 46 6::bC 47 (.bin .mul (lz 2) (aD 46))::cw 48 .add 45 47::av 8 48::[]))))))))
(.seq
(.seq
(.plain (av 49 7::av 50 6::cw 51 .add 49 50::av 9 51::[]))
(.seq
(.plain (av 52 9::av 53 1::cw 54 .lss 52 53::[]))
(.cond (aD 54)
(.plain (av 55 0::av 56 7::av 57 9::av 58 1::av 59 2::bC 60 (.fv b [(aD 55),(aD 56),(aD 57),(aD 58),(aD 59)])::[]))
.skip)))
(.plain (av 61 6::eS 62 .mul 61 2::av 6 62::[]))))))))))))),[]⟩
def YP:di γ 0 270=β (u5 41 η 306 307):=Ο
def YQ:di γ 0 333=β (u5 1 ι 143 343):=Ο
structure nX(k:Nat)(a:R)(l b n:Nat):Prop where
 iG:∀i,i<n->cJ k a (.v (.int .i64 ((i:Nat):Int)))=β (.ptr l (b+i*k))
 len:fY a=β (.v (.int .i64 (n:Int)))
 cl:a.cells=[a]
def nY(b:Nat)(c:Bool)(a:R):Prop:=α a.cells=b/\aP c b a.cells=a
def el(a:Χ)(b:Nat):R:=a.getD b (.aF [])
def u6(a:Χ)(b c:Nat):Χ:=(a.set b (el a c)).set c (el a b)
def W(a:U)(b:Nat)(c d h:Χ):U:=a.set b (.cells (c++flat h++d))
variable{g A c0:Χ}{e i v M b9 h9:Nat}
def YR(a:e<α g):g[e]?=β (el g e):=by simp[el,a]
theorem jl(a:e<α g):el g e∈g:=a3d (YR a)
theorem u7(a:e<α g)(b:i<α g):(u6 g e i).Perm g:=by have c:=Array.swap_perm (xs:=g.toArray) (i:=e) (j:=i) (by trivial) (by trivial);grind[Array.perm_iff_toList_perm,u6,Array.swap,el,List.getD]
theorem xM(b:∀a∈g,α a.cells=i)(d:e<α g):(A++flat g++c0).drop (α A+e*i)=(el g e).cells++(flat (g.drop (e+1))++c0):=by
 have h:g=g.take e++el g e::g.drop (e+1):=by grind[List.take_append_drop,List.drop_eq_getElem_cons,el,List.getD]
 have k:(flat (g.take e)).length=e*i:=by rw[cT (λa c=>b a (a3j c)),a2X,a4w δ]
 grind[flat,el,List.append_assoc,List.drop_drop,List.drop_left]
theorem DX(a:∀b∈g,α b.cells=i)(c:e<α g)(d:α q.cells=i):putAt (A++flat g++c0) (α A+e*i) q.cells=A++flat (g.set e q)++c0:=by
 have y:(flat (g.take e)).length=e*i:=by rw[cT (λb h=>a b (a3j h)),a2X,a4w δ]
 have k:g=g.take e++el g e::g.drop (e+1):=by grind[List.take_append_drop,List.drop_eq_getElem_cons,el,List.getD]
 have z:flat g=flat (g.take e)++((el g e).cells++flat (g.drop (e+1))):=by
  conv=>lhs;rw[k]
  simp[flat]
 have o:flat (g.set e q)=flat (g.take e)++(q.cells++flat (g.drop (e+1))):=by rw[a4e,if_pos c];simp[flat]
 have p:=a _ (jl c);have r:(A++flat g++c0).take (α A+e*i)=A++flat (g.take e):=by grind
 have x:(A++flat g++c0).drop (α A+e*i+α q.cells)=flat (g.drop (e+1))++c0:=by rw[<-a3G,xM a c,d,<-p,a5y]
 rw[putAt,r,x,o];simp
structure YS(k:Nat)(p:Bool)(d:U)(l c:Nat)(pre post es:Χ)(i h:Nat)(a b:R)(cs o r:Χ):Prop where
 st:dR (W d l pre post es) l=β cs
 qb:cV p k (W d l pre post es) (.ptr l (c+i*k))=β a
 qc:cV p k (W d l pre post es) (.ptr l (c+h*k))=β b
 ca:α a.cells=k
 nZ:α b.cells=k
 oi:c+i*k+k<=α cs
 oj:c+h*k+k<=α o
 mQ:putAt cs (c+i*k) b.cells=o
 mR:putAt o (c+h*k) a.cells=r
 fin:(W d l pre post es).set l (.cells r)=W d l pre post (u6 es i h)
variable{I:Bool}{f u e1:U}
theorem mT(D:0<e)(o:α A=M)(c:∀a∈g,nY e I a)(d:i<α g):cV I e (W f v A c0 g) (.ptr v (M+i*e))=β (el g i):=by
 subst o;have p:=λa r=>(c a r).1;have x:=c _ (jl d);have y:(W f v A c0 g).read v=β (A++flat g++c0):=κ (ν _ _ _);have h:=xM p d (A:=A) (c0:=c0);have z:α A+i*e+e<=(A++flat g++c0).length:=by have:=congrArg α h;grind[Γ,el,flat,List.length_drop]
 simp only[cV,y,if_pos z,h];obtain⟨k,b⟩:=x;rw[<-b]
 conv=>rhs;rw[b]
 generalize el g i=a at*;cases I
 .simp only[aP,a3R,if_false]at b|-;cases C:a.cells with
  |nil=>rw[C]at k;simp at k;omega
  |cons E F=>simp_all
 simp_all [a2U,aP]
theorem u9(E:0<e)(o:α A=b9)(p:∀a∈g,nY e I a)(b:i<α g)(c:v<α g):
  ∃F G L,YS e I f M b9 A c0 g i v (el g i) (el g v) F G L:=by
 have d:=λa r=>(p a r).1;have x:=d _ (jl b);have y:=d _ (jl c);have z:∀a∈g.set i (el g v),α a.cells=e:=λa r=>by
  grind
 have P:=DX d b (A:=A) (c0:=c0) y;have S:=DX z (by simpa using c) (A:=A) (c0:=c0) x;have C:=λ{i} b=>mT E (f:=f) (v:=M) (c0:=c0) o p (i:=i) b;have D:∀(h)(k),(∀a∈h,α a.cells=e)->k<α h->α A+k*e+e<=(A++flat h++c0).length:=λh k T V=>by
  have:=congrArg α (xM T V (A:=A) (c0:=c0));grind[Γ,el,flat,List.length_drop,jl]
 subst o;refine⟨_,_,_,?_,C b,C c,x,y,D g i d b,D _ v z (by simpa using c),P,S,?_⟩
 .simp[dR,W,ν]
 .simp only[W,σ,u6]
variable{b4:FuncId}
section
def xN(x:di γ 0 b4=β (p9 e I))(y:0<e)(z:α g=v)(h:nX e q i v (α c0))(T:α c0<=1000000000000)(V:M+h9<=α c0)(j:b9+h9<=α c0)(C:R)(k:Χ)(D:k.Perm c0)(E:∀o∈c0,nY e I o):
  AC γ b4 [q,.v (.int .i64 (M:Int)),.v (.int .i64 (b9:Int)),.v (.int .i64 (h9:Int)),C] (W f i g A k) λl p=>∃r,r.Perm c0/\p=W f i g A r:=by
 have m:=h.cl;refine aM hm x ?_;refine cQ [0,1,2,3] (λb:Nat×Χ=>[(10,.v (.int .i64 (b.1)))]) (λb p=>p=W f i g A b.2/\b.2.Perm c0/\b.1<=h9) (λb=>h9 - b.1) (0,k) ⟨⟨rfl,D,δ⟩,aV⟩ ?_;rintro⟨a,d⟩ _ ⟨rfl,c,F⟩ n
 dsimp only at c F|-
 refine aa ?_;refine aH (λG=>?_) λG=>?_
 .have s:=c.length_eq;obtain⟨t,u,w,L⟩:=u9 y (f:=f) (M:=i) (c0:=A) z (λo P=>E o (c.mem_iff.1 P)) (i:=M+a) (v:=b9+a) δ δ;have S:=u7 (g:=d) (e:=M+a) (i:=b9+a) δ δ;obtain⟨B,H,K,N,O,Q,X,Y,Z,k0⟩:=L;have k2:=h.iG (M+a) δ;have k3:=h.iG (b9+a) δ;generalize W f i g A d=k4 at*;generalize el d (M+a)=b at*;generalize el d (b9+a)=k5 at*;have k6:(M)+(a)=((M+a:Nat):Int):=rfl;have k7:(b9)+(a)=((b9+a:Nat):Int):=rfl;refine aa ?_;exact⟨(a+1,_),⟨rfl,S.trans c,by show a+1<=h9;omega⟩,rfl,by show h9 -(a+1)<h9 - a;omega⟩
 .exact⟨_,θ,_,c,rfl⟩
theorem YT{L:FuncId}(T:di γ 0 b4=β (qv e I L))(r:di γ 0 L=β (p9 e I))(x:0<e)(y:α g=v)(o:nX e q i v (α c0))(z:α c0<=1000000000000)(u:h9<M)(w:M<b9)(B:b9<=α c0)(p:R)(C:Χ)(V:C.Perm c0)(D:∀j∈c0,nY e I j):
  AC γ b4 [q,.v (.int .i64 (h9:Int)),.v (.int .i64 (M:Int)),.v (.int .i64 (b9:Int)),p] (W f i g A C) λE F=>∃P,P.Perm c0/\F=W f i g A P:=by
 have H:=o.cl;have S:(M) -(h9)=((M - h9:Nat):Int):=δ;have d:(b9) -(M)=((b9 - M:Nat):Int):=δ;refine aM hm T ?_;refine cQ [0,1,2,3,4] (λc:(Nat×Nat)×Χ=>[(10,.v (.int .i64 (c.1.1))),(11,.v (.int .i64 (c.1.2)))]) (λc F=>F=W f i g A c.2/\c.2.Perm c0/\0<c.1.1/\0<c.1.2/\c.1.1<=M - h9/\c.1.2<=b9 - M) (λc=>c.1.1+c.1.2) ((M - h9,b9 - M),C) ⟨⟨rfl,V,by show 0<M - h9;omega,by show 0<b9 - M;omega,a3w _,a3w _⟩,aV⟩ ?_;clear S d;rintro⟨⟨a,b⟩,d⟩ _ ⟨rfl,G,l,m,n,s⟩ K
 dsimp only at*
 have S:(M) -(a)=((M - a:Nat):Int):=δ;refine aa ?_;refine aH (λt=>?_) λt=>?_
 .refine aH (λc2=>?_) λc2=>?_
  .refine ak (xN r x y o z δ δ p d G D) ?_;rintro E _⟨h,k,rfl⟩;refine aa ?_;exact⟨((a - b,b),h),⟨rfl,k,by show 0<a - b;omega,m,by show a - b<=M - h9;omega,s⟩,⟨by grind,rfl⟩,by show a - b+b<a+b;omega⟩
  .have h:(M)+(b) -(a)=((M+b - a:Nat):Int):=δ;refine aa ?_;refine ak (xN r x y o z δ δ p d G D) ?_;rintro E _⟨h,k,rfl⟩;refine aa ?_;exact⟨((a,b - a),h),⟨rfl,k,l,by show 0<b - a;omega,n,by show b - a<=b9 - M;omega⟩,⟨rfl,by grind⟩,by show a+(b - a)<a+b;omega⟩
 .obtain rfl:a=b:=δ;refine aa ?_;refine ak (xN r x y o z δ δ p d G D) ?_;rintro E _⟨h,k,rfl⟩;refine aa ?_;exact⟨_,θ,_,k,rfl⟩
def o0(c:U)(d:Nat)(h k a:Χ)(o:FuncId)(x y:Χ)(z:R->R->Int):Prop:=
 fa γ o=η/\∀b,b.Perm a->∀p∈a,∀r∈a,AC γ o (x++[p,r]++y) (W c d h k b) λC D=>D=W c d h k b/\C=.v (.int .i64 (z p r))
def DY(P:di γ 0 b4=β (sb e I))(o:0<e)(p:α g=v)(r:nX e q i v (α c0))(t:α c0<=1000000000000)(u:M<=b9)(w:b9<=α c0){C:FuncId}{D E:Χ}{S:R->R->Int}(F:o0 f i g A c0 C D E S)(x:Χ)(T:x.Perm c0)(V:∀y∈c0,nY e I y):
  AC γ b4 [q,.v (.int .i64 (M:Int)),.v (.int .i64 (b9:Int)),.bA C D E] (W f i g A x) λB h=>∃G,G.Perm c0/\h=W f i g A G:=by
 have H:=r.cl;refine aM hm P ?_;refine cQ [0,1,2,3] (λa:Nat×Χ=>[(8,.v (.int .i64 (a.1)))]) (λa h=>h=W f i g A a.2/\a.2.Perm c0/\M<a.1/\a.1<=b9+1) (λa=>b9+1 - a.1) (M+1,x) ⟨⟨rfl,T,by show M<M+1;omega,by show M+1<=b9+1;omega⟩,aa VA⟩ ?_;rintro⟨c,j⟩ _ ⟨rfl,L,K,N⟩ O
 dsimp only at*
 refine aa ?_;refine aH (λl=>?_) λl=>?_
 .refine cQ [0,1,2,3,8] (λa:Nat×Χ=>[(9,.v (.int .i64 (a.1)))]) (λa h=>h=W f i g A a.2/\a.2.Perm c0/\M<=a.1/\a.1<=c) (λa=>a.1) (c,j) ⟨⟨rfl,L,by show M<=c;omega,a3w _⟩,aV⟩ ?_;rintro⟨b,k⟩ _ ⟨rfl,d,Q,X⟩ Y
  dsimp only at*
  have Z:=d.length_eq;refine aa ?_;refine aH (λm=>?_) λm=>?_
  .have k0:=r.iG b δ;have k2:=r.iG (b - 1) δ;have k3:(b) - 1=((b - 1:Nat):Int):=δ;have z:=λy n=>V y (d.mem_iff.1 n);have k4:=mT o (f:=f) (v:=i) (c0:=A) p z (i:=b) δ;have k5:=mT o (f:=f) (v:=i) (c0:=A) p z (i:=b - 1) δ;refine aa ?_;refine eC F.1 (F.2 k d _ (d.mem_iff.1 (jl δ)) _ (d.mem_iff.1 (jl δ))) ?_;rintro _ _⟨rfl,rfl⟩;refine aa ?_;refine aH (λc2=>?_) λc2=>?_
   .obtain⟨k6,k7,k8,k9,l0,l1,l2,l3,l4,l5,l6,l7,l8⟩:=u9 o (f:=f) (M:=i) (c0:=A) p z (i:=b) (v:=b - 1) δ δ;have s:=u7 (g:=k) (e:=b) (i:=b - 1) δ δ;generalize W f i g A k=l9 at*;generalize el k b=a at*;generalize el k (b - 1)=n0 at*;refine aa ?_;exact⟨(b - 1,_),⟨rfl,s.trans d,by show M<=b - 1;omega,by show b - 1<=c;omega⟩,rfl,by show b - 1<b;omega⟩
   .exact⟨(c+1,_),⟨rfl,d,by show M<c+1;omega,by show c+1<=b9+1;omega⟩,rfl,δ⟩
  .exact⟨(c+1,_),⟨rfl,d,by show M<c+1;omega,by show c+1<=b9+1;omega⟩,rfl,δ⟩
 .exact⟨_,θ,_,L,rfl⟩
def ua(a b:Nat):br .shr (.int .u64 ((a:Int)+(b:Int))) (.int .u64 1)=β (.int .u64 (((a+b)/2:Nat):Int)):=by have:=rk (a+b) .u64 1 δ δ;rw[a4g]at this;exact this
theorem ub{O B k7:FuncId}(Q:di γ 0 O=β (sc e I O B))(X:di γ 0 B=β (qv e I k7))(Y:di γ 0 k7=β (p9 e I))(P:0<e)(S:α g=v)(F:nX e q i v (α c0))(Z:α c0<=1000000000000){k8:FuncId}{k9 l0:Χ}{l6:R->R->Int}(V:o0 f i g A c0 k8 k9 l0 l6)(j:∀D∈c0,nY e I D):∀(H h c k:Nat),k - h<=H->h<c->c<k->k<=α c0->∀(E:Χ),E.Perm c0->
  AC γ O [q,.v (.int .i64 (h:Int)),.v (.int .i64 (c:Int)),.v (.int .i64 (k:Int)),.bA k8 k9 l0] (W f i g A E) λa10 C=>∃l1,l1.Perm c0/\C=W f i g A l1
 |0,h,c,k,l7,l8,l9,n0,E,y=>by omega
 |H+1,h,c,k,l7,l8,l9,n0,E,y=>by
  have a11:=F.cl;refine aM hm Q ?_;refine aH (λn1=>?_) λn1=>?_
  .refine hj [0,1,2,3,4] (λa:Nat×Nat=>[(10,.v (.int .i64 (a.1))),(11,.v (.int .i64 (a.2)))]) (λa=>c<=a.1/\a.1<=a.2/\a.2<=k) (λa=>a.2 - a.1) (c,k) ⟨a3w _,by show c<=k;omega,a3w _⟩ aV ?_;rintro⟨b,d⟩ ⟨G,l,L⟩ m
   dsimp only at G l L|-
   refine aa ?_;have k0:=ua b d;have K:=y.length_eq;have n:=λD T=>j D (y.mem_iff.1 T);refine aH (λc2=>?_) λc2=>?_
   .have M:=F.iG ((b+d)/2) δ;have N:=F.iG h δ;have l2:=mT P (f:=f) (v:=i) (c0:=A) S n (i:=(b+d)/2) δ;have l3:=mT P (f:=f) (v:=i) (c0:=A) S n (i:=h) δ;have l4:(b+d)/2<=1000000000000:=δ;obtain⟨s,k2⟩:b<=(b+d)/2/\(b+d)/2<d:=δ;have w:=V.2 E y _ (y.mem_iff.1 (jl (e:=(b+d)/2) δ)) _ (y.mem_iff.1 (jl (e:=h) δ));generalize (b+d)/2=o at*;refine aa ?_;refine eC V.1 w ?_;rintro _ _⟨rfl,rfl⟩;refine aa ?_;refine aH (λaE=>?_) λaE=>?_
    .exact⟨(o+1,d),⟨by show c<=o+1;omega,by show o+1<=d;omega,L⟩,⟨rfl,rfl⟩,by show d -(o+1)<d - b;omega⟩
    .exact⟨(b,o),⟨G,s,by show o<=k;omega⟩,⟨rfl,rfl⟩,by show o - b<d - b;omega⟩
   .refine cQ [0,1,2,3,4,10] (λa:Nat×Χ=>[(13,.v (.int .i64 (a.1)))]) (λa C=>C=W f i g A a.2/\a.2.Perm c0/\h<=a.1) (λa=>b - a.1) (h,E) ⟨⟨rfl,y,a3w _⟩,aV⟩ ?_;rintro⟨p,z⟩ _ ⟨rfl,x,k3⟩ B
    dsimp only at x k3|-
    refine aa ?_;refine aH (λaE=>?_) λaE=>?_
    .have K:=x.length_eq;have k4:=λD T=>j D (x.mem_iff.1 T);have M:=F.iG p δ;have N:=F.iG (p+1) δ;have l5:(p)+1=((p+1:Nat):Int):=δ;obtain⟨n2,n3,n4,n5,n9,a00,a01,a02,a03,a04,a05,a06,a07⟩:=u9 P (f:=f) (M:=i) (c0:=A) S k4 (i:=p) (v:=p+1) δ δ;have k5:=u7 (g:=z) (e:=p) (i:=p+1) δ δ;generalize W f i g A z=a08 at*;generalize el z p=a at*;generalize el z (p+1)=a09 at*;refine aa ?_;exact⟨(p+1,_),⟨rfl,k5.trans x,by show h<=p+1;omega⟩,rfl,by show b -(p+1)<b - p;omega⟩
    .exact⟨_,θ,_,x,rfl⟩
  .refine aH (λc2=>?_) λc2=>?_
   .refine hj [0,1,2,3,4] (λa:Nat×Nat=>[(14,.v (.int .i64 (a.1))),(15,.v (.int .i64 (a.2)))]) (λa=>h<=a.1/\a.1<=a.2/\a.2<=c) (λa=>a.2 - a.1) (h,c) ⟨a3w _,by show h<=c;omega,a3w _⟩ aV ?_;rintro⟨b,d⟩ ⟨G,l,L⟩ m
    dsimp only at G l L|-
    refine aa ?_;have k0:=ua b d;have K:=y.length_eq;have n:=λD T=>j D (y.mem_iff.1 T);refine aH (λaE=>?_) λaE=>?_
    .have M:=F.iG ((b+d)/2) δ;have N:=F.iG c δ;have l2:=mT P (f:=f) (v:=i) (c0:=A) S n (i:=(b+d)/2) δ;have l3:=mT P (f:=f) (v:=i) (c0:=A) S n (i:=c) δ;obtain⟨s,k2⟩:b<=(b+d)/2/\(b+d)/2<d:=δ;have w:=V.2 E y _ (y.mem_iff.1 (jl (e:=c) δ)) _ (y.mem_iff.1 (jl (e:=(b+d)/2) δ));have l4:(b+d)/2<=1000000000000:=δ;generalize (b+d)/2=o at*;refine aa ?_;refine eC V.1 w ?_;rintro _ _⟨rfl,rfl⟩;refine aa ?_;refine aH (λaE=>?_) λaE=>?_
     .exact⟨(o+1,d),⟨by show h<=o+1;omega,by show o+1<=d;omega,L⟩,⟨rfl,rfl⟩,by show d -(o+1)<d - b;omega⟩
     .exact⟨(b,o),⟨G,s,by show o<=c;omega⟩,⟨rfl,rfl⟩,by show o - b<d - b;omega⟩
    .refine cQ [0,1,2,3,4,14] (λa:Nat×Χ=>[(17,.v (.int .i64 (a.1)))]) (λa C=>C=W f i g A a.2/\a.2.Perm c0/\a.1<=c) (λa=>a.1) (c,E) ⟨⟨rfl,y,a3w _⟩,aV⟩ ?_;rintro⟨p,z⟩ _ ⟨rfl,x,k3⟩ B
     dsimp only at x k3|-
     refine aa ?_;refine aH (λaL=>?_) λaL=>?_
     .have K:=x.length_eq;have k4:=λD T=>j D (x.mem_iff.1 T);have M:=F.iG p δ;have N:=F.iG (p - 1) δ;have l5:(p) - 1=((p - 1:Nat):Int):=δ;obtain⟨n2,n3,n4,n5,n9,a00,a01,a02,a03,a04,a05,a06,a07⟩:=u9 P (f:=f) (M:=i) (c0:=A) S k4 (i:=p) (v:=p - 1) δ δ;have k5:=u7 (g:=z) (e:=p) (i:=p - 1) δ δ;generalize W f i g A z=a08 at*;generalize el z p=a at*;generalize el z (p - 1)=a09 at*;refine aa ?_;exact⟨(p - 1,_),⟨rfl,k5.trans x,by show p - 1<=c;omega⟩,rfl,by show p - 1<p;omega⟩
     .exact⟨_,θ,_,x,rfl⟩
   .have k0:=ua h k;have a13:(h+k)/2<=1000000000000:=δ;obtain⟨s,k2⟩:h<(h+k)/2/\(h+k)/2<k:=δ;have a14:(h+k)/2 - h<=k -(h+k)/2:=δ;have a15:k -(h+k)/2<=(h+k)/2 - h+1:=δ;generalize (h+k)/2=r at*;refine aa ?_;refine nA [0,1,2,3,4,18,19] (λa:Nat×Nat=>[(20,.v (.int .i64 (a.1))),(21,.v (.int .i64 (a.2)))]) (λa C=>C=W f i g A E/\h<=a.1/\a.1<=a.2/\r+c<=k+a.1/\a.2<=r/\a.2<=c) (λaE=>?_) (λaE=>?_) ?_
    .have aE:=of_decide_eq_true aE;have a16:(r)+(c) -(k)=((r+c - k:Nat):Int):=δ;refine aa ?_;exact⟨(r+c - k,r),⟨by show h<=r+c - k;omega,by show r+c - k<=r;omega,δ,a3w _,by show r<=c;omega⟩,rfl,rfl⟩
    .have aE:=of_decide_eq_false aE;refine aa ?_;exact⟨(h,c),⟨a3w _,by show h<=c;omega,by show r+c<=k+h;omega,by show c<=r;omega,a3w _⟩,rfl,rfl⟩
    rintro⟨b,d⟩ _ ⟨rfl,G,l,t,L,u⟩ m
    dsimp only at G l t L u|-
    refine nz [0,1,2,3,4,18,19,20,21] (λ_:Unit=>[(22,.v (.int .i64 ((r+c - 1:Nat))))]) (λ_ C=>C=W f i g A E) ?_ ?_
    .refine aa ?_;exact⟨(),by congr 2;omega⟩
    rintro _ _ rfl m;refine nz [0,1,2,3,4,18,19] (λb:Nat=>[(20,.v (.int .i64 (b)))]) (λb C=>C=W f i g A E/\h<=b/\r+c<=k+b/\b<=r/\b<=c) ?_ ?_
    .refine aa ?_;refine hj [0,1,2,3,4,18,19,22] (λa:Nat×Nat=>[(20,.v (.int .i64 (a.1))),(21,.v (.int .i64 (a.2)))]) (λa=>h<=a.1/\a.1<=a.2/\r+c<=k+a.1/\a.2<=r/\a.2<=c) (λa=>a.2 - a.1) (b,d) ⟨G,l,t,L,u⟩ aV ?_;rintro⟨b,d⟩ ⟨G,l,t,L,u⟩ m
     dsimp only at G l t L u|-
     have k0:=ua b d;have K:=y.length_eq;have n:=λD T=>j D (y.mem_iff.1 T);refine aa ?_;refine aH (λaL=>?_) λaL=>?_
     .obtain⟨s,k2⟩:b<=(b+d)/2/\(b+d)/2<d:=δ;have l4:(b+d)/2<=1000000000000:=δ;generalize (b+d)/2=o at*;have l5:((r+c - 1:Nat)) -(o)=((r+c - 1 - o:Nat):Int):=δ;have M:=F.iG o δ;have N:=F.iG (r+c - 1 - o) δ;have l2:=mT P (f:=f) (v:=i) (c0:=A) S n (i:=o) δ;have l3:=mT P (f:=f) (v:=i) (c0:=A) S n (i:=r+c - 1 - o) δ;have w:=V.2 E y _ (y.mem_iff.1 (jl (e:=r+c - 1 - o) δ)) _ (y.mem_iff.1 (jl (e:=o) δ));refine aa ?_;refine eC V.1 w ?_;rintro _ _⟨rfl,rfl⟩;refine aa ?_;refine aH (λba=>?_) λba=>?_
      .exact⟨(o+1,d),⟨by show h<=o+1;omega,by show o+1<=d;omega,by show r+c<=k+(o+1);omega,L,u⟩,⟨rfl,rfl⟩,by show d -(o+1)<d - b;omega⟩
      .exact⟨(b,o),⟨G,s,t,by show o<=r;omega,by show o<=c;omega⟩,⟨rfl,rfl⟩,by show o - b<d - b;omega⟩
     grind
    rintro b _⟨rfl,G,t,L,u⟩m;refine nz [0,1,2,3,4,18,20] (λ_:Unit=>[(24,.v (.int .i64 ((r+c - b:Nat))))]) (λ_ C=>C=W f i g A E) ?_ ?_
    .refine aa ?_;exact⟨(),by congr 2;omega⟩
    rintro _ _ rfl m;obtain⟨D,T⟩:∃D,r+c - b=D:=⟨_,rfl⟩;have a18:D<=k:=δ;rw[T];refine nz [0,1,2,3,4,18,20,24] (λ_:Χ=>[]) (λa C=>C=W f i g A a/\a.Perm c0) ?_ ?_
    .refine aa ?_;refine aH (λaL=>?_) λaL=>?_
     .refine aH (λba=>?_) λba=>?_
      .refine ak (YT X Y P S F Z δ δ δ _ E y j) ?_;rintro _ _⟨z,x,rfl⟩;refine aa ?_;exact⟨z,rfl,x⟩
      .exact⟨E,rfl,y⟩
     .exact⟨E,rfl,y⟩
    rintro z _⟨rfl,x⟩m;refine nz [0,1,2,3,4,18,20,24] (λ_:Χ=>[]) (λa C=>C=W f i g A a/\a.Perm c0) ?_ ?_
    .refine aa ?_;refine aH (λaL=>?_) λaL=>?_
     .refine aH (λba=>?_) λba=>?_
      .refine ak (ub Q X Y P S F Z V j H h b r δ δ δ δ z x) ?_;rintro _ _⟨k6,x,rfl⟩;refine aa ?_;exact⟨k6,rfl,x⟩
      .exact⟨z,rfl,x⟩
     .exact⟨z,rfl,x⟩
    rintro z _⟨rfl,x⟩m;refine aa ?_;refine aH (λaL=>?_) λaL=>?_
    .refine aH (λba=>?_) λba=>?_
     .refine ak (ub Q X Y P S F Z V j H r D k δ δ δ δ z x) ?_;rintro _ _⟨k6,x,rfl⟩;refine aa ?_;exact⟨_,θ,k6,x,rfl⟩
     .exact⟨_,θ,z,x,rfl⟩
    .exact⟨_,θ,z,x,rfl⟩
def YU{T V D j:FuncId}(O:di γ 0 T=β (u5 e I V b4))(l:di γ 0 V=β (sb e I))(m:di γ 0 b4=β (sc e I b4 D))(n:di γ 0 D=β (qv e I j))(s:di γ 0 j=β (p9 e I))(p:0<e)(r:α g=v)(E:nX e q i v (α c0))(Q:α c0<=1000000000){t:FuncId}{u w:Χ}{X:R->R->Int}(x:o0 f i g A c0 t u w X)(y:∀Y∈c0,nY e I Y):
  AC γ T [q,.v (.int .i64 (α c0:Int)),.bA t u w] (W f i g A c0) λk6 h=>∃B,B.Perm c0/\h=W f i g A B:=by
 have k7:=E.cl;have H:α c0<=1000000000000:=δ;have z:=E;have C:=H;obtain⟨b,Z⟩:∃b,α c0=b:=⟨_,rfl⟩;rw[Z]at Q H E|-;refine aM hm O ?_;refine cQ [0,1,2,6] (λa:Nat×Χ=>[(7,.v (.int .i64 (a.1))),(8,.v (.int .i64 ((a.1+20:Nat))))]) (λa h=>h=W f i g A a.2/\a.2.Perm c0/\a.1<=b) (λa=>b - a.1) (0,c0) ⟨⟨rfl,.refl _,a3N _⟩,aV⟩ ?_;rintro⟨c,K⟩ _ ⟨rfl,F,G⟩ k8
 dsimp only at F G|-
 refine aa ?_;refine aH (λk0=>?_) λk0=>?_
 .refine ak (DY l p r z C δ δ x K F y) ?_;rintro _ _⟨L,k,rfl⟩;refine aa ?_;exact⟨(c+20,L),⟨rfl,k,by show c+20<=b;omega⟩,⟨rfl,rfl⟩,by show b -(c+20)<b - c;omega⟩
 .refine ak (DY l p r z C δ δ x K F y) ?_;rintro _ _⟨L,k,rfl⟩;refine aa ?_;refine cQ [0,1,2] (λa:Nat×Χ=>[(6,.v (.int .i64 (a.1)))]) (λa h=>h=W f i g A a.2/\a.2.Perm c0/\0<a.1/\a.1<=20+2*b) (λa=>b - a.1) (20,L) ⟨⟨rfl,k,by show 0<20;omega,by show 20<=20+2*b;omega⟩,aV⟩ ?_;rintro⟨aX,M⟩ _ ⟨rfl,P,k2,k3⟩ b4
  dsimp only at P k2 k3|-
  refine aa ?_;refine aH (λc2=>?_) λc2=>?_
  .have k9:2*(aX)=((2*aX:Nat):Int):=δ;refine cQ [0,1,2,6] (λa:Nat×Χ=>[(7,.v (.int .i64 (a.1))),(8,.v (.int .i64 ((a.1+2*aX:Nat))))]) (λa h=>h=W f i g A a.2/\a.2.Perm c0/\a.1<=b) (λa=>b - a.1) (0,M) ⟨⟨rfl,P,a3N _⟩,by rw[a3t];exact aV⟩ ?_;rintro⟨c,N⟩ _ ⟨rfl,S,G⟩ D
   dsimp only at S G|-
   have l0:(c)+(aX)=((c+aX:Nat):Int):=rfl;refine aa ?_;refine aH (λaE=>?_) λaE=>?_
   .refine ak (ub m n s p r z C x y _ c (c+aX) (c+2*aX) (a3w _) δ δ δ N S) ?_;rintro _ _⟨d,k,rfl⟩;refine aa ?_;exact⟨(c+2*aX,d),⟨rfl,k,by show c+2*aX<=b;omega⟩,⟨rfl,ρ⟩,by show b -(c+2*aX)<b - c;omega⟩
   .have k4:∀d:Χ,d.Perm c0->∃o:Nat×Χ,(W f i g A d=W f i g A o.2/\o.2.Perm c0/\0<o.1/\o.1<=20+2*b)/\R.v (.int .i64 ((aX)*2))=.v (.int .i64 (o.1))/\b - o.1<b - aX:=λd k5=>⟨(aX*2,d),⟨rfl,k5,by show 0<aX*2;omega,by show aX*2<= _;omega⟩,rfl,by show b - aX*2<b - aX;omega⟩;refine aH (λaL=>?_) λaL=>?_
    .refine ak (ub m n s p r z C x y _ c (c+aX) b (a3w _) δ δ δ N S) ?_;rintro _ _⟨d,k,rfl⟩;have:=k4 d k;exact aV
    .trivial
  .exact⟨_,θ,M,P,rfl⟩
def xO(a:FuncId):ar:=⟨9,2,.plain (av 4 0::av 5 0::oB 6 5::av 7 1::bC 8 (.fv a [aD 4,aD 6,aD 7])::[]),[]⟩
def DZ{b c d h k:FuncId}(y:di γ 0 b=β (xO c))(z:di γ 0 c=β (u5 e I d b4))(C:di γ 0 d=β (sb e I))(D:di γ 0 b4=β (sc e I b4 h))(E:di γ 0 h=β (qv e I k))(F:di γ 0 k=β (p9 e I))(G:0<e)(L:α g=v)(a:nX e q i v (α c0))(P:α c0<=1000000000){o:FuncId}{p r:Χ}{S:R->R->Int}(T:o0 f i g A c0 o p r S)(V:∀j∈c0,nY e I j):
  AC γ b [q,.bA o p r] (W f i g A c0) λs l=>∃x,x.Perm c0/\l=W f i g A x:=by
 have t:=a.cl;have u:=a.len;refine aM hm y ?_;refine ak (YU z C D E F G L a P T V) ?_;rintro _ _⟨m,n,rfl⟩;refine aa ?_;exact⟨_,θ,m,n,rfl⟩
end
def YV:di γ 0 215=β (xO 270):=Ο
def YW:di γ 0 310=β (xO 333):=Ο
theorem aw.wr(d:aw u f e A q)(h:0<e)(k:A=flat g)(o:∀c∈g,α c.cells=e)(E:g≠[]):
  ∃a post b,u a=ε/\q=.aq a (α g) b e/\f=W f a [] post g/\nX e q a 0 (α g)/\α g<=b/\b<=maxLen/\(α g*e+α post=b*e):=by
 subst k;have F:=cT o;obtain⟨G,⟨c,_⟩|⟨a,p,b,r,rfl,x,y,L,z,P,C,D⟩⟩:=d;grind[List.length_nil,List.length_pos_iff,Nat.mul_pos]
 .obtain rfl:p=α g:=a5i h δ;refine⟨a,r.drop (α g*e),b,x,rfl,?_,⟨λS T=>?_,rfl,rfl⟩,C,D,?_⟩
  .rw[W,a3l,<-z,a3y];exact(U.rX y).symm
  simp_all [jL];grind
theorem W.dC(d:f.sub u)(b:f v=ε)(h:∀a∈g,α a.cells=e)(c:A.Perm g)(k:α g<=i)(o:i<=maxLen)(x:α g*e+α c0=i*e):
  aw f (W u v [] c0 A) e (flat A) (.aq v (α g) i e):=by
 have p:(flat A).length=α g*e:=by rw[cT λa r=>h a (c.mem_iff.1 r),c.length_eq]
 refine⟨μ d b,.inr ⟨v,_,i,_,rfl,b,ν _ _ _,?_,?_,p,k,o⟩⟩;simp_all;simp_all
theorem aC.mem{h:Type}{k:h->R->Prop}:∀ {c:List h}{aX:Χ},aC k c aX->∀ {b:R},b∈aX->∃d,d∈c/\k d b
 |[],[],_,b,a=>by cases a
 |d::c,p::aX,⟨h1,o⟩,b,a=>by
  rcases a3n.1 a with rfl|a
  .simp_all
  .obtain⟨r,x,y⟩:=aC.mem o a;grind
 |[],_:: _,a,_,_=>a.elim
 |_:: _,[],a,_,_=>a.elim
variable{b0:Type}
def aC.perm{p:b0->R->Prop}(r:g.Perm A):∀ {a:List b0},aC p a A->∃c,c.Perm a/\aC p c g:=by
 induction r with
 |nil=>exact λ{a} b=>⟨a,.refl _,b⟩
 |cons x _ ih=>
  intro a b
  match a,b with
  |h::a,⟨h1,k⟩=>obtain⟨c,d,o⟩:=ih k;exact⟨h::c,d.cons _,h1,o⟩
 |swap x G L=>
  intro a b
  match a,b with
  |h::y::a,⟨h1,k,d⟩=>exact⟨y::h::a,.swap _ _ _,k,h1,d⟩
 |trans _ _ z C=>intro a b;obtain⟨c,d,o⟩:=C b;obtain⟨D,E,F⟩:=z o;exact⟨D,E.trans d,F⟩
theorem o0.of{s:U}{l:Nat}{ds d:Χ}(r:fa γ b4=η)(x:∀b∈c0,∀c∈c0,∃h:Int,∀a,a.Perm c0->AC γ b4 (ds++[b,c]++d) (W s l g A a) λk o=>o=W s l g A a/\k=.v (.int .i64 h)):
  ∃y,o0 s l g A c0 b4 ds d y:=by
 classical
 exact⟨λb c=>if z:∃h:Int,∀a,a.Perm c0->AC γ b4 (ds++[b,c]++d) (W s l g A a) λk o=>o=W s l g A a/\k=.v (.int .i64 h)then z.choose else 0,r,λa C b D c E=>by
  have p:=x b D c E;simp only[dif_pos p];exact p.choose_spec a C⟩
theorem YX(E:Own)(p:Nat)(n5:1<=p)(n9:p<=8)(a:List Ρ)(q:Χ)(V:R)(x:U)(F:bM x 1 V q)(e:aC isRow a q)(s:∀k∈a,α k=p)(a00:α a<=100000)(k0:a≠[]):
  AC γ 275 [fs.V E,V] x λk f=>∃t g,g.Perm a/\aC isRow g t/\aw x f 1 (flat t) k:=by
 have k2:=e.len;have a01:=F.one;have k3:=F.len;rw[k2]at k3;refine aM hm PU ?_;refine bp λy a02=>?_;generalize i:x.set y _=j;have u:x.sub j:=by subst i;exact aV
 have G:j y=β (.cells [.v (.int .u8 0),.v (.int .i64 0),.J (ab []) E]):=by subst i;exact aV
 clear i;refine cQ [1,2,8,9] (λd:Nat×R=>[(10,.v (.int .i64 (d.1))),(5,d.2)]) (λd f=>d.1<=α a/\∃h,aw j f 1 h d.2/\h=flat h/\aC isRow (a.take d.1) h) (λd=>α a - d.1) (0,.J [] .nil) ⟨⟨a3N _,[],aw.nil θ,rfl,trivial⟩,aV⟩ ?_;rintro⟨b,d⟩ r ⟨k4,h,o,z,c⟩ a03
 dsimp only at k4 o c|-
 have a04:=κ (o.1 _ _ G);refine aa ?_;refine aH (λk5=>?_) λk5=>?_
 .have k6:=a3T.2 k0;obtain⟨_,L,v,rfl⟩:=e.get (i:=b) (x:=a.getD b []) (by grind);obtain⟨_,k7,k8,rfl⟩:=e.get (i:=0) (x:=a.getD 0 []) (by simp[k6]);obtain⟨C,a05,l⟩:=F.get b _ L;obtain⟨w,A,k9⟩:=F.get 0 _ k7;have A:cJ 1 V (.v (.int .i64 0))=β w:=A;have B:=ο u o.1;have a06:cV ι 1 r C=β (.J (ab (a.getD b [])) v):=l.ld r B ι 1 δ (by simp[τ]);have a07:cV ι 1 r w=β (.J (ab (a.getD 0 [])) k8):=k9.ld r B ι 1 δ (by simp[τ]);have l0:(ab (a.getD b [])).length=p:=by grind[bK,List.getD]
  have a08:(ab (a.getD 0 [])).length=p:=by rw[bK];grind
  have D:=iy (a:=a) (e:=b) (b:=[]) δ;have a09:fs.ok p=true:=by rw[qu];grind
  generalize a.getD b []=k at*;generalize a.getD 0 []=a10 at*;refine aa ?_;refine bd (u4 fs _ _ _ δ ρ) ?_;refine ak (rN k v r (by rw[bK]at l0;omega)) ?_;rintro _ a11⟨l1,rfl⟩;have l2:=o.mono l1;refine aa ?_;refine iv (by simp[bc,τ]) ρ λa13 l3=>?_;have H:=l2.mono (μ (X:=.cells (flat [R.J (ab k) .any])) θ l3);have m:(flat h).length=b:=by rw[cT (c.cells λ_ _=>φ),c.len,a2X];omega
  rw[z]at H;refine aa ?_;refine fx H δ (nK rfl) rfl (by rw[m];simp[flat,τ];omega) (by rw[m];simp[flat,τ];omega) λl4 a14 I=>?_;refine aa ?_;refine⟨(b+1,l4),⟨by show b+1<=α a;omega,h++[.J (ab k) .any],?_,?_,?_⟩,⟨rfl,rfl⟩,δ⟩
  .rw[<-z]at I;exact I
  .conv=>lhs;rw[z]
   simp[flat,τ]
  .show aC isRow (a.take (b+1)) _;rw[D];exact c.snoc ⟨_,rfl⟩
 .obtain rfl:b=α a:=δ;rw[a3K]at c;have P:∀D∈h,α D.cells=1:=c.cells λ_ _=>φ;have m:=c.len;have l5:h≠[]:=by grind
  obtain⟨K,post,a15,M,rfl,N,O,l6,l7,Q⟩:=aw.wr o δ z P l5;have l8:K≠y:=by rintro rfl;rw[M]at G;cases G
  have X:∀Y,(W r K [] post Y).read y=β [.v (.int .u8 0),.v (.int .i64 0),.J (ab []) E]:=λY=>κ ((ξ _ _ l8.symm).trans (o.1 _ _ G));have l9:=λS T=>W.dC (A:=S) o.1 M P T l6 l7 Q;obtain⟨a16,n0⟩:=o0.of (b4:=311) (ds:=[]) a7v λa18 n1 a19 n2=>by
   obtain⟨C,l,Z,rfl⟩:=c.mem n1;obtain⟨n,n3,n4,rfl⟩:=c.mem n2;have Q:=s C l;have a27:=s n n3;exact⟨sa C n,λS _=>YC E Z n4 C n _ y (X S) ⟨δ,δ⟩ δ⟩
  rw[N];clear N;refine ak (DZ YW YQ YM YO YK YI δ rfl O δ n0 λD L=>⟨P D L,?_⟩) ?_
  .obtain⟨k,_,Z,rfl⟩:=c.mem L;rfl
  rintro _ _⟨S,T,rfl⟩;clear z X P O;refine aa ?_;obtain⟨g,a29,a30⟩:=c.perm T;have a34:=(l9 _ T).base u;grind[θ]
abbrev o1(a b:Ρ)(c d h:Own):Χ:=[.J (ab a) c,.J (ab b) d,.v (.int .u8 0),.v (.int .i64 0),.J [] h,.v (.int .i64 1),.v (.bool ι)]
theorem YY(y z:Ρ)(C D E:Own)(d h:U)(k:Χ)(o:R)(a:aw d h 1 k o):AC γ 274 [o,.agg (o1 y z C D E)] h λF G=>aw d G 1 (k.take 1) F:=by
 have g:=fi a;obtain⟨L,P,_,i⟩:=a.src;refine aM hm PR ?_;refine bp λj p=>?_;refine aH (λS=>?_) λS=>?_
 .obtain⟨r,⟨rfl,_⟩|⟨b,x,c,T,rfl,V,W,e,l,m,n,f⟩⟩:=a
  .simp at P;omega
  .obtain rfl:x=L:=δ;have q:c9 1 (.aq b x c 1) ε (β (.v (.int .i64 1))) ε=β (.aq b 1 c 1):=hi (v:=1) δ;refine aa ?_;refine⟨_,θ,μ r (Μ r p),.inr ⟨b,1,c,T,rfl,V,μ θ p _ _ W,e,?_,?_,δ,f⟩⟩;grind
   .rw[a2X];omega
 grind[Θ,θ,μ]
def dY(b c:Ρ)(a:an):Bool:=decide (a.live≠0)&&jk b c a.aT a.aS
theorem YZ(b c:Ρ)(p r x d h k:Own)(a:an)(y:α a.sum=32)(z:α b<=1000000000000)(o:U):AC γ 267 [.agg (o1 b c p r x),.agg (ae a d h k)] o λC D=>D=o/\C=.v (.bool (dY b c a)):=by
 have F:=(aN (O:=d) (e4:=h) (h5:=k) y).all;refine aM hm PE ?_;refine bp λG L=>?_;refine dk λP S T V=>?_;generalize W:ae a d h k=e at*;refine aH (λE=>?_) λE=>?_
 .refine bd (DQ _ b c a.aT a.aS _ _ _ _ z) ?_;refine aH (λc2=>?_) λc2=>?_
  .refine aX ?_;rw[dY,c2,Bool.and_false]
  simp_all [dY]
 .refine aX ?_;rw[dY,decide_eq_false δ,a5b]
theorem E0{a b:Ρ}(c:jk n b6 a b=η):dD (fO n b6 a b).1 (fO n b6 a b).2 (fO n b6 a b).1.length=η/\(fO n b6 a b).1.length=α n:=by
 have d:=id c;rw[jk,Ξ]at c;obtain⟨h,hm⟩:=c;obtain⟨y,z,C,D,E⟩:=xH h;rw[nV,Ξ]at h;obtain⟨r,x⟩:=h;simp only[dD,Ξ,decide_eq_true_eq,a3h,a4b]at r x hm;have k:(fO n b6 a b).1.length=α n:=by rw[fO,if_pos d];simp[z]
 have F:(fO n b6 a b).2.length=α n:=by rw[fO,if_pos d];simp[y,C]
 refine⟨?_,k⟩;rw[k];simp only[dD,Ξ,decide_eq_true_eq,a3h,a4b];refine⟨⟨⟨⟨D,E⟩,k⟩,F⟩,λo p=>?_⟩;have G:=r.2 o p;have L:=x.2 o p;obtain⟨P,S⟩:=hm o p;rw[fO,if_pos d];grind
def xP(b c:Ρ)(a:an)(d:Ρ):Bool:=jk b c a.aT a.aS&&s9 d (fO b c a.aT a.aS).1
def Z0(a d:Ρ)(G L r x y z S:Own)(b:an)(h:Ρ)(T:α b.sum=32)(j:α h=α a)(l:α a<=8)(k:U):AC γ 272 [.agg (o1 a d G L r),.agg (ae b x y z),.J (ab h) S] k λV W=>W=k/\V=.v (.bool (xP a d b h)):=by
 have m:=(aN (O:=x) (e4:=y) (h5:=z) T).all;refine aM hm PM ?_;refine bp λC n=>?_;refine dk λP q s t=>?_;generalize u:ae b x y z=e at*;generalize o:(k.set C _).set P _=D;have E:k.sub D:=by subst o;exact aV
 have cl:D C=β (.cells (o1 a d G L r)):=by subst o;exact aV
 have v:D P=β (.cells e):=by subst o;exact aV
 clear o;refine gs (DR _ a d b.aT b.aS _ _ _ _ δ) λw c=>?_;have A:=κ (c _ _ cl);refine aO λf F=>?_;have g:C≠f:=by rintro rfl;rw[c _ _ cl]at F;cases F
 have B:=g.symm;have H:=Μ (ο E c) F;refine aa ?_;refine aH (λp=>?_) λp=>?_
 .obtain⟨i,c2⟩:=E0 p;refine bd (YD r _ _ _ _ _ h _ i δ) ?_;refine⟨ο E c,aX ?_⟩;rw[xP,p,a4q]
 .refine⟨ο E c,aX ?_⟩;rw[xP,p,a5b]
abbrev kg(a:an)(b c d:Own)(h k:Nat)(id o:Int):Χ:=ae a b c d++[.v (.int .u64 (h:Int)),.v (.int .u64 (k:Int)),.v (.int .i64 id),.v (.int .i64 o)]
def qw(a:an)(b:R):Prop:=α a.sum=32/\a.cH/\∃c d h k o id p,b=.agg (kg a c d h k o id p)
variable{b1:Int}{w j0:an}{O e4 h5:Own}
theorem uc{id:Int}(d:α w.sum=32):(kg w O e4 h5 e i id b1).length=41/\(kg w O e4 h5 e i id b1).take 41=kg w O e4 h5 e i id b1/\(kg w O e4 h5 e i id b1).take 37=ae w O e4 h5/\
  ((kg w O e4 h5 e i id b1).drop 37).take 2=[.v (.int .u64 (e:Int)),.v (.int .u64 (i:Int))]/\aP ι 1 ((kg w O e4 h5 e i id b1).drop 39)=.v (.int .i64 id)/\aP ι 1 ((kg w O e4 h5 e i id b1).drop 40)=.v (.int .i64 b1):=by
 have c:=(aN (O:=O) (e4:=e4) (h5:=h5) d).len;have a:∀b,(kg w O e4 h5 e i id b1).drop (37+b)=[R.v (.int .u64 (e)),.v (.int .u64 (i)),.v (.int .i64 id),.v (.int .i64 b1)].drop b:=λb=>by
  rw[a4z,a3D δ,c,a5r,a3l]
 have h:(kg w O e4 h5 e i id b1).length=41:=by rw[a2V,c];rfl
 refine⟨h,a2U δ,?_,?_,?_,?_⟩;simp_all
 .rw[a 0];rfl
 .rw[a 2];rfl
 .rw[a 3];rfl
theorem Z1(E:qw w q)(F:qw j0 b7):∃G:Int,∀k,AC γ 216 [q,b7] k λL P=>P=k/\L=.v (.int .i64 G):=by
 obtain⟨S,_,r,x,y,a,b,id,o,rfl⟩:=E;obtain⟨T,_,z,C,D,c,d,h,p,rfl⟩:=F;have V:=uc (O:=r) (e4:=x) (h5:=y) (e:=a) (i:=b) (id:=id) (b1:=o) S;have W:=uc (O:=z) (e4:=C) (h5:=D) (e:=c) (i:=d) (id:=h) (b1:=p) T;refine⟨if qt a b c d=0 then(if id=h then IntKind.i64.wrap (o - p)else if id<h then -1 else 1)else qt a b c d,λk=>?_⟩;generalize kg w r x y a b id o=e at*;generalize kg j0 z C D c d h p=f at*;refine aM hm Ob ?_;refine bp λg i=>?_;refine dk λj l a b=>?_;refine bd (DP _ _ _ _ _) ?_
 repeat' first|refine aH (λ_=>?_) λ_=>?_|trivial
 all_goals simp_all
theorem Z2(c d:Ρ)(k o h:Own)(a:Nat)(p:a<=1000000000000)(b:U):AC γ 213 [.agg (o1 c d k o h),.v (.int .i64 (a:Int))] b λy z=>z=b/\y=.v (.bool (dD c d a)):=by
 have r:=λb=>u4 fs h a b p ρ;simp only[qu]at r;refine aM hm O7 ?_;refine bp λC F=>?_;refine aH (λD=>?_) λD=>?_
 .refine aH (λc2=>?_) λc2=>?_
  .refine bd (nJ _ c d _ _ _ p) ?_;refine aH (λaE=>?_) λaE=>?_
   .trivial
   .have E:decide (1<=a/\a<=8)=true:=decide_eq_true δ;have x:=r (b.set C (.cells (o1 c d k o h)));rw[E]at x;exact bd x trivial
  grind[dD,mH]
 grind[dD,mH]
def fP(k o:U)(a:Χ)(c:R):Prop:=
 k.sub o/\(∀p∈a,α p.cells=41)/\((a=[]/\(c=.J [] .nil\/c=.J [] .zero))\/∃d h post b,k d=ε/\o d=β (.cells (h++flat a++post))/\α a<=b/\b<=maxLen/\α a*41+α post=b*41/\
  ((c=.aq d (α a) b 41/\h=[])\/c=.bB d (α h) (α a) b 41))
def fP.mono{a:R}(c:fP f u g a)(b:u.sub e1):fP f e1 g a:=by obtain⟨d,h,k⟩:=c;refine⟨ο d b,h,k.imp_right ?_⟩;rintro⟨o,p,post,r,x,y,z⟩;exact⟨o,p,post,r,x,b _ _ y,z⟩
def fP.len(a:fP f u g q):fY q=β (.v (.int .i64 (α g:Int)))/\q.cells=[q]:=by obtain⟨_,_,⟨rfl,rfl|rfl⟩|⟨b,c,post,d,_,_,_,_,_,⟨rfl,_⟩|rfl⟩⟩:=a<;>exact⟨rfl,rfl⟩
def fP.other{o:bl}(c:fP f u g q)(d:f e=ε)(h:cG q≠β e):fP f (u.set e o) g q:=by
 obtain⟨k,p,r⟩:=c;refine⟨μ k d,p,r.imp_right ?_⟩;rintro⟨a,x,post,y,z,C,D,E,F,b⟩;have G:a≠e:=by rintro rfl;rcases b with⟨rfl,_⟩|rfl<;>exact h rfl
 exact⟨a,x,post,y,z,by rw[ξ _ _ G];exact C,D,E,F,b⟩
def aw.other{o:bl}(b:aw f u i g q)(c:f e=ε)(d:cG q≠β e):aw f (u.set e o) i g q:=by
 obtain⟨h,k⟩:=b;refine⟨μ h c,k.imp_right ?_⟩;rintro⟨a,p,r,x,rfl,y,z,C⟩;have D:a≠e:=by rintro rfl;exact d rfl
 exact⟨a,p,r,x,rfl,y,by rw[ξ _ _ D];exact z,C⟩
variable{s Z:R -> U -> Prop}
theorem fP.app{E:R}{l:cy s}(m:fP u f g b7)(n:α q.cells=41)(t:c8 f 41 E=β (1,q.cells))(Q:α g<=100000000)
  (F:∀c z,fP u z (g++[q]) c->(∀a,cG c=β a->cG b7=β a\/f a=ε)->(∀a,cG b7≠β a->f a≠ε->z a=f a)->s c z):lC 41 152 f b7 E (bX s l):=by
 obtain⟨C,v,w⟩:=m;have G:∀L∈g++[q],α L.cells=41:=λL X=>by
  grind
 have P:flat (g++[q])=flat g++q.cells:=by simp[flat]
 have S:=cT v;unfold lC;rw[uX t];simp only[bX];have Y:∀(k o:Nat)(x:Χ),f k=ε->α g+1<=o->o<=maxLen->α x=(o -(α g+1))*41->s (.aq k (α g+1) o 41) (f.set k (.cells (flat g++q.cells++x))):=λk o x T r hm Z=>by
  have V:=Μ C T;refine F _ _ ⟨μ C V,G,.inr ⟨k,[],x,o,V,?_,?_,hm,?_,.inl ⟨?_,rfl⟩⟩⟩ (λa p=>?_) λa p A=>?_
  .rw[ν,P];rfl
  .simpa using r
  grind
  .rw[a2V];rfl
  grind[cG,Option.some.injEq]
  .have:a≠k:=by rintro rfl;exact A T
   exact ξ _ _ this
 rcases w with⟨rfl,B⟩|⟨d,b,post,h,W,e,k0,H,k2,I⟩
 .rcases B with rfl|rfl;simp_all;simp_all
 .have K:α g+1<=h->∃y,putAt (b++flat g++post) (α b+α g*41) q.cells=b++flat (g++[q])++y/\(α g+1)*41+α y=h*41:=λr=>by
   refine⟨post.drop 41,?_,by rw[a3i];omega⟩;have D:(b++flat g).length=α b+α g*41:=by simp_all
   rw[putAt,<-D,a5w,<-a3G,a5y,n,P];simp
  have i:∀c,cG b7=β d->cG c=β d->((c=.aq d (α g+1) h 41/\b=[])\/c=.bB d (α b) (α g+1) h 41)->α g+1<=h->s c (f.set d (.cells (putAt (b++flat g++post) (α b+α g*41) q.cells))):=λc j M N r=>by
   obtain⟨y,D,O⟩:=K r;rw[D];refine F _ _ ⟨μ C W,G,.inr ⟨d,b,y,h,W,ν _ _ _,by simpa using r,H,by simpa using O,?_⟩⟩ (λa p=>.inl ?_) λa p _=>?_
   .simpa using N
   .rw[M]at p;rw[j];exact p
   .have:a≠d:=by rintro rfl;exact p j
    exact ξ _ _ this
  rcases I with⟨rfl,rfl⟩|rfl
  .simp only[e];refine⟨trivial,by simp[S];omega,δ,δ,?_⟩;split
   .have:=i (.aq d (α g+1) h 41) rfl rfl (.inl ⟨rfl,rfl⟩) ‹_›;simpa using this
   simp_all
  .simp only[e];refine⟨trivial,by simp[S];omega,δ,δ,?_⟩;split
   .exact i (.bB d (α b) (α g+1) h 41) rfl rfl (.inr rfl) ‹_›
   simp_all
abbrev kQ(a:Nat)(b c:Ρ)(d h k:Own)(o:Nat)(p:R)(r x y:Int)(z:R):Χ:=
 [.ptr a 0,.J (ab b) d,.J (ab c) h,.v (.int .u8 0),.v (.int .i64 0),.J [] k,.v (.int .i64 1),.v (.bool ι),.v (.int .i64 (o:Int)),p,.v (.int .i64 r),.v (.int .i64 x),.v (.int .i64 y),z]
structure hx where
 fQ:Nat
 aT:Ρ
 aS:Ρ
 gg:Own
 ec:Own
 gU:Own
 d:Nat
structure dA(A:hx)(b c:U)(a:Nat)(us:Χ)(L:R)(es:Χ)(o2:R):Prop where
 fX:b a=ε
 x:∃n mL d:Int,c a=β (.cells (kQ A.fQ A.aT A.aS A.gg A.ec A.gU A.d L n mL d o2))
 l:aw b c 1 us L
 w:fP b c es o2
 gA:cG L≠β a
 jm:cG o2≠β a
 lw:∀p,cG L=β p->cG o2≠β p
def dA.mono{c:hx}{d h k:U}{o:Nat}{p:Χ}{r:R}{x:Χ}{y:R}(a:dA c d h o p r x y)(b:h.sub k):dA c d k o p r x y:=
 ⟨a.fX,by obtain⟨z,C,D,a⟩:=a.x;exact⟨z,C,D,b _ _ a⟩,a.l.mono b,a.w.mono b,a.gA,a.jm,a.lw⟩
theorem dA.set{b:hx}{k o:U}{c:Nat}{p:Χ}{d:R}{r:Χ}{h:R}(a:dA b k o c p d r h)(x y z:Int):dA b k (o.set c (.cells (kQ b.fQ b.aT b.aS b.gg b.ec b.gU b.d d x y z h))) c p d r h:=
 ⟨a.fX,⟨x,y,z,ν _ _ _⟩,aw.other a.l a.fX a.gA,a.w.other a.fX a.jm,a.gA,a.jm,a.lw⟩
def aw.has(b:aw u f i g q)(a:cG q=β e):f e≠none:=by
 obtain⟨_,⟨_,rfl|rfl⟩|⟨d,h,k,o,rfl,_,c,_⟩⟩:=b
 .cases a
 .cases a
 .obtain rfl:=Δ a;rw[c];simp
def fP.has(a:fP u f g q)(b:cG q=β e):f e≠none:=by
 obtain⟨_,_,⟨_,rfl|rfl⟩|⟨d,h,post,k,_,c,_,_,_,⟨rfl,_⟩|rfl⟩⟩:=a
 .cases b
 .cases b
 all_goals (obtain rfl:=Δ b;rw[c];exact λa=>by cases a)
def aw.fG(c:aw f e1 e g q)(d:f.sub u)(h:∀a,cG q=β a->u a=e1 a):aw f u e g q:=by obtain⟨C,k⟩:=c;refine⟨d,k.imp_right ?_⟩;rintro⟨b,o,p,r,rfl,x,y,z⟩;exact⟨b,o,p,r,rfl,x,(h b rfl).trans y,z⟩
structure E1(A:hx)(b:U)(c:Nat)(L o2:R)(a:Nat):Prop where
 n:b a=ε
 x:a≠c
 l:cG L≠β a
 w:cG o2≠β a
def dA.fresh{d:hx}(a:dA d f u e g q A b7)(b:u i=ε):E1 d f e q b7 i:=
 ⟨Μ a.l.1 b,(by obtain⟨_,_,_,h⟩:=a.x;rintro rfl;rw[b]at h;cases h),(λc=>aw.has a.l c b),λc=>a.w.has c b⟩
def dA.wr{c:hx}(a:dA c f u e g q A b7)(b:E1 c f e q b7 i)(d:bl):dA c f (u.set i d) e g q A b7:=
 ⟨a.fX,(by obtain⟨h,k,o,p⟩:=a.x;exact⟨h,k,o,(ξ _ _ b.x.symm).trans p⟩),aw.other a.l b.n b.l,a.w.other b.n b.w,a.gA,a.jm,a.lw⟩
def qx(p:α g=37)(a b c d:R):(g++[a,b,c,d]).length=41/\(g++[a,b,c,d]).take 41=g++[a,b,c,d]/\(∀h o,putAt (g++[a,b,c,d]) 37 [h,o]=g++[h,o,c,d])/\(∀h,putAt (g++[a,b,c,d]) 39 [h]=g++[a,b,h,d])/\∀h,putAt (g++[a,b,c,d]) 40 [h]=g++[a,b,c,h]:=by
 have r:∀k,(g++[a,b,c,d]).take (37+k)=g++[a,b,c,d].take k:=λk=>by rw[a5U,p,a2U δ,a5r]
 have x:∀k,(g++[a,b,c,d]).drop (37+k)=[a,b,c,d].drop k:=λk=>by rw[a4z,p,a3D δ,a3l,a5r]
 have y:(g++[a,b,c,d]).length=41:=by rw[a2V,p];rfl
 refine⟨y,a2U δ,λh o=>?_,λh=>?_,λh=>?_⟩
 .show(g++[a,b,c,d]).take (37+0)++[h,o]++(g++[a,b,c,d]).drop (37+2)= _;rw[r,x];simp
 .show(g++[a,b,c,d]).take (37+2)++[h]++(g++[a,b,c,d]).drop (37+3)= _;rw[r,x];simp
 .show(g++[a,b,c,d]).take (37+3)++[h]++(g++[a,b,c,d]).drop (37+4)= _;rw[r,x];simp
abbrev Z3:Χ:=ζ 32 (R.v (.int .u8 0))++[.J [] .nil,.J [] .nil]++[.v (.int .i64 0),.v (.int .i64 0)]++[.J [] .nil]++[.v (.int .u64 0),.v (.int .u64 0)]++[.v (.int .i64 0),.v (.int .i64 0)]
def Z4(a:α g=37):putAt Z3 0 g=g++[.v (.int .u64 0),.v (.int .u64 0),.v (.int .i64 0),.v (.int .i64 0)]:=by rw[putAt,a];rfl
theorem E2(a:hx)(k2 e:U)(c:Nat)(k3:Χ)(f:R)(z:Χ)(u:R)(C:dA a k2 e c k3 f z u)(b:an)(D E F:Own)(v:α b.sum=32)(n9:b.cH)(a52:α a.aT<=8)(a56:α z<=100000000):
  AC γ 214 [.ptr c 0,.agg (ae b D E F)] e λ_ k4=>∃a00 w,dA a k2 k4 c k3 f w a00/\if dY a.aT a.aS b=η then∃k5,qw b k5/\w=z++[k5]else w=z:=by
 obtain⟨g,i,h,A⟩:=C.x;have a01:=(aN (O:=D) (e4:=E) (h5:=F) v).all;refine aM hm O9 ?_;refine bp λj a02=>?_;have k6:j≠c:=by rintro rfl;rw[a02]at A;cases A
 have a57:=k6.symm;rw[hg];generalize B:e.set j _=G;have k7:e.sub G:=by subst B;exact aV
 have cl:G j=β (.cells (ae b D E F)):=by subst B;exact ν _ _ _
 have k8:=C.mono k7;have H:=k7 _ _ A;clear B;generalize I:ae b D E F=L at*;have a03:=κ cl;have fe:=κ H;have a04:=χ H;refine aa ?_;rw[<-I];refine bd (YZ a.aT a.aS _ _ _ _ _ _ b v δ G) ?_;rw[I];refine aH (λK=>?_) λK=>?_;grind;have a61:br .add (.int .i64 h) (.int .i64 1)=β (.int .i64 (IntKind.i64.wrap (h+1))):=rfl;obtain⟨a62,a63⟩:=C.w.len;have a65:=fi C.l;have r:=a01.1;have a05:=Z4 r;obtain⟨a06,_,_,_,M⟩:=qx r (.v (.int .u64 0)) (.v (.int .u64 0)) (.v (.int .i64 0)) (.v (.int .i64 0));have M:=M (.v (.int .i64 (IntKind.i64.wrap (h+1))));have a07:=(qx r (.v (.int .u64 0)) (.v (.int .u64 0)) (.v (.int .i64 0)) (.v (.int .i64 (IntKind.i64.wrap (h+1))))).1;have a68:=(qx r (.v (.int .u64 0)) (.v (.int .u64 0)) (.v (.int .i64 0)) (.v (.int .i64 (IntKind.i64.wrap (h+1))))).2.1;generalize l:R.v (.int .i64 (IntKind.i64.wrap (h+1)))=T at*;generalize a69:L++[R.v (.int .u64 0),.v (.int .u64 0),.v (.int .i64 0),.v (.int .i64 0)]=a71 at*;generalize a08:L++[R.v (.int .u64 0),.v (.int .u64 0),.v (.int .i64 0),T]=P at*;have a73:T.cells=[T]:=by subst l;rfl
 refine aa ?_;have m:=k8.set g i (IntKind.i64.wrap (h+1));simp only[kQ,l]at m;refine aO λx o=>?_;have a09:=m.fresh o;have a10:j≠x:=by rintro rfl;rw[ξ _ _ k6,cl]at o;cases o
 have a74:=a10.symm;have k9:c≠x:=by rintro rfl;rw[ν]at o;cases o
 have a81:=k9.symm;refine aa ?_;have hm:jk a.aT a.aS b.aT b.aS=true:=by rw[dY,Ξ]at K;exact K.2
 obtain⟨bm,a11⟩:=E0 hm;have l0:=ν G c (.cells [.ptr a.fQ 0,.J (ab a.aT) a.gg,.J (ab a.aS) a.ec,.v (.int .u8 0),.v (.int .i64 0),.J [] a.gU,.v (.int .i64 1),.v (.bool ι),.v (.int .i64 (a.d)),f,.v (.int .i64 g),.v (.int .i64 i),T,u]);generalize G.set c _=l1 at*;have l2:=m.mono (μ (X:=.cells P) θ o);have l3:=μ (X:=.cells P) θ o _ _ l0;have l4:=ν l1 x (.cells P);generalize l1.set x _=a83 at*;clear l0 o m fe a04 H k8 cl a03 C a05 a06 M a07;refine gs (DR _ a.aT a.aS b.aT b.aS _ _ _ _ δ) λa13 n=>?_;refine aO λN p=>?_;have a14:=l2.mono (ο n (μ (X:=.cells [.J (ab (fO a.aT a.aS b.aT b.aS).1) .any,.J (ab (fO a.aT a.aS b.aT b.aS).2) .any]) θ p));have q:=n _ _ l3;have s:=n _ _ l4;have l5:c≠N:=by rintro rfl;rw[q]at p;cases p
 have a15:=l5.symm;have l6:x≠N:=by rintro rfl;rw[s]at p;cases p
 have a16:=l6.symm;have a18:=κ q;have a19:=κ s;refine aa ?_;generalize a84:(fO a.aT a.aS b.aT b.aS).1=S at*;generalize (fO a.aT a.aS b.aT b.aS).2=O at*;have l7:=μ (X:=.cells [.J (ab S) .any,.J (ab O) .any]) θ p _ _ q;have a27:=μ (X:=.cells [.J (ab S) .any,.J (ab O) .any]) θ p _ _ s;generalize a13.set N _=Q at*;refine bd (DV a.gU _ _ S O Q bm) ?_;obtain⟨y,a29⟩:∃X,mS (S.getD 0 0)=X:=⟨_,rfl⟩;obtain⟨id,a30⟩:∃X,S.getD 0 0=X:=⟨_,rfl⟩;rw[a30]at a29;clear a18 a19 p l5 l6 a15 a16 q s n l3 l4 l2 bm a11;have a86:=χ a27;have a88:=κ l7;have a89:α P=41:=by grind
 have a90:putAt P 37 [.v (.int .u64 0),.v (.int .u64 (y))]=L++[.v (.int .u64 0),.v (.int .u64 (y)),.v (.int .i64 0),T]:=by subst a08;exact(qx r _ _ _ _).2.2.1 _ _
 obtain⟨a92,_,_,l8,_⟩:=qx r (.v (.int .u64 0)) (.v (.int .u64 (y))) (.v (.int .i64 0)) T;have l8:=l8 (.v (.int .i64 id));obtain⟨l9,a94,_⟩:=qx r (.v (.int .u64 0)) (.v (.int .u64 (y))) (.v (.int .i64 id)) T;generalize L++[R.v (.int .u64 0),.v (.int .u64 (y)),.v (.int .i64 0),T]=a95 at*;generalize a34:L++[R.v (.int .u64 0),.v (.int .u64 (y)),.v (.int .i64 id),T]=k at*;refine aa ?_;have a36:=a14.wr a09 (.cells k);have a38:(Q.set x (.cells k)) c=β (.cells [.ptr a.fQ 0,.J (ab a.aT) a.gg,.J (ab a.aS) a.ec,.v (.int .u8 0),.v (.int .i64 0),.J [] a.gU,.v (.int .i64 1),.v (.bool ι),.v (.int .i64 (a.d)),f,.v (.int .i64 g),.v (.int .i64 i),T,u]):=(ξ _ _ k9).trans l7;generalize Q.set x _=n0 at*;refine iv (by simp[bc,hg,l9]) ρ λY n1=>?_;have d:=a36.mono (μ (X:=.cells (flat [R.agg k])) θ n1);have t:=μ (X:=.cells (flat [R.agg k])) θ n1 _ _ a38;have a42:c8 (n0.set Y (.cells (flat [R.agg k]))) 41 (.aq Y 1 1 41)=β (1,(R.agg k).cells):=by simp_all [flat,κ,ν,hg,c8]
 generalize n0.set Y _=a43 at*;have fe:=κ t;refine aa ?_;refine fP.app (q:=.agg k) d.w l9 a42 δ λn2 k4 Z n3 n4=>?_;have a47:=(n4 c d.jm (by rw[t];simp)).trans t;have a96:=χ a47;have a97:=Z.len.2;refine aa ?_;have a48:a43 c≠none:=by rw[t];simp
 have n5:cG n2≠β c:=λk0=>(n3 c k0).elim d.jm a48;refine⟨_,θ,n2,z++[.agg k],⟨d.fX,⟨g,i,IntKind.i64.wrap (h+1),by subst l;exact ν _ _ _⟩,aw.other (aw.fG d.l Z.1 λV W=>n4 V (d.lw V W) (aw.has d.l W)) d.fX d.gA,Z.other d.fX n5,d.gA,n5,λV W k0=>(n3 V k0).elim (d.lw V W) (aw.has d.l W)⟩,.agg k,⟨v,n9,D,E,F,0,y,id,IntKind.i64.wrap (h+1),?_⟩,rfl⟩;subst l;subst a34;subst I;rfl
def aw.wide(p:aw u f e g q):∃o,aw o f e g q/\u.sub o/\o.sub f/\∀k b,f k=β b->cG q≠β k->o k=β b:=by
 obtain⟨r,x|⟨d,y,z,C,rfl,D,E⟩⟩:=p
 .exact⟨f,⟨θ,.inl x⟩,r,θ,λ_ _ p _=>p⟩
 .refine⟨f.del d,⟨λh b a=>?_,.inr ⟨d,y,z,C,rfl,U.hC _ _,E⟩⟩,λh b a=>?_,λh b a=>?_,λk b F G=>?_⟩
  .have c:h≠d:=by rintro rfl;rw[U.hC]at a;cases a
   rwa[U.eg _ c]at a
  .have c:h≠d:=by rintro rfl;rw[D]at a;cases a
   rw[U.eg _ c];exact r h b a
  .have c:h≠d:=by rintro rfl;rw[U.hC]at a;cases a
   rwa[U.eg _ c]at a
  .have c:k≠d:=by rintro rfl;exact G rfl
   rw[U.eg _ c];exact F
def aw.fresh(b:aw f u i g q)(a:cG q=β e):f e=none:=by
 obtain⟨_,⟨_,rfl|rfl⟩|⟨d,h,k,o,rfl,c,_⟩⟩:=b
 .cases a
 .cases a
 .obtain rfl:=Δ a;exact c
def fP.fG(h:fP f e1 g q)(k:f.sub u)(o:∀a b,cG q=β a->e1 a=β b->u a=β b):fP f u g q:=by obtain⟨G,p,r⟩:=h;refine⟨k,p,r.imp_right ?_⟩;rintro⟨c,x,post,y,z,C,D,E,F,d⟩;refine⟨c,x,post,y,z,o c _ ?_ C,D,E,F,d⟩;rcases d with⟨rfl,_⟩|rfl<;>rfl
theorem aC.flat{b:List Ρ}{a:Χ}(h:aC isRow b a):flat a=a:=by
 induction a generalizing b with
 |nil=>rfl
 |cons o a ih=>
  match b,h with
  |c::b,⟨⟨d,h1⟩,k⟩=>subst h1;rw[show Go.bt.flat (R.J (ab c) d::a)=[R.J (ab c) d]++Go.bt.flat a from rfl,ih k];rfl
theorem Z5(a:hx)(n F:U)(y:Nat)(V:Χ)(o:List Ρ)(G:R)(q:Χ)(L:R)(r:dA a n F y V G q L)(s:aC isRow o V)(n4:∀b∈o,α b=a.d)(Q:1<=a.d)(X:a.d<=8)(n5:α a.aT=a.d)(n9:α o<=1)(b:Ρ)(P:Bool)(c:Own)(a00:α b=a.d):
  AC γ 218 [.ptr y 0,.agg [.J (ab b) c,.v (.bool P)]] F λ_ Y=>∃t D Z,dA a n Y y t Z q L/\aC isRow D t/\if(P&&iE a.aT a.aS b)=η then∃h,D=[h]/\(h=b\/h∈o)else D=o:=by
 obtain⟨k0,k2,k3,S⟩:=r.x;refine aM hm Of ?_;refine bp λW k4=>?_;rw[hg];have k5:W≠y:=by rintro rfl;rw[k4]at S;cases S
 have a01:=k5.symm;generalize e:F.set W _=E;have u:F.sub E:=by subst e;exact aV
 have cl:E W=β (.cells [.J (ab b) c,.v (.bool P)]):=by subst e;exact ν _ _ _
 have k6:=r.mono u;have f:=u _ _ S;clear e;have a02:=κ cl;have fe:=κ f;have a03:=χ f;cases P with
 |false=>refine aa ?_;grind
 |true=>
 refine aa ?_;refine bd (Yw E a.aT a.aS b _ _ _ δ) ?_;refine aH (λk7=>?_) λk7=>?_;grind;refine iv (by simp[bc,τ]) ρ λg v=>?_;have k:=k6.mono (μ (X:=.cells (flat [R.J (ab b) c])) θ v);have w:=μ (X:=.cells (flat [R.J (ab b) c])) θ v _ _ f;have k8:c8 (E.set g (.cells (flat [R.J (ab b) c]))) 1 (.aq g 1 1 1)=β (1,[R.J (ab b) c]):=nK rfl;generalize E.set g _=A at*;have a04:=fi r.l;have B:=s.len;obtain⟨a05,k9,H,a06,i⟩:=aw.wide k.l;refine aa ?_;refine fx k9 δ k8 rfl (by simp[B];omega) (by simp[B];omega) λl0 I z=>?_;have j:=z.1 _ _ (i y _ w k.gA);have a07:=κ j;refine aa ?_;have l:aC isRow (o++[b]) (V++[.J (ab b) c]):=s.snoc ⟨c,rfl⟩;have l1:=bM.dC z δ l.flat.symm (l.cells λ_ _=>φ);refine ak (YX a.gU a.d Q X (o++[b]) _ l0 I l1 l (λa08 S=>?_) Κ ρ) ?_;grind;rintro l2 l3⟨l4,D,p,K,M⟩;have l5:=M.1 _ _ j;have a09:=κ l5;refine aa ?_;refine ak (YY a.aT a.aS a.gg a.ec a.gU I l3 _ l2 M) ?_;rintro T l6 x;have a10:=fi x;have N:=x.1 _ _ j;have a11:=χ N;have a13:=κ N;refine aa ?_;rw[K.flat]at x;have l7:∀ {h c},A h=β c->cG G≠β h->l6 h=β c:=λr m=>x.1 _ _ (z.1 _ _ (i _ _ r m));have l8:=ο H (ο z.1 x.1);have l9:∀ {d},cG T=β d->∀ {c},A d=β c->cG G≠β d->False:=λp _ r m=>by
  have:=aw.fresh x p;rw[z.1 _ _ (i _ _ r m)]at this;cases this
 have O:cG T≠β y:=λC=>l9 C w k.gA;have n0:∀d,cG L=β d->cG G≠β d:=λd p C=>k.lw d C p;have n1:∀d,cG T=β d->cG L≠β d:=λd p C=>by
  have a14:=k.w.has C;simp_all [Option.ne_none_iff_exists']
 have n2:D≠[]:=λC=>by simp_all
 obtain⟨h,a15,rfl⟩:=a5F n2;refine⟨_,θ,l4.take 1,[h],T,⟨k.fX,⟨k0,k2,k3,ν _ _ _⟩,aw.other (x.base (ο H z.1)) k.fX O,(fP.fG k.w l8 λd c p n3=>l7 n3 (n0 d p)).other k.fX k.jm,O,k.jm,n1⟩,K.take 1,h,rfl,?_⟩;have:h∈o++[b]:=p.mem_iff.1 ρ;grind
theorem Z6(a:hx)(L p:U)(r:Nat)(z:Χ)(x:List Ρ)(C:R)(P:Χ)(S:R)(D:dA a L p r z C P S)(y:aC isRow x z)(j:∀b∈x,α b=a.d)(H:a.d<=8)(I:α a.aT=a.d)(c:an)(d h k:Own)(T:α c.sum=32):
  AC γ 217 [.ptr r 0,.agg (ae c d h k)] p λb l=>dA a L l r z C P S/\∃V,b=.v (.bool V)/\(V=η->α x=1):=by
 obtain⟨K,M,N,E⟩:=D.x;have O:=(aN (O:=d) (e4:=h) (h5:=k) T).all;have m:=y.len;obtain⟨Q,W,_,X⟩:=D.l.src;rw[a3M,m]at W;subst W;refine aM hm Od ?_;refine bp λF n=>?_;rw[hg];have q:F≠r:=by rintro rfl;rw[n]at E;cases E
 have Y:=q.symm;generalize G:p.set F _=o;have e:p.sub o:=by subst G;exact aV
 have cl:o F=β (.cells (ae c d h k)):=by subst G;exact ν _ _ _
 have s:=D.mono e;have t:=e _ _ E;clear G;generalize u:ae c d h k=Z at*;have k0:=κ cl;have fe:=κ t;refine aa ?_;refine aH (λv=>?_) λv=>?_
 .obtain⟨b,rfl⟩:=a4M.1 (show α x=1 by omega);have w:=bM.dC s.l δ y.flat.symm (y.cells λ_ _=>φ);obtain⟨_,A,f,rfl⟩:=y.get (i:=0) rfl;obtain⟨g,i,B⟩:=w.get 0 _ A;have i:cJ 1 C (.v (.int .i64 0))=β g:=i;have k2:cV ι 1 o g=β (.J (ab b) f):=B.ld o θ ι 1 δ (by simp[τ]);have k3:=j b ρ;have k4:((1:Nat):Int) - 1=0:=rfl;refine aa ?_;rw[<-u];refine bd (Z0 a.aT a.aS a.gg a.ec a.gU d h k f c b T δ δ o) ?_;grind
 grind
end Go.Proofs.YtcfpcblgmmeioaaGreat
