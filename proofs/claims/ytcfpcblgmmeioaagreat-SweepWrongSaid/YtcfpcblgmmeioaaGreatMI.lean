import Derived.Test.YtcfpcblgmmeioaaGreatMH
import Derived.Test.YtcfpcblgmmeioaaGreatME
import Derived.Test.YtcfpcblgmmeioaaGreatMG
import Derived.Test.YtcfpcblgmmeioaaGreatMC
import Derived.ProofKit
import Derived.OpenShut
import Derived.WideKeyArgs
import Derived.Test.YtcfpcblgmmeioaaGreatRows
import Derived.JoinedOf
set_option linter.all false
open Option renaming some->β,none->ε
open Go.Proofs.Tryz renaming prog->γ
open List renaming replicate->ζ,length->α
open Bool renaming true->η,false->ι
open Go.bt.U renaming a6->θ,af->κ,ag->μ,aj->ν,au->ο,set_set->σ,aK->χ,bH->Μ
open UInt8 renaming ofNat->ς
open Go.bt.R renaming cells->τ
open Go.Proofs.YtcfpcblgmmeioaaGreat.isRow renaming cells->φ
open Go.Proofs.YtcfpcblgmmeioaaGreat.Ext renaming of->ω
set_option maxRecDepth 100000
namespace Go.Proofs.YtcfpcblgmmeioaaGreat
open Go Go.bt
def yW{x:ad}{k:Nat}(d:1<=k)(h:k<=8):∀(a:Nat)(b:a1.T a),ee k a b->eG x a b->lX x k (bN a b)
 |0,b,c,o=>.node (se d h c o) (lP d h 0 b c).1.xp λy p=>by cases p
 |a+1,b,c,o=>.node (se d h c o) (lP d h (a+1) b c).1.xp λy p=>by
  obtain⟨r,z,rfl⟩:=a3m.1 (show y∈(a1.kids b).map (bN a)from p);exact yW d h a r (c.kids r z) (o.2 r z)
def FO{C:ad}{p:Nat}(r:1<=p)(x:p<=8):∀(a:Nat)(d:a1.T a)(h:Nat)(c:List Τ),ee p a d->eG C a d->bO (bN a d)<h->eI C p h (bN a d) c=uH a d c
 |_,_,0,_,_,_,a=>by omega
 |0,d,h+1,c,k,z,F=>by
  rw[eI,if_neg (qm r x k).ne,se r x k z];rfl
 |a+1,d,h+1,c,k,z,F=>by
  have D:=se r x k z;rw[eI,if_neg (qm r x k).ne,D,uH];show((a1.kids d).map (bN a)).foldl _ _= _;rw[List.foldl_map];have G:∀(o:List (a1.T a))(c:List Τ),(∀b∈o,b∈a1.kids d)->o.foldl (λd b=>eI C p h (bN a b) d) c=o.foldl (λc b=>uH a b c) c:=λo=>by
   induction o with
   |nil=>intro c _;rfl
   |cons b o ih=>intro c E;have y:=E b ρ;have S:=ss D (w:=bN a b) (a3m.2 ⟨b,y,rfl⟩);rw[a3I,a3I,FO r x a b h c (k.kids b y) (z.2 b y) δ];exact ih _ λL P=>E L (by simp[P])
  exact G _ _ λb y=>y
def FP(a:ad)(b:List Τ):Prop:=∀c,la a b c
variable{w j0:an}{j4:List Τ}{e i v M b9 h9:Nat}{H:ad}
def a1z(a:1<=e)(b:e<=8)(c:lX H e w)(d:FP H j4):lU H e w j4=(0,eI H e (bO w+1) w j4)/\FP H (eI H e (bO w+1) w j4):=by refine⟨(yV (FL H) a b (bO w+1) w j4 (bO w+1) c δ δ (d _)).eq,λh=>?_⟩;exact(yV (FL H) a b (bO w+1) w j4 (h+bO w+1) c δ δ (d _)).cl.le δ
def FQ{b:ad}{p:Nat}:∀(h:Nat)(c:an)(d:List Τ),lX b p c->bO c<h->fC b p (kS b) h c d=(0,d)
 |0,_,_,_,r=>by omega
 |h+1,c,d,y,F=>by
  rw[fC];by_cases a:c=aB
  .rw[if_pos a]
  rw[if_neg a];cases y with
  |nil=>exact absurd rfl a
  |node x G hk=>
   rename_i z;have hm:(b.m c.sum).isSome=true:=by rw[yU x];rfl
   simp only[kS,hm,if_true,x];have C:∀k:List an,(∀a∈k,a∈z.kids)->lT (fC b p (kS b) h) k d=(0,d):=λk=>by
    induction k with
    |nil=>intro _;rfl
    |cons a k ih=>intro r;have o:=r a ρ;rw[lT,FQ h a d (hk a o) (by have:=ss x o;omega),if_pos rfl];exact ih λD E=>r D (by simp[E])
   exact C _ λa o=>o
inductive fW where
 |row (r:Ρ)
 |tree (h:Nat) (t:a1.T h)
def fW.it:fW->oZ
 |.row a=>.row a
 |.tree b c=>.gk (bN b c)
def fW.all:fW->List Ρ
 |.row a=>[a]
 |.tree b c=>a1.aW b c
def fW.ok(d:ad)(a:Nat):fW->Prop
 |.row h=>bF a h
 |.tree b c=>ee a b c/\eG d b c
def fW.a1A:fW->Nat
 |.row _=>0
 |.tree a b=>2*(a1.aW a b).length - 1
def uK(a:List fW):List Ρ:=a.flatMap fW.all
def uL(a:List fW):Nat:=(a.map fW.a1A).sum
def s0.swap(a:s0):s0:=⟨a.B,a.A,a.s3,a.gone,a.mL⟩
inductive su(d:Nat)(k o:List fW)(r c:List Ρ)(n:Int):List fW->List fW->List Ρ->List Ρ->Int->Prop where
 |alike (h:Nat) (t:a1.T h) (y:Nat) (z:a1.T y) (a b:List fW):k=.tree h t::a->o=.tree y z::b->(bN h t).sum=(bN y z).sum->su d k o r c n a b r c n
 |opened (a b:List fW) (C:Int):uK a=uK k->uK b=uK o->C+uL a+uL b<=n+uL k+uL o->su d k o r c n a b r c C
 |gone (p:Ρ) (a:List fW):k=.row p::a->(o=[]\/∃x b,o=.row x::b/\bq p x=η)->su d k o r c n a o (r++[p]) c n
 |s3 (x:Ρ) (b:List fW):o=.row x::b->(k=[]\/∃p a,k=.row p::a/\bq x p=η)->su d k o r c n k b r (c++[x]) n
 |both (p x:Ρ) (a b:List fW):k=.row p::a->o=.row x::b->bq p x=ι->bq x p=ι->su d k o r c n a b r c n
variable{n b6:Ρ}
def a1B(b:1<=e)(c:e<=8)(a:bF e n)(d:bF e b6)(h:bq n b6=η):bq b6 n=false:=by
 cases k:bq b6 n with
 |false=>rfl
 |true=>have:=(fB b c).trans n b6 n a d a h k;rw[p0]at this;cases this
def db(a:Ρ)(b:Nat):Ρ:=a.take b++ζ (b - α a) 0
abbrev a1C:=UInt8×Ρ
def a2F(a:a1C)(b:R):Prop:=∃c,b=.agg [ao a.1,.J (ab a.2) c]
structure a2G(d:Nat)(o b:U)(l h p:Nat)(r:ad)(n:Nat)(c:ad)(k:an)(t:ed)(a:R):Prop where
 ext:Ext l h o b
 fl:bh b l h c
 a2H:∃gg ec x,b p=β (.cells (ae k gg ec x))
 sum:α k.sum=32
 sh:k.cH
 sf:fo b t a
 go:hX d t
 ek:(dX t).length<=n
 le:r.le c
 rep:c.one=ι->k=kX t/\kY c t
def a1D(v:1<=e)(w:e<=8)(b:List Ρ)(o:Χ)(p:Own)(z:U)(C:aC isRow b o)(A:a1.gD bq b)(P:∀r∈b,bF e r)(Y:α b<=12):
  AC γ 143 [.J o p,.v (.int .i64 0),.v (.int .i64 (α b)),.bA 47 [] []] z λ_ d=>d=z:=by
 refine aZ hm Mu ρ ?_;have Z:=C.len;refine bJ ?_;refine cz (λc d=>∃h:Nat,1<=h/\h<=13/\d=z/\c 0=.J o p/\c 1=.v (.int .i64 0)/\c 2=.v (.int .i64 (α b))/\c 3=.bA 47 [] []/\c 8=.v (.int .i64 (h:Int)))
  (λc _=>match c 8 with|.v (.int _ B)=>13 - B.toNat|_=>0) ⟨1,δ,δ,rfl,?_⟩ ?_
 .exact jN
 rintro c H⟨h,k0,k2,rfl,D,E,F,G,x⟩;by_cases S:(h:Int)<(α b:Int)
 .obtain⟨a,rfl⟩:∃a,h=a+1:=⟨h - 1,δ⟩;have T:b[a+1]?=β b[a+1]:=Ν δ;have V:b[a]?=β b[a]:=Ν δ;have y:=a4m.1 A a (a+1) δ δ δ;have W:=P _ (a3r (l:=b) (n:=a) δ);have f:=P _ (a3r (l:=b) (n:=a+1) δ);generalize b[a+1]'δ=r at T y f;generalize b[a]'δ=L at V y W;obtain⟨k3,aM,g,rfl⟩:=C.get T;obtain⟨k4,I,i,rfl⟩:=C.get V;have K:cJ 1 (.J o p) (.v (.int .i64 ((a+1:Nat):Int)))=β (.bR [.J (ab r) g]):=by rw[fJ δ,a3p,aM];exact kA rfl
  have M:cJ 1 (.J o p) (.v (.int .i64 (a:Int)))=β (.bR [.J (ab L) i]):=by rw[fJ δ,a3p,I];exact kA rfl
  have N:∀d j l,cV ι 1 d (.bR [.J (ab j) l])=β (.J (ab j) l):=λ_ _ _=>rfl;have O:((a+1:Nat):Int) - 1=(a:Int):=δ;have Q:(0:Int)<((a+1:Nat):Int):=δ;have X:jY r L=1:=by unfold jY;rw[a1B v w W f y,if_neg Λ,if_pos y]
  refine ai (bx @D @E @F @G @x @S) ?_;refine cz (λk d=>d=H/\k 0=.J o p/\k 1=.v (.int .i64 0)/\k 2=.v (.int .i64 (α b))/\k 3=.bA 47 [] []/\k 8=.v (.int .i64 ((a+1:Nat):Int))/\k 9=.v (.int .i64 ((a+1:Nat):Int))) (λ_ _=>0) ⟨rfl,?_⟩ ?_
  .exact cn (ba @D @E @F @G @x)
  rintro k k5⟨rfl,m,n,q,s,t,u⟩;refine ai (ff @m @n @q @s @t @u @Q @K @N @O @M) ?_;refine eC Ο (wU r L g i _) ?_;rintro _ k6⟨rfl,rfl⟩;rw[X];refine ai (bx @m @n @q @s @t @u) ?_;exact⟨⟨a+1+1,δ,δ,rfl⟩,by simp only[x];omega⟩
 .refine ai (bx @D @E @F @G @x @S) ?_;exact⟨_,θ,rfl⟩
def a1E(x:1<=e)(y:e<=8)(a:List Ρ)(d:Χ)(h:Own)(k:U)(o:aC isRow a d)(z:a1.gD bq a)(C:∀D∈a,bF e D)(E:α a<=12):
  AC γ 46 [.J d h,.bA 47 [] []] k λ_ b=>b=k:=by
 refine aZ hm JO ρ ?_;have p:=o.len;refine ai @p ?_;refine ak (W8 (α a) δ k) ?_;rintro _ r⟨rfl,rfl⟩;refine ai @p ?_;refine ak (aZ (s:=λ_ b=>b=r) hm L0 ρ ?_) ?_
 .refine bJ ?_;refine cz (λc b=>b=r/\c 0=.J d h/\c 1=.v (.int .i64 0)/\c 2=.v (.int .i64 (α a))/\c 4=.bA 47 [] []) (λ_ _=>0) ⟨rfl,?_⟩ ?_
  .exact jN
  rintro c F⟨rfl,G,L,P,S⟩;have T:(α a:Int) - 0<=12:=δ;refine ai (ba @G @L @P @S @T) ?_;refine ak (a1D x y a d h F o z C E) ?_;rintro V W rfl;refine bJ ?_;exact⟨_,θ,rfl⟩
 .rintro V W rfl;refine bJ ?_;exact⟨_,θ,rfl⟩
def qJ(b:Nat)(c:ad)(d:List Ρ):Except Int an×ad:=
 match dp cR b c (a1.chunks d) []with
 |(.error h,a)=>(.error h,a)
 |(.ok bw,a)=>gF b (α bw+1) a bw
def a1F(S:U)(o f:Nat)(D:ad)(t:bh S o f D)(b:Nat)(u:1<=b)(v:b<=8)(a:List Ρ)(p:Χ)(w:Own)(E:aC isRow a p)(k4:a1.gD bq a)(A:∀k∈a,bF b k)(a15:α a<=12):
  AC γ 26 [.ptr o 0,.J p w,.v (.int .i64 (b:Int))] S λB T=>bh T o f (qJ b D a).2/\Ext o f S T/\gj (qJ b D a).1 B:=by
 refine aZ hm Jn ρ ?_;have a16:=E.len;have V:∀k5,(R.agg k5).cells=k5:=λ_=>rfl;have k6:=(aN (O:=.nil) (e4:=.nil) (h5:=.nil) bg).len;have a18:=(aN (O:=.nil) (e4:=.nil) (h5:=.nil) bg).t37;have a19:putAt (ae aB .nil .nil .nil) 0 (ae aB .nil .nil .nil)=ae aB .nil .nil .nil:=cC bg bg;have k7:∀d h k:R,putAt [d,h] 0 [k]=[k,h]:=λ_ _ _=>rfl;have k8:∀d h k:R,putAt [d,h] 1 [k]=[d,k]:=λ_ _ _=>rfl;have k9:∀d h:R,[d,h].length=2:=λ_ _=>rfl;have l0:∀d h l1 W:R,putAt [d,h] 0 [l1,W]=[l1,W]:=λ_ _ _ _=>rfl;have H:∀d h:R,List.take 2 [d,h]=[d,h]:=λ_ _=>rfl;have I:∀d h,aP η 2 [d,h]=.agg [d,h]:=λ_ _=>rfl;have a94:∀l2:Nat,(R.ptr l2 0).cells=[.ptr l2 0]:=λ_=>rfl;refine ai (c2 @V @cm) ?_;refine aO λj l=>?_;have e:=t.ct l;obtain⟨g,K⟩:∃g:U,g=S.set j (.cells (ae aB .nil .nil .nil)):=⟨_,rfl⟩;have a27:S.sub g:=by rw[K];exact μ θ l
 have bx:g j=β (.cells (ae aB .nil .nil .nil)):=by rw[K,ν]
 refine ai (c2 @V @cm) ?_;rw[<-K];refine ak (wZ b a p (.J p w) g E (bM.J (E.cells λ_ _=>φ)) δ) ?_;rintro _ _⟨rfl,rfl⟩;have a29:nO (b:Int) a=true:=by unfold nO;simp only[Ξ,decide_eq_true_eq,a3h];exact⟨⟨δ,δ⟩,λk a30=>by rw[(A k a30).len]⟩
 rw[a29];refine ai @a3E ?_;refine ak (x9 a p w _ E δ) ?_;rintro _ M⟨i,l3,rfl⟩;refine bJ ?_;refine ak (a1E u v a p i M E k4 A a15) ?_;rintro _ M rfl;refine bJ ?_;refine cz (λF T=>∃L:Nat,1<=L/\L<=13/\T=M/\F 0=.ptr o 0/\F 2=.v (.int .i64 (b:Int))/\F 6=.ptr j 0/\F 8=.J p i/\F 9=.v (.int .i64 (L:Int)))
  (λF _=>match F 9 with|.v (.int _ a34)=>13 - a34.toNat|_=>0) ⟨1,δ,δ,rfl,?_⟩ ?_
 .exact jN
 rintro F N⟨L,a95,a96,rfl,r,x,y,z,C⟩;by_cases l4:(L:Int)<(α p:Int)
 .obtain⟨c,rfl⟩:∃c,L=c+1:=⟨L - 1,δ⟩;have m:a[c+1]?=β a[c+1]:=Ν δ;have l5:a[c]?=β a[c]:=Ν δ;have n:=a4m.1 k4 c (c+1) δ δ δ;have a36:=(A _ (a3r (l:=a) (n:=c+1) δ)).len;generalize a[c+1]'δ=k at m n a36;generalize a[c]'δ=O at l5 n;obtain⟨a97,aM,l6,rfl⟩:=E.get m;obtain⟨a98,a38,l7,rfl⟩:=E.get l5;have a42:cJ 1 (.J p i) (.v (.int .i64 ((c+1:Nat):Int)))=β (.bR [.J (ab k) l6]):=by rw[fJ δ,a3p,aM];exact kA rfl
  have a43:cJ 1 (.J p i) (.v (.int .i64 (c:Int)))=β (.bR [.J (ab O) l7]):=by rw[fJ δ,a3p,a38];exact kA rfl
  have a47:∀T l8 l9,cV ι 1 T (.bR [.J (ab l8) l9])=β (.J (ab l8) l9):=λ_ _ _=>rfl;have a48:((c+1:Nat):Int) - 1=(c:Int):=δ;have a52:¬k=O:=by rintro rfl;rw[p0]at n;cases n
  refine ai (ck @r @x @y @z @C @l4 @a42 @a47 @a48 @a43) ?_;refine ak (jW k O l6 l7 N δ) ?_;rintro _ n0⟨rfl,rfl⟩;simp -dsimp -implicitDefEqProofs (disch:=first|omega|assumption|(simp only[aR,Nat.reduceAdd];try omega)) only[go_sem,simprocAttr,-List.reduceReplicate,r,x,y,z,C,a52];exact⟨⟨c+1+1,δ,δ,rfl⟩,δ⟩
 .have n1:=l3.sub _ _ bx;refine ai (ff @r @x @y @z @C @l4 @V @k7 @k8 @k9 @l0) ?_;refine aO λq s=>?_;have a99:j≠q:=by rintro rfl;rw[n1]at s;cases s
  obtain⟨P,Q⟩:∃P:U,P=N.set q (.cells [.ptr o 0,.v (.int .i64 (b:Int))]):=⟨_,rfl⟩;have n2:N.sub P:=by rw[Q];exact μ θ s
  have n3:P q=β (.cells [.ptr o 0,.v (.int .i64 (b:Int))]):=by rw[Q,ν]
  have a56:=n2 _ _ n1;have n4:=ο a27 l3.sub;have a57:S q=none:=Μ n4 s;have n5:=t.ct a57;refine ai (fZ @r @x @y @z @C @V @k7 @k8 @k9 @l0 @σ @a16) ?_;rw[<-Q];have n9:(R.agg (List.take 2 [R.ptr o 0,.v (.int .i64 (b:Int))]))=dz o b:=rfl;refine ak (tL (α a) δ P) ?_;rintro _ P⟨rfl,rfl⟩;refine ai (cW @r @x @y @z @C (κ n3) @H @I @n9) ?_;have a00:a1.bI (α a)<=100000:=by unfold a1.bI;omega
  refine ak (CU a p i (a1.bI (α a)) P E δ a00) ?_;rintro _ a61⟨X,gs,a62,rfl,a63⟩;have a01:=X _ _ n3;refine ai (cW @r @x @y @z @C (κ a01) @H @I @n9) ?_;have Y:=lN (g:=a1.bI (α a)) (l:=a);have a02:=ο n4 (ο n2 X);refine ak (Xr a61 o f D (t.mono a02) _ gs a62 b u v a63 (λa65 m=>by have:=Y.2 a65 m;omega) (by rw[Y.1];exact a00)) ?_;rintro B n0⟨a03,Z,a04⟩;have a68:qJ b D a=match dp cR b D (a1.dW (a1.bI (α a)) a) []with
   |(.error W,G)=>(.error W,G)
   |(.ok bw,G)=>gF b (α bw+1) G bw:=rfl
  rw[a68];have a69:=λG a71 a73=>oW (c:=cR) (d:=b) (gs:=a1.dW (a1.bI (α a)) a) (S:=D) (S':=G) (acc:=[]) (ks:=a71) a73;have a05:=(ω a02).trans Z;have a06:=Z _ _ e.1 e.2 (X _ _ a56);have a74:=Z _ _ n5.1 n5.2 a01;generalize dp cR b D (a1.dW (a1.bI (α a)) a) []=a81 at*;obtain⟨res,G⟩:=a81;cases res with
  |error W=>obtain⟨a07,rfl⟩:=a04;refine ai (fZ @r @x @y @z @C @a07 @cm @V (χ a06) @k6 @a18 @a19) ?_;exact⟨_,θ,a03.set e,a05.set l,a07,rfl⟩
  |ok bw=>obtain⟨a83,a84,a86,rfl⟩:=a04;have a08:=a69 G bw rfl;rw[Y.1]at a08;simp only[a3a]at a08;refine ai (bs @r @x @y @z @C (κ a74) @H @I) ?_;refine ak (CZ n0 o f G a03 bw a83 a84 b u v a86 δ) ?_;rintro B b00⟨a88,a09,a10⟩;have a89:=a09 _ _ e.1 e.2 a06;obtain⟨a11,k0,k2,k3,W,a13,rfl⟩:=a10.shape;have a14:=aN (O:=k0) (e4:=k2) (h5:=k3) a13;have a90:=a14.len;have a92:putAt (ae aB .nil .nil .nil) 0 (ae a11 k0 k2 k3)=ae a11 k0 k2 k3:=cC bg a13;refine ai (ff @r @x @y @z @C @V (χ a89) @a92 @a90 @k6 a14.t37) ?_;exact⟨_,θ,a88.set e,(a05.trans a09).set l,a10⟩
variable{b1:Int}
def a1G(c:b1=1\/b1=2\/b1=3\/b1=4):bF 1 [b1]:=⟨rfl,λa b=>by
 obtain rfl:a=b1:=by simpa using b
 omega⟩
variable{N:List Ρ}
def a1H(h:1<=e)(k:e<=8)(c:ad)(d:GT e 0 (a1.leaf N)):qJ e c N=(.ok (bN 0 (a1.leaf N)),eV c (da (cR N))):=by obtain⟨a,b,_⟩:=d.wf;rw[a1.hR]at a b;have o:=(tX h k a b d.ok).nS;unfold qJ;rw[a1.nM a b,dp,pb o];simp only[dp,a3l];rw[gF];rfl
def a1I(a:H.m (gS (da (cR N)))=β (da (cR N))):eG H 0 (a1.leaf N):=a
def ob:List Ρ:=[[1],[2]]
def pq:GT 1 0 (a1.leaf ob):=by
 refine⟨⟨Λ,Λ,trivial,λb=>by omega⟩,?_,?_,Λ⟩
 .rw[a1.iC];unfold a1.gD;decide+kernel
 .rw[a1.iC];intro c a;simp only[ob,a3n,a4r,or_false]at a;rcases a with rfl|rfl<;>exact a1G δ
def en:an:=bN 0 (a1.leaf ob)
def pr:ad:=eV ad.new (da (cR ob))
def a1J:qJ 1 ad.new ob=(.ok en,pr):=a1H δ δ _ pq
def yX:eG pr 0 (a1.leaf ob):=a1I (by unfold pr eV;simp[ad.new])
def FR:ji 1 (a1.aW 0 (a1.leaf ob)).length en:=qm δ δ pq.hs
def a1K:lU pr 1 en []=(0,[en.sum]):=by have a:=(a1z δ δ (yW δ δ 0 _ pq.hs yX) (j4:=[]) λ_ _ _ _ _ _ _ _ a=>by cases a).1;rw[FO δ δ 0 _ _ [] pq.hs yX δ]at a;exact a
def a1L:kT pr 1 en []=(0,[]):=FQ _ _ _ (yW δ δ 0 _ pq.hs yX) δ
def a1M:kT ad.new 1 en []=(0,[en.sum]):=by have:(ad.new.m en.sum).isSome=false:=rfl;rw[kT,fC,if_neg FR.ne];simp[kS,this,eL]
def a1N(z:U):AC γ 6 [] z λT _=>T=.v (.bool η):=by
 have M:=cm;have N:=(aN (O:=.nil) (e4:=.nil) (h5:=.nil) bg).all;have O:=@σ;refine aM hm J0 ?_;refine ak (tB z) ?_;rintro _ Q⟨h,k,X,Y,rfl,V,Z⟩;refine aa ?_;refine eb θ (by simp[bc,τ]) λW k0 e=>?_;refine aa ?_;refine eb θ (by simp[bc,τ]) λf k2 g=>?_;refine aa ?_;refine eb θ (by simp[bc,τ]) λi eZ j=>?_;have l:=ο e.sub (ο g.sub j.sub);refine aa ?_;refine ak (a1F eZ h k ad.new (V.mono l) 1 δ δ ob [.J (ab [1]) W,.J (ab [2]) f] i ⟨⟨_,rfl⟩,⟨_,rfl⟩,trivial⟩ pq.dI pq.ok Λ) ?_;rw[a1J];rintro _ C⟨D,k3,a,o,b,c,d,rfl⟩;have k4:=(aN (O:=b) (e4:=c) (h5:=d) a).all;have k5:putAt (ae aB .nil .nil .nil) 0 (ae en b c d)=ae en b c d:=cC bg a;have m:en.size=2:=FR.size;have p:bO en<=1000000000:=by rw[bO,m];decide
 have r:en≠aB->1<=en.size:=λ_=>by omega
 refine aa ?_;refine bp λn q=>?_;have E:=μ (X:=.cells (ae en b c d)) (θ (f:=C)) q;have c2:=ν C n (.cells (ae en b c d));refine ak (Ec _ h k pr (D.mono E) en b c d a (λ_=>o) r p 1 δ δ) ?_;rw[a1K];rintro _ s⟨F,G,_⟩;obtain⟨k6,rfl⟩:=G rfl;clear G;have aE:=F _ _ c2;have x:=κ aE;refine aa ?_;refine ak (tB s) ?_;rintro _ t⟨u,v,_,_,rfl,w,L⟩;have x:=κ (L _ _ aE);refine aa ?_;refine ak (xW t u v ad.new w en b c d a (λ_=>o) r p 1 δ δ) ?_;rw[a1M];rintro _ A⟨B,P,_⟩;obtain⟨k7,rfl⟩:=P rfl;clear P;have y:=ο L B;have x:=κ (y _ _ aE);refine aa ?_;refine ak (xW A h k pr (D.mono (ο E (ο F y))) en b c d a (λ_=>o) r p 1 δ δ) ?_;rw[a1L];rintro _ k8⟨H,S,_⟩;obtain⟨k9,rfl⟩:=S rfl;clear S;have x:=κ (H _ _ (y _ _ aE));have l0:=λI=>Wc (I:=ι) (b:=I) a a;have l1:R.agg (en.sum.map ao)=c3 en.sum:=rfl;have K:(en.sum.map ao).length=32:=by simp[a]
 have l2:en.sum.take 32=en.sum:=a2U δ;have l3:(c3 en.sum).cells.length=32:=K;have l4:(c3 en.sum).cells=en.sum.map ao:=rfl;refine aa ?_;exact⟨_,θ⟩
def uM(d h:U):Prop:=∀b a c,d b=β (.cells (a::c))->((∃k o,a=.J k o)\/∃p,a=bo p)->h b=β (.cells (a::c))
def dJ.oc{b c:U}(a:uM b c):∀ {d:aA}{h:R},dJ b d h->dJ c d h
 |.nil,_,k=>k
 |.node _ _ _ _,_,⟨o,p,r,x,h1,y,z,C⟩=>⟨o,p,r,x,h1,a _ _ _ y (.inl ⟨_,_,rfl⟩),z.oc a,C.oc a⟩
def gL.oc{b c:U}(a:uM b c){d:bk}{h:R}(o:gL b d h):gL c d h:=by obtain⟨p,r,x,y,k,z,C,D,E,F,G⟩:=o;exact⟨p,r,x,y,k,z,C,a _ _ _ D (.inr ⟨_,rfl⟩),E,F.oc a,G.Fo λP S T k V L=>a _ _ _ L (.inl ⟨_,_,rfl⟩)⟩
def ha.oc{b c:U}(d:uM b c){h:Nat}{k:List bk}(a:ha b h k):ha c h k:=by obtain⟨o,p,r,x⟩:=a;exact⟨o,p,d _ _ _ r (.inl ⟨_,_,rfl⟩),x.mono λy z a=>a.oc d⟩
variable{f u e1:U}{e7:List aU}
theorem cu.rs(c:ds f e i v H e7)(h:cu e i v f u):uM f u:=λk r x a d=>by
 obtain⟨y,z,o,_⟩:=c.x;obtain⟨C,D,p⟩:=c.fl.at_;obtain⟨E,⟨F,G,L,_⟩,_⟩:=c.fl.mp;refine h k _ ?_ ?_ ?_ a
 .rintro rfl;rw[o]at a;obtain⟨rfl,_⟩:=a5G (bl.cells.inj (Δ a));rcases d with⟨_,_,b⟩|⟨_,b⟩<;>cases b
 .rintro rfl;rw[p]at a;obtain⟨rfl,_⟩:=a5G (bl.cells.inj (Δ a));rcases d with⟨_,_,b⟩|⟨_,b⟩<;>cases b
 grind
variable{a7:List bk}
def ds.a1O(a:ds f i v M H e7)(o:ha f e a7)(d:ea e f u):ds u i v M H e7:=by
 obtain⟨p,r,h,x⟩:=a.x;obtain⟨D,E,b⟩:=a.fl.at_;obtain⟨F,⟨G,L,c,P⟩,S⟩:=a.fl.mp;obtain⟨T,V,k,_⟩:=o;have y:i≠e:=by rintro rfl;rw[k]at h;cases h
 have z:v≠e:=by rintro rfl;rw[k]at b;cases b
 have C:M≠e:=by rintro rfl;rw[k]at c;cases c
 exact⟨a.fl.other (by rw[b];exact d _ _ z b) (by rw[c];exact d _ _ C c),⟨p,r,d _ _ y h,x⟩,a.mY,a.mZ⟩
structure ps(b:U)(c fQ d W:Nat)(a:ad)(l:List aU)(cF:List bk)(n:Nat):Prop where
 st:ds b c fQ d a l
 cat:cK l=η
 rs:ha b W cF
 inv:dZ n cF
 rep:a.one=ι->uI a l cF
def ps.sub{b c:U}{d h k o p:Nat}{r:ad}{x:List aU}{y:List bk}(a:ps b d h k o r x y p)(z:b.sub c):ps c d h k o r x y p:=⟨a.st.sub z,a.cat,a.rs.sub z,a.inv,a.rep⟩
def ps.step{L y z:U}{h k o p C:Nat}{D:ad}{P:List aU}{r:List bk}(a:ps L h k o p D P r C)(E:C<900){c:de}(F:dc c.row){b:Int×List aU×ad}(x:hz D P c b)
  (S:ds y h k o b.2.2 b.2.1) (T:cu h k o L y) (V:ha z p (gK r c).2) (W:ea p y z):ps z h k o p b.2.2 b.2.1 (gK r c).2 (C+1)/\D.le b.2.2/\(b.2.2.one=ι->b.1=(gK r c).1):=by
 have G:=a1w x;have e:=a.rs.oc (T.rs a.st);refine⟨⟨S.a1O e W,a1x a.cat x,V,a0V a.inv E F,λd=>(FF x a.inv E F (a.rep (G.zero d)) d).2⟩,G,λd=>(FF x a.inv E F (a.rep (G.zero d)) d).1⟩
def de.sv(a:de):Prop:=α a.table<=100/\α a.aG<=20/\(∀b∈a.aG,α b<=100)/\α a.row<=50
variable{e8:de}
def de.sv.fit(a:e8.sv):e8.Fit:=⟨by have:=a.1;omega,by have:=a.2.1;omega,λb c=>by have:=a.2.2.1 b c;omega,by have:=a.2.2.2;omega⟩
theorem a1P(c:List df)(D:Own)(p:U)(W:α c<=9223372036854775807):
  AC γ 7 [.J (kZ c) D] p λE F=>F=p/\∃r,E=.v (.bool r)/\(r=ι->α c<=300/\∀h∈c,h.d.sv):=by
 have e:=yS (a:=c);refine aM hm J2 ?_;refine aH (λx=>?_) λf=>?_;simp;refine hj [0] (λd:Nat=>[(3,.v (.int .i64 d))]) (λd=>d<=α c/\∀h∈c.take d,h.d.sv) (λd=>α c - d) 0 ⟨a3N _,λh k=>by cases k⟩ aV ?_;rintro d⟨g,G⟩L;refine aa ?_;refine aH (λx=>?_) λx=>?_
 .have o:d<α c:=δ;have P:=Ν o;have i:=FB P;have S:=a4o o;generalize c[d]=a at*;have j:=df.m1 (a:=a);have l:=df.m2 (a:=a);have m:=df.m3 (a:=a);have n:=df.Ys (a:=a);have q:=kO (j4:=a.d.aG);have s:=bK (n:=a.d.row);have t:=s8 (B:=a.d.table);generalize a.C=u at*;refine aa ?_;refine aH (λT=>?_) λT=>?_;rotate_left;simp;refine aH (λc2=>?_) λc2=>?_;rotate_left;simp;refine aH (λaE=>?_) λaE=>?_;simp;refine hj [0,3] (λb:Nat=>[(4,.v (.int .i64 b))]) (λb=>b<=α a.d.aG/\∀V∈a.d.aG.take b,α V<=100) (λb=>α a.d.aG - b) 0 ⟨a3N _,λh k=>by cases k⟩ aV ?_;rintro b⟨v,y⟩L;refine aa ?_;refine aH (λaL=>?_) λaL=>?_
  .have z:b<α a.d.aG:=δ;have w:=u3 z;have A:a.d.aG.take (b+1)=a.d.aG.take b++[a.d.aG.getD b []]:=iy z;have B:=s8 (B:=a.d.aG.getD b []);generalize a.d.aG.getD b []=H at*;refine aa ?_;refine aH (λba=>?_) λba=>?_;simp;grind
  .obtain rfl:b=α a.d.aG:=δ;rw[a3K]at y;refine⟨d+1,⟨o,λh C=>?_⟩,rfl,δ⟩;rw[S]at C;rcases a3f.1 C with k|k
   .exact G h k
   .obtain rfl:=a3s.1 k;exact⟨δ,δ,y,δ⟩
 grind
def a1Q:bk:=⟨[116],[[97]],[],.nil,ε⟩
def a2I:bk:=a1Q.put [1,5]
def a2J:de:=⟨1,[116],[[97]],[]⟩
def a2K:de:=⟨3,[116],[],[1,5]⟩
def a2L:de:=⟨3,[116],[],[1,6]⟩
def a2M:de:=⟨3,[116],[],[2,3,4]⟩
def a2N:de:=⟨4,[116],[],[1,6]⟩
def a2O:de:=⟨2,[116],[],[]⟩
def a1R:cK []=true:=(dZ.nil (n:=0)).cat δ
structure nc(a b:U)(c fQ d W:Nat)(h:ad)(l:List aU)(cF:List bk)(n:Nat):Prop where
 lb:ps b c fQ d W h l cF n
 sub:a.sub b
 yY:a c=ε
 yZ:a fQ=ε
 z1:a d=ε
 tQ:a W=ε
def nc.step{D E x y:U}{h k o p z:Nat}{C:ad}{F:List aU}{r:List bk}(a:nc D E h k o p C F r z)(T:z<900){d:de}(V:dc d.row){c:Int×List aU×ad}(W:hz C F d c)
  (e:ds x h k o c.2.2 c.2.1) (G:cu h k o E x) (f:ha y p (gK r d).2) (L:ea p x y):nc D y h k o p c.2.2 c.2.1 (gK r d).2 (z+1)/\C.le c.2.2/\(c.2.2.one=ι->c.1=(gK r d).1):=by
 obtain⟨g,i,j⟩:=a.lb.step T V W e G f L;refine⟨⟨g,λP S b=>L P S ?_ (G P S ?_ ?_ ?_ (a.sub _ _ b)),a.yY,a.yZ,a.z1,a.tQ⟩,i,j⟩
 .rintro rfl;rw[a.tQ]at b;cases b
 .rintro rfl;rw[a.yY]at b;cases b
 .rintro rfl;rw[a.yZ]at b;cases b
 .rintro rfl;rw[a.z1]at b;cases b
def nc.mono(a:nc f u e i v M H e7 a7 b9)(b:u.sub e1):nc f e1 e i v M H e7 a7 b9:=⟨a.lb.sub b,ο a.sub b,a.yY,a.yZ,a.z1,a.tQ⟩
def a1S(p:List df)(j:Own)(r:U)(l:∀P∈p,P.d.sv/\dc P.d.row)(Y:α p<=9223372036854775807):
  AC γ 8 [.J (kZ p) j] r λS D=>S=.aF [.v (.pointer ε),.v (.pointer ε)]\/∃d h k W o x y T,S=.aF [.ptr d 0,.ptr W 0]/\T<=30/\o.one=ι/\nc r D d h k W o x y T:=by
 have Z:=yS (a:=p);refine aM hm J4 ?_;refine ak (EU r) ?_;rintro _ m⟨d,h,k,rfl,E,n,q,s,t⟩;refine aa ?_;refine aO λW F=>?_;have u:=t.sub (μ (X:=.cells [.J [] .nil]) θ F);have a:nc r (m.set W (.cells [.J [] .nil])) d h k W ad.new [] [] 0:=⟨⟨u,a1R,⟨[],.nil,ν _ _ _,trivial⟩,dZ.nil,λ_=>⟨rfl,λk0 G=>by cases G⟩⟩,μ E (Μ E F),n,q,s,Μ E F⟩;refine aa ?_;refine cQ [0,4,5] (λb:Nat×ad×List aU×List bk=>[(6,.v (.int .i64 (b.1)))]) (λb D=>b.1<=30/\b.1<=α p/\nc r D d h k W b.2.1 b.2.2.1 b.2.2.2 b.1) (λb=>30 - b.1) (0,ad.new,[],[]) ⟨⟨ρ,a3N _,a⟩,aV⟩ ?_;rintro⟨z,o,x,y⟩ L ⟨v,w,a⟩ k2
 dsimp only at v w a|-
 refine aa ?_;refine aH (λA=>?_) λA=>?_;refine aH (λaL=>?_) λaL=>?_
 .have V:z<α p:=δ;have e:=Ν V;have k3:=FB e;obtain⟨f,g⟩:=l _ (a3d e);generalize p[z]=c at*;have B:=a0v L d h k o x a.lb.st (a1y a.lb.cat) a.lb.cat c f.fit;have H:=λC G=>a1s C W z y G a.lb.inv δ c f.fit g;have k4:α c.C=4:=rfl;have k5:(.agg (c.C.take 4))=c.V:=rfl;have k6:aP η 4 c.C=c.V:=rfl;generalize c.C=k7 at*;generalize c.V=k8 at*;refine aa ?_;refine ak B ?_;rintro _ C⟨res,I,rfl,K,i⟩;refine aa ?_;refine ak (H C (a.lb.rs.oc (i.rs a.lb.st))) ?_;rintro _ k9⟨M,N,rfl⟩;obtain⟨O,l0,l1⟩:=a.step δ g I K i M N;refine aa ?_;exact⟨(z+1,res.2.2,res.2.1,(gK y c.d).2),⟨by simp only;omega,V,O⟩,rfl,by simp only;omega⟩
 all_goals
  refine bd (ux L d h k o x a.lb.st) ?_;refine ak (WN L h k o a.lb.st.fl) ?_;rintro _ C⟨Q,l2,l3,rfl⟩;cases X:o.one with
  |true=>refine aa ?_;exact⟨_,θ,.inl trivial⟩
  |false=>refine aa ?_;exact⟨_,θ,.inr ⟨d,h,k,W,o,x,y,z,rfl,δ,X,a.mono Q⟩⟩
def a1T(c:bh f e i H):∃d:Nat,∀a,f.sub a->AC γ 23 [.ptr e 0] a λh k=>k=a/\h=.v (.int .i64 (d:Int)):=by obtain⟨⟨x,y,o⟩,⟨z,⟨p,C,r,_⟩,_⟩,_,_⟩:=c;refine⟨α p,λa b=>?_⟩;have D:=κ (b _ _ o);have E:=b _ _ r;refine aM hm Ji ?_;trivial
def a1U(a:U)(b:Own):AC γ 24 [.J [] b] a λc d=>d=a/\c=.aF [.v (.int .i64 0),.v (.int .i64 1)]:=by refine aM hm Ae ?_;trivial
def a1V(d:U)(h:Nat)(a:R):Prop:=a=.v (.pointer ε)\/∃b c k o p,a=.ptr b 0/\ds d b c k o p/\c≠h
def FT(h:U)(k b x:Nat)(y:ad)(z:List aU)(L:ds h k b x y z)(C:R)(P:a1V h b C)(S:Own):
  AC γ 24 [.J [.ptr k 0,C] S] h λT V=>h.sub V/\T=.aF [.v (.int .i64 0),.v (.int .i64 1)]:=by
 refine aM hm Ae ?_;refine ak (Cb _) ?_;rintro _ d⟨n,q,_,_,rfl,D⟩;have o:=D.sub;clear D;have E:=L.sub o;have p:=ux d k b x y z E;obtain⟨s,t,W⟩:=E.fl.at_;have F:hD d b=true:=by simp[hD,W]
 have u:∀c,lD c d (.ptr b 0) (.ptr b 0)=β (.v (.bool (!c))):=λc=>B8 F;refine aa ?_;refine hj [0,14,15] (λa:Nat=>[(16,.v (.int .i64 (a:Int)))]) (λa=>a<=1) (λa=>2 - a) 0 δ aV ?_;rintro a v w;rcases(by omega:a=0\/a=1)with rfl|rfl
 .refine aa ?_;refine bd p ?_;refine bd p ?_;refine aa ?_;exact⟨1,δ,rfl,δ⟩
 .rcases P with rfl|⟨e,r,f,g,i,rfl,G,j⟩
  .refine aa ?_;trivial
  .have l:=ux d e r f g i (G.sub o);obtain⟨_,_,m⟩:=(G.sub o).fl.at_;have c2:hD d r=true:=by simp[hD,m]
   have A:∀c,lD c d (.ptr r 0) (.ptr b 0)=β (.v (.bool c)):=λc=>by simp[lD,F,c2,j]
   refine aa ?_;refine bd l ?_;refine bd p ?_;refine aa ?_;trivial
def bm(a:Ρ):an:=⟨ζ 32 0,a,a,1,1,a⟩
def FU:bm n≠aB:=λa=>by
 have:=congrArg an.live a;simp[bm,aB]at this
def sw:(bm n).sum.length=32:=by simp[bm]
def FV:qz ad.new (bm n):=by
 rintro(a|a)
 .simp[bm]at a
 .exact absurd rfl a
def a1W:lU ad.new e (bm n) []=(21,[(bm n).sum]):=by have:dn ad.new e (bm n)=none:=rfl;rw[lU,fC,if_neg FU];simp[mV,this,eL]
def a1X:kT ad.new e (bm n) []=(0,[(bm n).sum]):=by have:(ad.new.m (bm n).sum).isSome=false:=rfl;rw[kT,fC,if_neg FU];simp[kS,this,eL]
def a1Y(b:Ρ)(a:Own):∀c:Χ,c=ζ 32 (R.v (.int .u8 0))++[R.J [] .nil,.J [] .nil]++[R.v (.int .i64 0),.v (.int .i64 0)]++[R.J [] .nil]->α c=37/\∃d h k,putAt c 35 [.v (.int .i64 1)]=d/\α d=37/\putAt d 34 [.v (.int .i64 1)]=h/\α h=37/\putAt h 32 [.J (ab b) a,.J (ab b) a]=k/\α k=37/\putAt k 36 [.J (ab b) a]=ae (bm b) a a a:=by rintro _ rfl;exact⟨rfl,_,_,_,rfl,rfl,rfl,rfl,rfl,rfl,rfl⟩
abbrev ju(a:Int):Prop:=a<1\/8<a
def a1Z(k:U)(o y:Nat)(z:bh k o y ad.new)(p:Ρ)(a:Own)(c:Int):
  AC γ 14 [.ptr o 0,.agg (ae (bm p) a a a),.v (.int .i64 c)] k λr x=>k.sub x/\∃b,(ju c/\b=1\/¬ju c/\b=21)/\r=.aF [.J [] .nil,.v (.int .i64 b)]:=by
 by_cases d:ju c
 .exact(Zd k o (bm p) a a a sw c d).mono λr x ⟨h,b⟩=>⟨h,1,.inl ⟨d,rfl⟩,b⟩
 .obtain⟨C,rfl⟩:=a6F (show 0<=c by unfold ju at d;omega);have h:=Ec k o y ad.new z (bm p) a a a sw FV (λ_=>by simp[bm]) (by simp[bO,bm]) C (by unfold ju at d;omega) (by unfold ju at d;omega);rw[a1W]at h;exact h.mono λr x ⟨h,_,b⟩=>⟨h,21,.inr ⟨d,rfl⟩,b ρ⟩
def a2a(k:U)(o z:Nat)(C:bh k o z ad.new)(p:Ρ)(a:Own)(c:Int):
  AC γ 22 [.ptr o 0,.agg (ae (bm p) a a a),.v (.int .i64 c)] k λr x=>k.sub x/\∃y D b,(ju c/\b=1/\α y=0\/¬ju c/\b=0/\α y=1)/\r=.aF [.J y D,.v (.int .i64 b)]:=by
 by_cases d:ju c
 .exact(Ze k o (bm p) a a a sw c d).mono λr x ⟨h,b⟩=>⟨h,[],_,1,.inl ⟨d,rfl,rfl⟩,b⟩
 .obtain⟨E,rfl⟩:=a6F (show 0<=c by unfold ju at d;omega);have h:=xW k o z ad.new C (bm p) a a a sw FV (λ_=>by simp[bm]) (by simp[bO,bm]) E (by unfold ju at d;omega) (by unfold ju at d;omega);rw[a1X]at h;exact h.mono λr x ⟨h,b,_⟩=>by
   obtain⟨a,b⟩:=b rfl;exact⟨h,_,a,0,.inr ⟨d,rfl,rfl⟩,b⟩
def a2b(a:Ρ)(p:Int)(c:List df)(b r:Own)(S:α c<=9223372036854775807)(B:∀a∈c,dc a.d.row)(T:U):
  AC γ 5 [.J (ab a) b,.v (.int .i64 p),.J (kZ c) r] T λH _=>H=.v (.bool η):=by
 have a02:=yS (a:=c);refine aM hm IY ?_;refine ak (a1N T) ?_;rintro _ x rfl;refine aa ?_;refine ak (a1P c r x S) ?_;rintro _ x⟨rfl,V,rfl,d⟩;cases V with
 |true=>refine aa ?_;exact⟨_,θ⟩
 |false=>
  obtain⟨a03,I⟩:=d rfl;clear d;refine aa ?_;refine ak (tB x) ?_;rintro _ e⟨f,g,a04,a05,rfl,i,a06⟩;obtain⟨y,z⟩:∃y,y=ζ 32 (R.v (.int .u8 0))++[R.J [] .nil,.J [] .nil]++[R.v (.int .i64 0),.v (.int .i64 0)]++[R.J [] .nil]:=⟨_,rfl⟩;obtain⟨a07,a08,a09,a10,K,M,N,O,Q,X,Y⟩:=a1Y a b y z;have Z:=(aN (O:=b) (e4:=b) (h5:=b) (sw (n:=a))).all;rw[<-z];clear z;refine aa ?_;refine bp λk0 k2=>?_;have a11:=@σ;have k:=λk3=>μ (X:=k3) (θ (f:=e)) k2;have j:=ν e k0 (.cells (ae (bm a) b b b));refine aa ?_;refine ak (a1Z _ f g (i.mono (k _)) a b p) ?_;rintro _ k4⟨C,a13,k5,rfl⟩;have k6:=κ (C _ _ j);refine aa ?_;refine ak (a2a k4 f g ((i.mono (k _)).mono C) a b p) ?_;rintro _ k7⟨k8,V,l,a14,k9,rfl⟩;have a15:=ο (k _) (ο C k8);clear k j K M N O Q X Y k6 Z;generalize l0:bP (Ctx.of γ) (dM.seq (dM.seq _ _) _)=a16;refine aa ?_;subst l0;refine nz [2] (λ_:Unit=>[]) (λ_ o=>o=k7) ?_ ?_
  .refine aa ?_
   repeat' first|refine aH (λ_=>?_) λ_=>?_|trivial
   all_goals first|exact⟨(),rfl⟩|(exfalso;unfold ju at k5 k9;omega)
  rintro _ _ rfl a18;refine aa ?_;refine ak (a1S c r _ (λa m=>⟨I a m,B a m⟩) S) ?_;rintro _ D(rfl|⟨E,F,G,W,L,P,a19,a27,rfl,a29,a30,l1⟩)
  .refine aa ?_;exact⟨_,θ⟩
  have h:=l1.lb.st;have n:=λo (l2:D.sub o)=>ux o E F G L P (h.sub l2);obtain⟨a34,hm⟩:=a1T h.fl;have l3:=n D θ;have l4:=hm D θ;refine aa ?_;refine bd l3 ?_;refine bd l4 ?_;refine aa ?_;refine bd (a1U _ _) ?_;refine aa ?_;refine eb θ (by simp[bc,τ]) λl5 l6 q=>?_;refine aa ?_;refine ak (FT l6 E F G L P (h.sub q.sub) _ (.inl rfl) l5) ?_;rintro _ l7⟨l8,rfl⟩;have s:=ο q.sub l8;refine aa ?_;refine ak (EU l7) ?_;rintro _ a36⟨t,l9,n0,rfl,n1,a38,u,a42,n2⟩;have n3:=ο s n1;refine aa ?_;refine eb θ (by simp[bc,τ]) λl n4 d=>?_;have v:=ο n3 d.sub;refine aa ?_;refine ak (FT n4 E F G L P (h.sub v) (.ptr t 0) (.inr ⟨t,l9,n0,_,_,rfl,n2.sub d.sub,?_⟩) l) ?_
  .obtain⟨_,_,n5⟩:=h.fl.at_;rintro rfl;rw[s _ _ n5]at u;cases u
  rintro _ w⟨n9,rfl⟩;have A:=ο v n9;have a00:=n w A;have a01:=hm w A;refine aa ?_;refine bd a00 ?_;refine bd a01 ?_;refine aa ?_;exact⟨_,θ⟩
end Go.Proofs.YtcfpcblgmmeioaaGreat
namespace Go.bt
open Go Go.ChangeShapes Go.WideShapes Go.RowKit
def lf(a:World):bb:=λb c=>a.cell? ⟨b,c,ε⟩
def a2c(b:World):Holds (lf b) U.emp b:=⟨λ_ _ _ a=>a,λ_ _ a=>by cases a⟩
def eY(k:bb)(a:List Value)(b:Χ):Prop:=α a=α b/\∀(c:Nat)(d:Value)(h:R),a[c]?=β d->b[c]?=β h->aQ k d h
variable{t:bb}
theorem eY.nil:eY t [] []:=⟨rfl,λb c d a=>by simp at a⟩
variable{g A c0:Χ}
def eY.append{h k:List Value}(c:eY t h g)(o:eY t k A):eY t (h++k) (g++A):=by
 refine⟨by simp[c.1,o.1],λx p r b a=>?_⟩;rw[a6f]at b a;rw[<-c.1]at a;split at b
 .rename_i d;rw[if_pos d]at a;exact c.2 x p r b a
 .rename_i d;rw[if_neg d]at a;exact o.2 _ p r b a
variable{q b7:R}{e3:Value}
theorem eY.one(a:aQ t e3 q):eY t [e3] [q]:=⟨rfl,λb c d h k=>by
 grind⟩
variable{j7:Array Value}
def eY.a2d(a:eY t j7.toList g):bn t j7 g:=bn.dG.2 a
def dv(h:Program)(k:TypeId)(o:Χ->Prop):Prop:=
 ∀ {b:Type} (p:TypeId×Value->b) (c:World) (r:Nat) (x:Nat->Bool) (y:Bool) (z:Nat) (d:List Value) (C:DataW b×List MemPlace),DataW.trod p h c r x y z k d=β C->
  ∃a,o a/\(∀D∈a,D.one=η)/\eY (lf c) d a
def a2P(a:Χ):Prop:=∃b:Bool,a=[.v (.bool b)]
def SInt(a:IntKind)(c:Χ):Prop:=∃b:Int,(Lit.int a b).wf=η/\c=[.v (.int a b)]
def uN(a:Χ):Prop:=∃b:UInt8,a=[ao b]
def qK(a:Χ):Prop:=∃aX:Τ,α aX<=maxLen/\a=[bo aX]
def uO:List (Χ->Prop)->Χ->Prop
 |[],us=>us=[]
 |c::d,us=>∃a b,c a/\uO d b/\us=a++b
def a2e(a:Χ->Prop):Nat->Χ->Prop
 |0,us=>us=[]
 |d+1,us=>∃b c,a b/\a2e a d c/\us=b++c
def uP(b:Χ->R)(c:Χ->Prop)(d:Χ):Prop:=∃a:List Χ,(∀h∈a,c h)/\α a<=maxLen/\d=[.J (a.map b) .any]
variable{e0:IntKind}{m:Program}{b2:TypeId}
def dv.int(a:m.underlying b2=β (.int e0)):dv m b2 (SInt e0):=λh k o p r x y z b=>by
 obtain⟨c,rfl,_,d⟩:=DataW.trod_int a b;exact⟨_,⟨c,d,rfl⟩,by simp[R.one],eY.one (.v _ rfl)⟩
def dv.byte(b:m.underlying b2=β (.int .u8)):dv m b2 uN:=λk o p r x y z C c=>by
 obtain⟨a,rfl,_,d⟩:=DataW.trod_int b c;obtain⟨D,E⟩:=bounds_u8 d;have h:(Value.int .u8 a)=.int .u8 ((ς a.toNat).toNat):=by congr 1;rw[a4n];omega
 refine⟨_,⟨ς a.toNat,rfl⟩,by simp[ao,R.one],eY.one ?_⟩;rw[ao,<-h];exact .v _ rfl
def dv.str(b:m.underlying b2=β .string):dv m b2 qK:=λh k o p r x y z c=>by
 obtain⟨a,rfl,_,C⟩:=DataW.trod_string b c;refine⟨_,⟨a.data.toList,by trivial,rfl⟩,by simp[bo,R.one],eY.one ?_⟩;have d:(⟨a.data.toList.toArray⟩)=a:=by cases a;simp
 rw[bo,d];exact .v _ rfl
def z6(a:Program):List Field->List (Χ->Prop)->Nat->Nat->Prop
 |[],[],off,b=>off=b
 |c::d,h::rs,off,b=>c.offset=off/\dv a c.type h/\z6 a d rs (off+a.cellsOf c.type) b
 |_,_,_,_=>False
theorem dv.struct{b:Array Field}{r:List (Χ->Prop)}(F:m.underlying b2=β (.struct b))(G:z6 m b.toList r 0 (m.cellsOf b2)):dv m b2 (uO r):=λL y P S T B p H V=>by
 obtain⟨W,e,_,_,f,g,i⟩:=DataW.trod_struct F V;have j:∀(k:List Field)(c:List (Χ->Prop))(a d:Nat),b.toList.drop a=k->z6 m k c d (m.cellsOf b2)->∃h,uO c h/\(∀l∈h,l.one=η)/\eY (lf y) (p.drop d) h:=by
  intro k
  induction k with
  |nil=>
   intro c a d n x;cases c with
   |cons _ _=>trivial
   |nil=>exact⟨[],rfl,ρ,by rw[a4B (by rw[f];exact a7h x.symm)];exact eY.nil⟩
  |cons o k ih=>
   intro c a d n x;cases c with
   |nil=>trivial
   |cons I c=>
    obtain⟨z,C,D⟩:=x;have K:a<α b.toList:=by grind[List.drop_of_length_le]
    have q:b.toList[a]=o/\b.toList.drop (a+1)=k:=by grind[List.drop_eq_getElem_cons,List.cons.inj]
    obtain⟨h,s,M,t⟩:=ih c (a+1) _ q.2 D;have u:b[a]?=β o:=by grind
    have:=i a o u;have v:a<α W:=by rw[g];trivial
    rw[Ν v,z]at this;obtain⟨E,w,N,a3⟩:=C L y P S T e _ _ this;refine⟨E++h,⟨E,h,w,s,rfl⟩,?_,?_⟩;grind
    .have A:p.drop d=(p.drop d).take (m.cellsOf o.type)++p.drop (d+m.cellsOf o.type):=by rw[<-a3G,a3y]
     rw[A];exact a3.append t
 obtain⟨h,z,C,D⟩:=j b.toList r 0 0 rfl G;grind
theorem FW{h o:Type}(c:h->Option o):∀(a:List h)(d:List o),a.mapM c=β d->α d=α a/\∀(p:Nat)(r:h),a[p]?=β r->∃x,d[p]?=β x/\c r=β x
 |[],d,b=>by simp_all
 |z::a,d,b=>by
  rw[List.mapM_cons]at b;cases y:c z with
  |none=>simp[y]at b
  |some D=>
   cases k:a.mapM c with
   |none=>simp[k]at b
   |some C=>simp[y,k]at b;subst b;obtain⟨E,F⟩:=FW c a C k;grind
variable{e i v M b9 h9:Nat}{l h7:World}
def FX{d:Addr}{c:List Value}(b:l.cells? i d e=β c):α c=e/\∀a,a<e->c[a]?=l.cell? (d.add a):=by
 unfold World.cells? at b;split at b
 .obtain⟨h,k⟩:=FW _ _ _ b;refine⟨by simpa using h,λa o=>?_⟩;obtain⟨x,p,r⟩:=k a a (by simp[o]);rw[p,r]
 .cases b
theorem a2f{b:Addr}(a:l.cell? b=β e3):b.spot=none:=by
 unfold World.cell? at a;split at a;simp_all
 .cases a
theorem add_add{a:Addr}(d:a.spot=ε)(b:Nat):a.add b=⟨a.block,a.off+b,ε⟩:=by
 unfold Addr.add;split
 .rename_i c;subst c;cases a;simp_all
 .rfl
structure sx(b:Χ->R)(a:Χ->Prop)(k:Nat):Prop where
 len:∀us,a us->α us=k
 cells:∀us,a us->(b us).cells=us
def FY{c:Χ->R}{d:Χ->Prop}{o:Nat}(h:sx c d o):∀b:List Χ,(∀a∈b,d a)->flat (b.map c)=b.flatten
 |[],_=>rfl
 |a::b,k=>by
  simp only[a3q,flat,a3A,a4C];rw[h.cells a (k a ρ)];have:=FY h b λa p=>k a (by simp[p]);simp only[flat]at this;rw[this]
theorem dv.slice{u:TypeId}{r:Χ->Prop}{l:Χ->R}(Z:m.underlying u=β (.slice b2))(k0:m.cellsOf b2=e)(n:0<e)(F:sx l r e)(k2:dv m b2 r):dv m u (uP l r):=λk3 k v k4 k5 n3 n4 o k6=>by
 rcases DataW.trod_slice Z k6 with⟨rfl,_⟩|⟨W,len,w,k7,n5,k8,_,rfl,_,n9,k9,a00,a01,A,_,_⟩
 .exact⟨_,⟨[],ρ,ρ,rfl⟩,by simp[R.one],eY.one (.cX ε 0 .any (λ_=>rfl) trivial)⟩
 .rw[k0]at A;have B:∀c,c<len->∃b x,r b/\(∀y∈b,y.one=η)/\k.cells? v (W.add (c*e)) e=β x/\eY (lf k) x b:=λc p=>by
   have H:=A c p;have l0:c<α k7:=δ;rw[Ν l0,Option.bind_eq_some_iff]at H;obtain⟨x,f,q⟩:=H;obtain⟨b,s,I,K⟩:=k2 k3 k v k4 k5 k8 x _ q;grind
  by_cases l1:len=0
  .subst l1;exact⟨_,⟨[],ρ,ρ,rfl⟩,by simp[R.one],eY.one (.cX (β W) w .any (λl2=>by cases l2) trivial)⟩
  .have M:W.spot=none:=by obtain⟨b,x,_,_,f,_⟩:=B 0 δ;obtain⟨q,t⟩:=FX f;have S:=t 0 n;simp only[a6d]at S;grind[List.getElem?_eq_getElem,Addr.add,a2f]
   obtain⟨z,C,a02⟩:=W;simp only at M;subst M;have l3:∃d:List Χ,α d=len/\∀c b,d[c]?=β b->r b/\(∀y∈b,y.one=η)/\∀a h,b[a]?=β h->∃o,k.cell? ⟨z,C+(c*e+a),ε⟩=β o/\aQ (lf k) o h:=by
    have:∀D,D<=len->∃d:List Χ,α d=D/\∀c b,d[c]?=β b->r b/\(∀y∈b,y.one=η)/\∀a h,b[a]?=β h->∃o,k.cell? ⟨z,C+(c*e+a),ε⟩=β o/\aQ (lf k) o h:=by
     intro D
     induction D with
     |zero=>simp
     |succ D ih=>
      intro a03;obtain⟨d,T,V⟩:=ih δ;obtain⟨b,x,s,I,f,K⟩:=B D δ;refine⟨d++[b],by simp[T],λc N p=>?_⟩;rw[a6f]at p;split at p
      .exact V c N p
      .rename_i a04;have l4:c=D:=by grind
       subst l4;have:N=b:=by simp_all
       subst this;refine⟨s,I,λa h g=>?_⟩;have l5:a<e:=by have:=(a2Z.1 g).1;rw[F.len _ s]at this;exact this
       obtain⟨q,t⟩:=FX f;have S:=t a l5;have O:a<α x:=δ;rw[Ν O]at S;have l6:((⟨z,C,ε⟩:Addr).add (c*e)).add a=⟨z,C+(c*e+a),ε⟩:=by rw[add_add (by rw[add_add rfl]),add_add rfl];simp[a6o]
       rw[l6]at S;exact⟨x[a],S.symm,K.2 a _ _ (Ν O) g⟩
    simp_all
   obtain⟨d,T,V⟩:=l3;have G:∀b2∈d,r b2:=λb2 E=>by
    obtain⟨c,p,rfl⟩:=a3B E;exact(V c _ (Ν p)).1
   have Q:=FY F d G;have l7:∀(L:List Χ),(∀b2∈L,r b2)->∀a h,L.flatten[a]?=β h->∃b,L[a/e]?=β b/\b[a%e]?=β h:=by
    intro L
    induction L with
    |nil=>intro _ a h P;simp at P
    |cons b2 L ih=>
     intro X a h P;have a05:=F.len b2 (X b2 ρ);rw[a4C,a6f]at P;split at P;grind[Nat.div_eq_of_lt,Nat.mod_eq_of_lt]
     .rename_i g;obtain⟨b,l8,l9⟩:=ih (λb2 E=>X b2 (by simp[E])) (a - α b2) h P;have Y:a=(a - α b2)+e:=δ;refine⟨b,?_,?_⟩
      .rw[Y,Nat.add_div_right _ n];exact l8
      .rw[Y,Nat.add_mod_right];exact l9
   have a06:α d.flatten=len*e:=by
    rw[<-T];clear l7 Q T V
    induction d with
    |nil=>simp
    |cons b2 d ih=>rw[a4C,a2V,ih (λb2 E=>G b2 (by simp[E])),F.len b2 (G b2 ρ),a3e,a3U,a5H,a7j]
   refine⟨_,⟨d,G,δ,rfl⟩,by simp[R.one],eY.one ?_⟩;have n0:∀a h,d.flatten[a]?=β h->∃o,k.cell? ⟨z,C+a,ε⟩=β o/\aQ (lf k) o h:=λa h P=>by
    grind[Nat.div_add_mod']
   refine aQ.J z C len w e (λa=>(k.cell? ⟨z,C+a,ε⟩).getD undef) (d.map l) .any n (by simp[T]) k9 ?_ ?_ ?_ ?_ trivial
   .intro b2 E;obtain⟨b,i,rfl⟩:=a3m.1 E;rw[F.cells b (G b i),F.len b (G b i)]
   .intro y j;rw[Q,a6t]at j;obtain⟨b,i,j⟩:=j;obtain⟨c,p,rfl⟩:=a3B i;exact(V c _ (Ν p)).2.1 y j
   .intro a g;have n1:a<α d.flatten:=δ;obtain⟨o,n2,a07⟩:=n0 a _ (Ν n1);show k.cell? _= _;rw[n2];rfl
   grind
def qL(b:Program)(c:TypeId)(k:R->Prop):Prop:=
 ∀ {d:Type} (o:TypeId×Value->d) (a:World) (p:Nat) (r:Nat->Bool) (v:Value) (x:DataW d) (y:List MemPlace),Value.okWide b a .any p c v->DataW.Trod o b a 0 r η c v x y->∃h,k h/\aQ (lf a) v h
theorem a2g{a:Reach}{v:Value}(b:Cell.okWide m l a e b2 v):v.cells=#[v]:=by
 cases v with
 |agg cs=>simp_all [Cell.okWide,Cell.ok]
 |tuple cs=>rfl
 |_=>rfl
def isRow(a:Option TypeDesc):Bool:=
 match a with
 |some (.struct _)=>η
 |some (.array _ _)=>η
 |_=>ι
def sy(a:Χ->Prop)(b:R):Prop:=a [b]
def a2Q(b:Χ->Prop)(c:R):Prop:=∃a,b a/\c=.agg a
def qL.cell{k:Χ->Prop}(b:isRow (m.underlying b2)=ι)(p:dv m b2 k):qL m b2 (sy k):=λr x L y v P S c z=>by
 obtain⟨C,D⟩:=z;obtain⟨E,d,T,a⟩:=p r x 0 y η C _ _ D;have F:v.cells=#[v]:=by
  unfold Value.okWide at c;split at c
  .rename_i h;rw[h]at b;cases b
  .rename_i h;rw[h]at b;cases b
  .exact a2g c
 rw[F]at a;have G:=a.1
 match E,G,d,a with
 |[o],_,d,a=>exact⟨o,d,a.2 0 v o rfl rfl⟩
def sz(a:Program):List TypeId->List (R->Prop)->Prop
 |[],[]=>True
 |b::rC,c::lg=>qL a b c/\sz a rC lg
 |_,_=>False
def sA:List (R->Prop)->Χ->Prop
 |[],a=>a=[]
 |d::lg,a=>∃b c,a=b::c/\d b/\sA lg c
def FZ{r:Program}{z:Type}{C:TypeId×Value->z}{h:World}{D:Nat}{E:Nat->Bool}:∀(a:List TypeId)(lg:List (R->Prop))(c:List Value)(k:List (DataW z))(x:List MemPlace),
  sz r a lg->(∀(o:Nat) b v,a[o]?=β b->c[o]?=β v->Value.okWide r h .any D b v)->DataW.TrodAll C r h 0 E η a c k x->∃d,sA lg d/\eY (lf h) c d/\α k=α a
 |[],[],c,k,x,_,_,y=>by
  obtain⟨rfl,rfl,rfl⟩:=trodAll_nil y;exact⟨[],rfl,eY.nil,rfl⟩
 |b::a,n::lg,c,k,x,F,G,y=>by
  obtain⟨v,P,S,T,V,W,rfl,rfl,rfl,e,f⟩:=trodAll_cons y;obtain⟨L,g,i⟩:=F.1 C h D E v S V (G 0 b v rfl rfl) e;obtain⟨d,j,l,m⟩:=FZ a lg P T W F.2 (λo b v p q=>G (o+1) b v (by trivial) (by trivial)) f;exact⟨L::d,⟨L,d,rfl,g,j⟩,(eY.one i).append l,by simp[m]⟩
 |[],_:: _,_,_,_,p,_,_=>p.elim
 |_:: _,[],_,_,_,p,_,_=>p.elim
def a2h{a:MemPlace}(b:h7.heap[a.block]?=l.heap[a.block]?):l.sameAt h7 a:=by
 cases a with
 |cell c off=>show h7.cell? _=l.cell? _;have b:h7.heap[c]?=l.heap[c]? :=b;simp only[World.cell?,b]
 |map c=>exact b
theorem G0{b:Program}{z:Type}{C:TypeId×Value->z}{D E:World}{y:Nat}(F:laidOutB b=η)(G:∀c,c<y->E.heap[c]?=D.heap[c]?):∀(d:List TypeId)(o:List Value)(p:List (DataW z))(h:List MemPlace),
  (∀a∈d,b.readableRec a=η/\a<b.types.size)->(∀L∈h,L.block<y)->DataW.TrodAll C b D 0 (λ_=>η) η d o p h->DataW.TrodAll C b E 0 (λc=>decide (c<y)) η d o p h
 |[],o,p,h,_,_,k=>by
  obtain⟨rfl,rfl,rfl⟩:=trodAll_nil k;rfl
 |a::d,o,p,h,P,S,k=>by
  obtain⟨v,T,j,V,L,W,rfl,rfl,rfl,e,f⟩:=trodAll_cons k;obtain⟨g,i⟩:=P a ρ;refine trodAll_cons_mk (WideElems.Trod_stays F g i e (λr x=>a2h (G _ (S r (a4W _ x)))) (λr x=>by simp_all)) ?_;exact G0 F G d T V W (λa k=>P a (by simp[k])) (λr x=>S r (a4R _ x)) f
theorem a2i{b:MemPlace->Prop}(c:h7.os=l.os)(d:h7.output=l.output)(h:∀a,a<l.heap.size->h7.heap[a]?=l.heap[a]?):l.keptBut h7 b:=by refine⟨c,d,λk o=>?_⟩;grind
variable{I:Bool}{b4:FuncId}{b0:Type}
theorem a2j{L:TypeId×Value->b0}{c:Func}{k:ChangeSpec}{n q:Bool}{C:List (R->Prop)}(s:laidOutB m=η)(t:∀d∈c.params.toList,m.readableRec d=η/\d<m.types.size)
  (P:k.vars=[]) (u:c.resultTypes=#[b2]) (o:m.underlying b2=β .bool) (w:sz m c.params.toList C) (D:∀a:List (DataW b0),α a=α c.params.toList->k.fn b0 a= {results:=[.lit (.bool η)],args:=a,vars:=[]})
  (p:U) (b:World) (A:Holds (lf b) p b) (B:∀h r,p h=β r->∃E,r=.ro E)
  (H:∀x,sA C x->AC m b4 x p λS _=>S=.v (.bool η))
  (K:Nat) (args:Array Value) (a M:List (DataW b0)) (N:List MemPlace) (O:∀(y:Nat) d v,c.params[y]?=β d->args[y]?=β v->Value.okWide m b .any K d v)
  (T:DataW.Whole L m c.params.toList k.vars I b args.toList a M N):
  Calls m b4 args b λV W=>∃v,V=.returned v/\k.post L m c I n q ι b args v W:=by
 have e:=T;obtain⟨f,k4,g,i,rfl,_,_⟩:=T;rw[P]at i;obtain⟨rfl,rfl⟩:=trodVars_none i;obtain⟨x,Q,X,F⟩:=FZ _ C _ _ _ w (λy d v j k5=>O y d v (by simp_all) (by simp_all)) g;have Y:=λZ k0=>e.lt Z (a4W _ k0);refine(H x Q args b (lf b) X.a2d A).mono ?_;rintro V W⟨v,S,k6,k7,rfl,z,k2,rfl⟩;have k3:v=.bool true:=by cases k2;rfl
 subst k3;have l:=λh o=>by
  cases G:p h with
  |none=>exact z.block h o G
  |some r=>obtain⟨E,rfl⟩:=B h r G;exact(z.iN h E o G).1
 refine⟨_,rfl,a,[],f++[],[],f,[],e,?_,?_,?_,a2i z.os z.output.1 l,λj=>by cases j⟩
 .rw[a3Y,D a F,u];exact trodAll_cons_mk (shut_bool o η) trodAll_mk0
 .rw[a3Y,D a F];exact G0 s l _ _ _ _ t Y g
 .rw[a3Y,D a F,P];rfl
def a2k{k:TypeId×Value->b0}{a:Func}{h:ChangeSpec}{C D:Bool}{o:List (R->Prop)}(E:laidOutB m=η)(F:∀d∈a.params.toList,m.readableRec d=η/\d<m.types.size)
  (G:h.vars=[]) (L:a.resultTypes=#[b2]) (P:m.underlying b2=β .bool) (S:sz m a.params.toList o) (T:∀b:List (DataW b0),α b=α a.params.toList->h.fn b0 b= {results:=[.lit (.bool η)],args:=b,vars:=[]})
  (V:∀p,sA o p->AC m b4 p U.emp λW _=>W=.v (.bool η))
  (c:World) (r:Nat) (args:Array Value) (b x:List (DataW b0)) (y:List MemPlace) (e:∀(z:Nat) d v,a.params[z]?=β d->args[z]?=β v->Value.okWide m c .any r d v)
  (f:DataW.Whole k m a.params.toList h.vars I c args.toList b x y):
  Calls m b4 args c λg i=>∃v,g=.returned v/\h.post k m a I C D ι c args v i:=
 a2j E F G L P S T U.emp c (a2c c) (λ_ _ j=>by cases j) V r args b x y e f
open Go
def qM(a:Χ):R:=a.headD (.aF [])
end Go.bt
namespace Go.Proofs.YtcfpcblgmmeioaaGreat
open Go Go.bt
variable{b1:Int}
def wf_i64(b:(Lit.int .i64 b1).wf=η): -9223372036854775808<=b1/\b1<=9223372036854775807:=by
 have a:IntKind.i64.min<=b1/\b1<=9223372036854775807:=by simpa[Lit.wf] using b
 have c:IntKind.i64.min= -9223372036854775808:=Λ;rw[c]at a;exact a
def a2l:sx qM (SInt .i64) 1:=⟨by rintro a⟨b,_,rfl⟩;rfl,by rintro a⟨b,_,rfl⟩;rfl⟩
abbrev sB:Χ->Prop:=uP qM (SInt .i64)
variable{g A c0:Χ}
theorem G1(o:sB g):∃h:Ρ,dc h/\g=[.J (ab h) .any]:=by
 obtain⟨b,k,p,r⟩:=o;have:∃a:Ρ,dc a/\b.map qM=ab a:=by
  clear p r
  induction b with
  |nil=>exact⟨[],(λF x=>by cases x),rfl⟩
  |cons c b ih=>
   obtain⟨a,y,z⟩:=ih λc C=>k c (by simp[C]);obtain⟨D,E,rfl⟩:=k c ρ;refine⟨D::a,?_,by simp only[a3q,z];rfl⟩;intro v d;rcases a3n.1 d with rfl|d
   .have:=wf_i64 E;omega
   .exact y v d
 simp_all
def a2m:sx qM qK 1:=⟨by rintro a⟨b,_,rfl⟩;rfl,by rintro a⟨b,_,rfl⟩;rfl⟩
abbrev uQ:Χ->Prop:=uP qM qK
theorem a2n(h:uQ g):∃k:List Τ,g=[.J (bY k) .any]:=by
 obtain⟨a,d,o,p⟩:=h;have:∃b:List Τ,a.map qM=bY b:=by
  clear o p
  induction a with
  |nil=>exact⟨[],rfl⟩
  |cons c a ih=>obtain⟨b,r⟩:=ih λc x=>d c (by simp[x]);obtain⟨y,z,rfl⟩:=d c ρ;exact⟨y::b,by simp only[a3q,r];rfl⟩
 simp_all
abbrev uR:Χ->Prop:=uO [uN,qK,uQ,sB]
def G2(b:uR g):∃a:df,dc a.d.row/\g=a.C:=by obtain⟨_,_,⟨c,rfl⟩,⟨_,_,⟨d,_,rfl⟩,⟨_,_,h,⟨_,_,k,o,rfl⟩,rfl⟩,rfl⟩,rfl⟩:=b;obtain⟨p,rfl⟩:=a2n h;obtain⟨r,x,rfl⟩:=G1 k;cases o;exact⟨⟨⟨c,d,p,r⟩,.any,.any⟩,x,rfl⟩
def a2o:sx R.agg uR 4:=⟨λb a=>by obtain⟨c,_,rfl⟩:=G2 a;rfl,λb a=>rfl⟩
abbrev uS:Χ->Prop:=uP R.agg uR
theorem a2p(p:uS g):∃d:List df,(∀h∈d,dc h.d.row)/\α d<=maxLen/\g=[.J (kZ d) .any]:=by
 obtain⟨b,o,r,x⟩:=p;have:∃a:List df,α a=α b/\b.map R.agg=kZ a/\∀h∈a,dc h.d.row:=by
  clear r x
  induction b with
  |nil=>exact⟨[],rfl,rfl,λc k=>by cases k⟩
  |cons c b ih=>obtain⟨a,y,z,D⟩:=ih λc k=>o c (by simp[k]);obtain⟨C,E,rfl⟩:=G2 (o c ρ);refine⟨C::a,by simp[y],by rw[a3q,z];rfl,?_⟩;grind
 grind
variable{q b7:R}
theorem a2q(b:sy uS q):∃a:List df,(∀c∈a,dc c.d.row)/\α a<=9223372036854775807/\q=.J (kZ a) .any:=by obtain⟨a,d,h,k⟩:=a2p b;grind[hm,maxLen,List.cons.inj]
def a2r:dv γ 5 uN:=dv.byte Ο
def G3:dv γ 9 qK:=dv.str Ο
def a2s:dv γ 2 (SInt .i64):=dv.int Ο
def G4:dv γ 44 sB:=dv.slice (e:=1) (by kernel_rfl:γ.underlying 44=β (.slice 2)) Ο δ a2l a2s
def a2t:dv γ 40 uQ:=dv.slice (e:=1) (by kernel_rfl:γ.underlying 40=β (.slice 9)) Ο δ a2m G3
def a2u:dv γ 78 uR:=dv.struct (r:=[uN,qK,uQ,sB]) Tryz.underlying78 (by
 refine⟨by rfl,a2r,by rfl,G3,by rfl,a2t,by rfl,G4,(by show _= _;rfl)⟩)
def a2v:dv γ 22 uS:=dv.slice (e:=4) (by kernel_rfl:γ.underlying 22=β (.slice 78)) Ο δ a2o a2u
end Go.Proofs.YtcfpcblgmmeioaaGreat
namespace Go.Proofs.YtcfpcblgmmeioaaGreat.sweepWrong
open Go
def jA:(Rows.sweepWrongRow.inPlace==γ.inPlace 5)=true:=Ο
def jB:(Rows.sweepWrongRow.unfollowed==γ.unfollowed 5)=true:=Ο
def jC:(Rows.sweepWrongRow.named==γ.varsNamed 5)=true:=Ο
def jD:(laidOutB γ&&mapsRowed γ&&Tryz.f5.params.all (γ.readableRec ·)&&namedTie γ Rows.sweepWrongRow.named Rows.sweepWrongSpec.vars&&(γ.stops==[])&&(γ.stopKnobs==[]))=true:=Ο
def rZ:(Rows.sweepWrongRow.lifted==γ.liftsFinal)=true:=Ο
def jF:(γ.stopsHeard&&γ.mayEnter&&(γ.make==β Rows.sweepWrongRow.make)&&(Rows.sweepWrongRow.pinned==Rows.sweepWrongRow.pinnedBy))=true:=Ο
def a2w:joinedFacts γ 5 Tryz.f5 Rows.sweepWrongSpec Rows.sweepWrongRow=true:=by
 unfold joinedFacts;have d:=jA;have a:=jB;have h:=jC;have b:=jD;have k:=rZ;have c:=jF;simp only[Ξ]at b c;obtain⟨⟨⟨⟨⟨o,p⟩,r⟩,x⟩,y⟩,z⟩:=b;obtain⟨⟨⟨C,D⟩,E⟩,F⟩:=c;have G:(Rows.sweepWrongRow.recurses==γ.recurses 5)=true:=by have L:Rows.sweepWrongRow.unfollowed=γ.unfollowed 5:=eq_of_beq a;unfold Program.recurses;rw[<-L];rfl
 rw[d,a,h,o,p,r,x,y,z,k,C,D,E,F,G];decide+kernel
end Go.Proofs.YtcfpcblgmmeioaaGreat.sweepWrong
