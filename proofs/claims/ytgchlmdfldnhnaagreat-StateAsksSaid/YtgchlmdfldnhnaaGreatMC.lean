import Derived.Test.YtgchlmdfldnhnaaGreatMB
set_option linter.all false
open Option renaming some->γ,none->η
open Go.Proofs.Tryz renaming prog->δ
open Bool renaming true->ζ,false->κ
open List renaming replicate->θ,range->ψ,zipWith->Β,take_of_length_le->Λ,length->β
open Go.bw.U renaming ah->ξ,al->ο,set_set->υ
open BitVec renaming ofInt->ς
open Go.bw.R renaming cells->τ
open UInt8 renaming ofNat->φ
namespace Go.bw
open Go
abbrev cK.{a}{b:Sort a}(_:b):Type:=Unit
variable{K:Type}
def bT(a:K->Prop)(_:cK a)(b:K):Prop:=a b
def c7{a:Type}(b:K->a->Prop)(_:cK b)(c:K)(d:a):Prop:=b c d
def cv(a:Prop)(_:cK a):Prop:=a
def im{a:K->Prop}{c:cK a}{b:K}:bT a c b=a b:=rfl
def Um{b:Type}{a:K->b->Prop}{f:cK a}{c:K}{d:b}:c7 a f c d=a c d:=rfl
variable{Z e0 j0 k1:Prop}
def CS{a:cK Z}:cv Z a=Z:=rfl
def jt(b:U)(c:Nat->Prop):Prop:=∀a,b a=η->c a
def hq(a b:Prop):Prop:=a/\b
def CT{a:cK Z}(b:e0):hq e0 (cv Z a)=Z:=by simp[hq,cv,b]
def sO{a:cK Z}:hq True (cv Z a)=Z:=by simp[hq,cv]
variable{j3:dv}{e6:cg}{s b8:R}{u b2:R -> U -> Prop}{M:Bool}{X:Ctx}{h6:gK -> Fr -> U -> Prop}{l:Fr}{b9:FuncId}{g w h7:U}{N j2:Int}{e4:IntKind}{j B b7:ύ}{j7:ϋ}{e i t I b3 e5:Nat}{k0:Nat -> Prop}{b0:bq}{a8 e9:Operand}{a7 h5 j1:Own}{q:Program}{b6:TypeId}{e8:Value}
section
def Un:bR X .skip h6 l g=h6 .norm l g:=rfl
def Uo:bR X .ret h6 l g=h6 .ret l g:=rfl
def Up:bR X (.exit e) h6 l g=h6 (.exit e) l g:=rfl
def Uq{a:dv}:bR X (.seq j3 a) h6 l g=bR X j3 (fj (bR X a h6) h6) l g:=rfl
def Ur:bR X (.block e j3) h6 l g=bR X j3 (lO e h6) l g:=rfl
def Us{a:List c6}:bR X (.plain a) h6 l g=jo X a (h6 .norm) l g:=rfl
def Ut{a:List c6}{b:List dn}:bR X (.draw a b) h6 l g=can X (nth a) (h6 .norm) b l g:=rfl
def kQ(b:R)(c d:Prop):Prop:=
 match b with
 |.v (.bool a)=>(a=ζ->c)/\(a=κ->d)
 |_=>False
def xF{a:dv}:bR X (.cond a8 j3 a) h6 l g=kQ (ai l a8) (cv (bR X j3 h6 l g) ()) (cv (bR X a h6 l g) ()):=rfl
def CU{a:cK Z}:kQ (.v (.bool ζ)) (cv Z a) e0=Z:=by simp[kQ,cv]
def CV{a:cK Z}:kQ (.v (.bool κ)) e0 (cv Z a)=Z:=by simp[kQ,cv]
def Uu:bR X (.loop j3) h6 l g=cv (bR X (.loop j3) h6 l g) ():=rfl
def Uv{a:Fr->U->Prop}:fj a h6 .norm l g=a l g:=rfl
def Uw{a:Fr->U->Prop}:fj a h6 .ret l g=h6 .ret l g:=rfl
def Ux{a:Fr->U->Prop}:fj a h6 (.exit e) l g=h6 (.exit e) l g:=rfl
def Uy:lO e h6 .norm l g=h6 .norm l g:=rfl
def Uz:lO e h6 .ret l g=h6 .ret l g:=rfl
def UA:lO i h6 (.exit e) l g=(if e=i then h6 .norm l g else h6 (.exit e) l g):=by simp only[lO];split<;>rfl
def UB:lO e h6 (.exit e) l g=h6 .norm l g:=by simp[lO]
def UC{a:Fr->U->Prop}:jo X [] a l g=a l g:=rfl
def UD{a:Fr->U->Prop}{b:Option Nat}{c:List c6}:jo X (⟨b,e6,η⟩::c) a l g=G X e6 l g (λd f=>jo X c a (ds l b d) f):=rfl
def iq(b:R)(c:Bool)(d a:Prop):Prop:=
 match b with
 |.v (.bool f)=>if f=c then d else a
 |.aJ []=>a
 |_=>False
def UE{a:Fr->U->Prop}{b:Option Nat}{c:List c6}:
  jo X (⟨b,e6,γ (e,M)⟩::c) a l g=iq (l e) M (cv (G X e6 l g (λd f=>jo X c a (ds l b d) f)) ()) (cv (jo X c a (ds l b (.aJ [])) g) ()):=rfl
def UF{a:cK Z}:iq (.v (.bool ζ)) ζ (cv Z a) e0=Z:=by simp[iq,cv]
def UG{a:cK Z}:iq (.v (.bool κ)) κ (cv Z a) e0=Z:=by simp[iq,cv]
def UH{a:cK Z}:iq (.v (.bool ζ)) κ e0 (cv Z a)=Z:=by simp[iq,cv]
def UI{a:cK Z}:iq (.v (.bool κ)) ζ e0 (cv Z a)=Z:=by simp[iq,cv]
def UJ{a:cK Z}:iq (.aJ []) M e0 (cv Z a)=Z:=rfl
def UK{a:Bool}:iq (.v (.bool M)) a Z e0=((M=a->Z)/\(M=(!a)->e0)):=by cases M<;>cases a<;>simp[iq]
def UL{b:Nat->c6}{a:Fr->U->Prop}:can X b a [] l g=a l g:=rfl
def mM(a:c6)(b:c6->Prop):Prop:=b a
def UM{a:Option Nat}{b:Option (Nat×Bool)}{c:c6->Prop}:mM ⟨a,e6,b⟩ c=c ⟨a,e6,b⟩:=rfl
def UN{a:Nat->c6}{b:Fr->U->Prop}{c:List dn}:can X a b (⟨e,[],[]⟩::c) l g=mM (a e) (bT (λd=>T X d (λf h=>can X a b c f h) l g) ()):=by simp only[can,a8f,false_implies,implies_true,true_and,mM,bT]
def UO{a:Nat->c6}{b:Fr->U->Prop}{c:ϋ}{d:List dn}:can X a b (⟨e,i::j7,c⟩::d) l g=hq (mM (a i) (bT (λf=>Def X f l) ())) (cv (can X a b (⟨e,j7,c⟩::d) l g) ()):=by simp only[can,a7S,forall_eq_or_imp,hq,mM,bT,cv];exact propext and_assoc
def sP(c:Ctx)(a:c6)(b:Fr)(d:U):Prop:=
 match a.dst with
 |some f=>E c a b d λh _=>h=b f
 |none=>True
def oM(b:Ctx)(c:Nat->c6)(d:Fr)(f:U):ϋ->Prop->Prop
 |[],a=>a
 |h::k,a=>hq (mM (c h) (bT (λo=>sP b o d f) ())) (cv (oM b c d f k a) ())
def UP{a:Nat->c6}:oM X a l g [] Z=Z:=rfl
def UQ{a:Nat->c6}:oM X a l g (e::j7) Z=hq (mM (a e) (bT (λb=>sP X b l g) ())) (cv (oM X a l g j7 Z) ()):=rfl
theorem CW{a:Nat->c6}{b:Prop}:∀c,oM X a l g c b=((∀d∈c,hP X a d l g)/\b)
 |[]=>by simp[oM]
 |d::f=>by simp only[oM,CW f,hq,mM,bT,cv,a7S,forall_eq_or_imp,hP,sP];grind
def UR{a:Nat->c6}{b:Fr->U->Prop}{c:List dn}:can X a b (⟨e,[],i::j7⟩::c) l g=mM (a e) (bT (λh=>T X h (λd f=>oM X a d f (i::j7) (can X a b c d f)) l g) ()):=by simp only[can,a8f,false_implies,implies_true,true_and,mM,bT,CW]
def US{a:Option Nat}:Def X ⟨a,e6,η⟩ l=G X e6 l U.emp (λ_ _=>True):=rfl
def UT:sP X ⟨γ e,e6,η⟩ l g=G X e6 l g (λa _=>a=l e):=rfl
def UU{a:cK (λ_:Nat=>True)}:jt g (bT (λ_=>True) a)=True:=by simp[jt,bT]
def UW{a:c6}{b:List c6}:nth (a::b) 0=a:=rfl
def UX{b:c6}{a:List c6}:nth (b::a) (e+1)=nth a e:=rfl
def UY{a:Fr->U->Prop}{b:Option Nat}:T X ⟨b,e6,η⟩ a l g=G X e6 l g (λc d=>a (ds l b c) d):=rfl
def UZ{a:Fr->U->Prop}{b:Option Nat}:T X ⟨b,e6,γ (e,M)⟩ a l g=iq (l e) M (cv (G X e6 l g (λc d=>a (ds l b c) d)) ()) (cv (a (ds l b (.aJ [])) g) ()):=rfl
def V0:ds l (γ i) s e=if e=i then s else l e:=rfl
def V1:ds l η s e=l e:=rfl
def dw(a:Option R)(b:R->Prop):Prop:=
 match a with
 |some a=>b a
 |none=>False
def iK[Decidable Z]{a:R->Prop}:dw (if Z then γ s else η) a=(Z/\a s):=by split<;>simp[dw, *]
def V2{a:R->Prop}:dw (γ s) a=a s:=rfl
def nL(a:R)(b:R->Prop):Prop:=b a
def V3{a:R->Prop}:nL s a=a s:=rfl
def pN(a:Option ύ)(b:ύ->Prop):Prop:=
 match a with
 |some a=>b a
 |none=>False
def V4{a:ύ->Prop}:pN (γ j) a=a j:=rfl
section
def V5:G X (.dP a8) l g u=nL (ai l a8) (bT (λa=>u a g) ()):=rfl
def ux(a b c:R):Option R:=
 match a with
 |.v (.bool d)=>γ (if d then b else c)
 |_=>η
def V6:ux (.v (.bool ζ)) s b8=γ s:=rfl
def V7:ux (.v (.bool κ)) b8 s=γ s:=rfl
def V8{a:Operand}:G X (.pick e9 a8 a) l g u=dw (ux (ai l e9) (ai l a8) (ai l a)) (bT (λb=>u b g) ()):=by simp only[G,ux];generalize ai l e9=a8;cases a8<;>first|rfl|(rename_i v;cases v<;>rfl)
def V9:G X (.alloc b6 j) l g u=jt g (bT (λa=>u (.ptr a 0) (g.set a (.cells j))) ()):=rfl
def Va:G X (.box b6 a8) l g u=nL (ai l a8) (bT (λa=>hq (0<β a.cells) (cv (jt g (bT (λb=>u (.ptr b 0) (g.set b (.cells a.cells))) ())) ())) ()):=rfl
def Vb:G X (.lG b6 a8) l g u=nL (ai l a8) (bT (λa=>hq (0<β a.cells) (cv (jt g (bT (λb=>u (.ptr b 0) (g.set b (.ro a.cells))) ())) ())) ()):=rfl
def cO(b:Bool)(a:Nat)(c:U)(d:R):Option R:=
 match d with
 |.ptr f off=>match c.read f with
  |some cs=>if off+a<=β cs then γ (aX b a (cs.drop off))else η
  |none=>η
 |.c4 cs=>if a<=β cs then γ (aX b a cs)else η
 |_=>η
def r1(d:Bool)(b c:Nat)(a:Option ύ):Option R:=
 match a with
 |some a=>if c+b<=β a then γ (aX d b (a.drop c))else η
 |none=>η
def Vc:cO M e g (.ptr i t)=r1 M e t (g.read i):=rfl
def CX(a:i+e<=β j):r1 M e i (γ j)=γ (aX M e (j.drop i)):=by simp[r1,a]
def Vd(a:e<=β j):cO M e g (.c4 j)=γ (aX M e j):=by simp[cO,a]
def Ve:G X (.load M e a8) l g u=dw (cO M e g (ai l a8)) (bT (λa=>u a g) ()):=by
 simp only[G,cO];generalize ai l a8=b;cases b<;>first
  |rfl
  |(simp only[iK,im];done)
  |(rename_i c f;simp only[];generalize g.read c=d;cases d<;>first|rfl|(simp only[iK,im]))
def eE(a:U)(b:Nat):Option ύ:=
 match a b with
 |some (.cells cs)=>γ cs
 |_=>η
def xG(a:U)(b:Nat)(h:R)(c:ύ)(k:U->Prop):Prop:=
 match h with
 |.ptr d off=>pN (eE a d) λf=>hq (β c=b/\off+b<=β f) (k (a.set d (.cells (putAt f off c))))
 |_=>False
def Vf{a:U->Prop}:xG g e (.ptr i t) j a=pN (eE g i) (bT (λb=>hq (β j=e/\t+e<=β b) (cv (pN (γ (putAt b t j)) (bT (λc=>a (g.set i (.cells c))) ())) ())) ()):=rfl
def Vg:G X (.store e a8 e9) l g u=xG g e (ai l a8) (ai l e9).cells (bT (λa=>u (.aJ []) a) ()):=by
 simp only[G,xG];generalize ai l a8=b;cases b<;>first
  |rfl
  |(
    rename_i c f;simp only[eE];cases g c with
    |none=>rfl
    |some d=>cases d with
     |cells cs=>exact propext and_assoc.symm
     |_=>rfl)
def sQ(a:R):Option R:=
 match a with
 |.ptr b off=>γ (.ptr b off)
 |.c4 cs=>γ (.c4 cs)
 |.bG c cR cs=>γ (.bG c cR cs)
 |_=>η
def Vh:sQ (.ptr e i)=γ (.ptr e i):=rfl
def Vi:sQ (.c4 j)=γ (.c4 j):=rfl
def Vj:G X (.qJ a8) l g u=dw (sQ (ai l a8)) (bT (λa=>u a g) ()):=by simp only[G,sQ];generalize ai l a8=b;cases b<;>first|rfl|(rename_i v;cases v<;>rfl)
def sR(a:Nat)(b:R):Option R:=
 match b with
 |.ptr c d=>γ (.ptr c (d+a))
 |.c4 cs=>γ (.c4 (cs.drop a))
 |_=>η
def Vk:sR e (.ptr i t)=γ (.ptr i (t+e)):=rfl
def Vl:sR e (.c4 j)=γ (.c4 (j.drop e)):=rfl
def Vm:G X (.lH e a8) l g u=dw (sR e (ai l a8)) (bT (λa=>u a g) ()):=by simp only[G,sR];generalize ai l a8=b;cases b<;>first|rfl|(rename_i v;cases v<;>rfl)
def mN(b c:Nat)(d f:R):Option R:=
 match d,f with
 |.ptr h k,.v (.int _ a)=>if 0<=a/\a<c then γ (.ptr h (k+a.toNat*b))else η
 |.c4 cs,.v (.int _ a)=>if 0<=a/\a<c then γ (.c4 (cs.drop (a.toNat*b)))else η
 |_,_=>η
def sS(a:0<=N)(b:N<i):mN e i (.ptr t I) (.v (.int e4 N))=γ (.ptr t (I+N.toNat*e)):=by simp[mN,a,b]
def Vn(a:0<=N)(b:N<i):mN e i (.c4 j) (.v (.int e4 N))=γ (.c4 (j.drop (N.toNat*e))):=by simp[mN,a,b]
def Vo:G X (.qK e i a8 e9) l g u=dw (mN e i (ai l a8) (ai l e9)) (bT (λa=>u a g) ()):=by
 simp only[G,mN];generalize ai l a8=b;generalize ai l e9=c;cases b<;>first
  |rfl
  |(cases c<;>first
    |rfl
    |(rename_i d;cases d<;>first
      |rfl
      |(simp only[iK,im];exact propext and_assoc.symm)))
def fC(b:Nat)(a:Option R):Option R:=
 match a with
 |some a=>if β a.cells=b then γ (.c4 a.cells)else η
 |none=>η
def pO(a:β s.cells=e):fC e (γ s)=γ (.c4 s.cells):=by simp[fC,a]
def cU(b:Nat)(f h:R):Option R:=
 match f,h with
 |.J xs _,.v (.int _ a)=>if 0<=a then fC b xs[a.toNat]? else η
 |.bC c off len _ d,.v (.int _ a)=>if d=b/\0<=a/\a<len then γ (.ptr c (off+a.toNat*b))else η
 |.ar c len _ d,.v (.int _ a)=>if d=b/\0<=a/\a<len then γ (.ptr c (a.toNat*b))else η
 |_,_=>η
def ir(a:0<=N):cU e (.J j a7) (.v (.int e4 N))=fC e j[N.toNat]? :=by simp[cU,a]
theorem iL(a:0<=N)(b:N<t):cU e (.ar i t I e) (.v (.int e4 N))=γ (.ptr i (N.toNat*e)):=by simp[cU,a,b]
theorem sT(a:0<=N)(b:N<I):cU e (.bC i t I b3 e) (.v (.int e4 N))=γ (.ptr i (t+N.toNat*e)):=by simp[cU,a,b]
theorem Vp:G X (.dZ e a8 e9) l g u=dw (cU e (ai l a8) (ai l e9)) (bT (λc=>u c g) ()):=by
 simp only[G,cU];generalize ai l a8=d;generalize ai l e9=f;cases d<;>first
  |rfl
  |(cases f<;>first
    |rfl
    |(rename_i h;cases h<;>first
      |rfl
      |(
        simp only[iK,im];apply propext;constructor
        .rintro⟨k,o,p,r⟩;exact⟨⟨k,o,p⟩,r⟩
        simp_all)
      |(
        rename_i x z C a;by_cases b:0<=a
        .simp only[b,true_and,if_true,fC];generalize x[a.toNat]?=y;cases y<;>first|rfl|(simp only[iK,im])
        .simp[b,dw])))
def uy(c:Bool)(a b:Nat)(d:R):Option R:=
 match d with
 |.agg cs=>if a+b<=β cs then γ (aX c b (cs.drop a))else η
 |_=>η
def Vq(a:e+i<=β j):uy M e i (.agg j)=γ (aX M i (j.drop e)):=by simp[uy,a]
def Vr:G X (.ss M e i a8) l g u=dw (uy M e i (ai l a8)) (bT (λa=>u a g) ()):=by simp only[G,uy];generalize ai l a8=b;cases b<;>first|rfl|(simp only[iK,im])
def uz(a:U)(b:R):Option R:=
 match b with
 |.gr c=>match a c with
  |some (.mp us _)=>γ (.v (.int .i64 (β us)))
  |_=>η
 |_=>η
def Vs{a:List (R×R×Nat)}(b:g e=γ (.mp a i)):uz g (.gr e)=γ (.v (.int .i64 (β a))):=by simp[uz,b]
def Vt:G X (.pD a8) l g u=dw (uz g (ai l a8)) (bT (λa=>u a g) ()):=by simp only[G,uz];generalize ai l a8=b;cases b<;>first|rfl|(rename_i c;simp only[];cases g c with|none=>rfl|some d=>cases d<;>rfl)
def uA(c:Bool)(a d:Nat)(f h:R):Option R:=
 match f,h with
 |.agg cs,.v (.int _ b)=>if 0<=b/\b<d/\b.toNat*a+a<=β cs then γ (aX c a (cs.drop (b.toNat*a)))else η
 |_,_=>η
def Vu(a:0<=N)(b:N<i)(c:N.toNat*e+e<=β j):uA M e i (.agg j) (.v (.int e4 N))=γ (aX M e (j.drop (N.toNat*e))):=by simp[uA,a,b,c]
theorem Vv:G X (.qL M e i a8 e9) l g u=dw (uA M e i (ai l a8) (ai l e9)) (bT (λa=>u a g) ()):=by
 simp only[G,uA];generalize ai l a8=b;generalize ai l e9=c;cases b<;>first
  |rfl
  |(cases c<;>first
    |rfl
    |(rename_i d;cases d<;>first
      |rfl
      |(simp only[iK,im];grind)))
def pP(c:Fr)(a:ύ):List (Nat×Nat×Operand)->(ύ->Prop)->Prop
 |[],b=>b a
 |(off,ch,f)::h,b=>nL (ai c f) λd=>hq (β d.cells=ch/\off+ch<=β a) (pN (γ (putAt a off d.cells)) λk=>pP c k h b)
def Vw{a:ύ->Prop}:pP l j [] a=a j:=rfl
def Vx{a:List (Nat×Nat×Operand)}{b:ύ->Prop}:pP l j ((e,i,a8)::a) b=nL (ai l a8) (bT (λc=>hq (β c.cells=i/\e+i<=β j) (cv (pN (γ (putAt j e c.cells)) (bT (λd=>pP l d a b) ())) ())) ()):=rfl
theorem CY{b:ύ->Prop}:∀(c:List (Nat×Nat×Operand))(a:ύ),kN l a c b=pP l a c b
 |[],_=>rfl
 |(off,ch,f)::d,a=>by
  simp only[kN,pP,nL,hq,pN,CY d];grind
def Vy{a:List (Nat×Nat×Operand)}:G X (.mz j a) l g u=pP l j a λb=>u (.agg b) g:=CY a j
def gX(b:R):Option R:=
 match b with
 |.J xs _=>γ (.v (.int .i64 (β xs)))
 |.bC _ _ a _ _=>γ (.v (.int .i64 a))
 |.ar _ a _ _=>γ (.v (.int .i64 a))
 |_=>η
def Vz:gX (.ar i e t I)=γ (.v (.int .i64 e)):=rfl
def VA:gX (.J j a7)=γ (.v (.int .i64 (β j))):=rfl
def VB:gX (.bC i t e I b3)=γ (.v (.int .i64 e)):=rfl
def VC:G X (.len a8) l g u=dw (gX (ai l a8)) (bT (λa=>u a g) ()):=by simp only[G,gX];generalize ai l a8=b;cases b<;>rfl
def ju(c:BinOp)(a b:R):Option R:=
 match a,b with
 |.v a,.v b=>(bj c a b).map .v
 |_,_=>η
theorem sU{a:BinOp}{b:Value}:ju a (.v e8) (.v b)=(bj a e8 b).map .v:=rfl
def VD{a:BinOp}:G X (.bin a a8 e9) l g u=dw (ju a (ai l a8) (ai l e9)) (bT (λb=>u b g) ()):=by
 simp only[G,ju];generalize ai l a8=c;generalize ai l e9=d;cases c<;>first
  |rfl
  |(cases d<;>first
    |rfl
    |(rename_i v f;simp only[];generalize bj a v f=h;cases h<;>rfl))
def xH(b:UnOp)(a:R):Option R:=
 match a with
 |.v a=>(oG b a).map .v
 |_=>η
def VE{a:UnOp}:xH a (.v e8)=(oG a e8).map .v:=rfl
def VF{a:UnOp}:G X (.un a a8) l g u=dw (xH a (ai l a8)) (bT (λb=>u b g) ()):=by simp only[G,xH];generalize ai l a8=c;cases c<;>first|rfl|(rename_i v;simp only[];generalize oG a v=d;cases d<;>rfl)
def xI(a:IntKind)(b:R):Option R:=
 match b with
 |.v (.int _ c)=>γ (.v (.int a (a.wrap c)))
 |_=>η
def VG{a:IntKind}:xI e4 (.v (.int a N))=γ (.v (.int e4 (e4.wrap N))):=rfl
def VH:G X (.jk e4 a8) l g u=dw (xI e4 (ai l a8)) (bT (λa=>u a g) ()):=by simp only[G,xI];generalize ai l a8=b;cases b<;>first|rfl|(rename_i v;cases v<;>rfl)
def pQ(a:Ctx)(b:FuncId)(c:ύ)(d:U)(f:R->U->Prop):Prop:=ik a.p b c d f (up a.k)
def VI{a:List Operand}:G X (.gv b9 a) l g u=pQ X b9 (a.map (ai l)) g (c7 u ()):=rfl
def xJ(a:Nat)(b:R):Option R:=
 match b with
 |.aJ c=>c[a]?
 |_=>η
def VJ:xJ e (.aJ j)=j[e]? :=rfl
def VK:G X (.ext a8 e) l g u=dw (xJ e (ai l a8)) (bT (λa=>u a g) ()):=by simp only[G,xJ];generalize ai l a8=b;cases b<;>first|rfl|(rename_i c;cases c[e]? <;>rfl)
def xK(c:Bool)(a b:R):Option R:=
 match a,b with
 |.v (.bool a),.v (.bool b)=>γ (.v (.bool (xor c (a==b))))
 |_,_=>η
def VL{a b:Bool}:xK M (.v (.bool a)) (.v (.bool b))=γ (.v (.bool (xor M (a==b)))):=rfl
def VM:G X (.qO M a8 e9) l g u=dw (xK M (ai l a8) (ai l e9)) (bT (λd=>u d g) ()):=by
 simp only[G,xK];generalize ai l a8=f;generalize ai l e9=c;cases f<;>first
  |rfl
  |(rename_i v;cases v<;>first
    |rfl
    |(cases c<;>first|rfl|(rename_i b;cases b<;>first|rfl|(rename_i a;cases a<;>rfl)))
    |(rename_i a;cases a<;>first|rfl|(cases c<;>first|rfl|(rename_i b;cases b<;>first|rfl|(rename_i a;cases a<;>rfl)))))
  |(cases c<;>first|rfl|(rename_i b;cases b<;>first|rfl|(rename_i a;cases a<;>rfl)))
def sV(a:Bool)(b c:R):Option R:=
 match b,c with
 |.ptr _ _,.v (.pointer η)=>γ (.v (.bool a))
 |.c4 _,.v (.pointer η)=>γ (.v (.bool a))
 |.v (.pointer η),.v (.pointer η)=>γ (.v (.bool (!a)))
 |_,_=>η
def VN:sV M (.ptr e i) (.v (.pointer η))=γ (.v (.bool M)):=rfl
def VO:sV M (.c4 j) (.v (.pointer η))=γ (.v (.bool M)):=rfl
def VP:sV M (.v (.pointer η)) (.v (.pointer η))=γ (.v (.bool (!M))):=rfl
def VQ:G X (.qN M a8 e9) l g u=dw (sV M (ai l a8) (ai l e9)) (bT (λd=>u d g) ()):=by
 simp only[G,sV];generalize ai l a8=f;generalize ai l e9=c;cases f<;>first
  |rfl
  |(rename_i v;cases v<;>first
    |rfl
    |(cases c<;>first|rfl|(rename_i b;cases b<;>first|rfl|(rename_i a;cases a<;>rfl)))
    |(rename_i a;cases a<;>first|rfl|(cases c<;>first|rfl|(rename_i b;cases b<;>first|rfl|(rename_i a;cases a<;>rfl)))))
  |(cases c<;>first|rfl|(rename_i b;cases b<;>first|rfl|(rename_i a;cases a<;>rfl))|(simp only[iK,im];done))
def intOf(a:R):Option Int:=
 match a with
 |.v (.int _ b)=>γ b
 |_=>η
end
def pR(a:List (Nat×Option (Bool×Nat)))(b:R->U->Prop):gK->Fr->U->Prop:=qY ⟨0,0,.skip,a⟩ b
def bh(c:q.follows .mixedOrders=ζ){a:List (Nat×Option (Bool×Nat))}(d:cu q I i=γ ⟨e,t,j3,a⟩)(f:β j<=e)
  (h:bR (Ctx.of q) j3 (pR a u) (mK j) g):AC q i j g u:=by
 refine Lq c d f ?_;have b:qY ⟨e,t,j3,a⟩ u=pR a u:=by funext b l g;rfl
 rw[b];exact h
def VR:mK j e=j.getD e (.aJ []):=rfl
theorem VS{c:au}:qY c u .ret l g=dw (jr l g c.results) λd=>∃b,b.sub g/\u d b:=by
 apply propext;simp only[qY];constructor
 .rintro⟨d,b,a,f,h⟩;rw[a];exact⟨b,f,h⟩
 .intro a;cases k:jr l g c.results with
  |none=>rw[k]at a;exact a.elim
  |some d=>rw[k]at a;obtain⟨b,f,h⟩:=a;grind
def VT{a:List (Nat×Option (Bool×Nat))}:pR a u .ret l g=dw (jr l g a) (bT (λc=>∃b,b.sub g/\u c b) ()):=VS
def VU{a:List (Nat×Option (Bool×Nat))}:pR a u .norm l g=pR a u .ret l g:=rfl
def VV:jr l g []=γ (.aJ []):=rfl
def VW{a:Nat×Option (Bool×Nat)}:jr l g [a]=gL l g a:=by simp only[jr,fL];cases gL l g a<;>rfl
def VX:gL l g (e,η)=γ (l e):=rfl
def CZ(a:Bool)(b:Nat)(c:U)(d:R):Option R:=
 match d with
 |.ptr f off=>r1 a b off (c.read f)
 |_=>η
def VY:CZ M e g (.ptr i t)=r1 M e t (g.read i):=rfl
def VZ:gL l g (e,γ (M,i))=CZ M i g (l e):=by rfl
def U.uB:(g.set i b0) e=if e=i then γ b0 else g e:=rfl
def U.D0:(g.set e (.cells j)).read e=γ j:=by simp[U.read,U.set]
def U.W0:(g.set e (.ro j)).read e=γ j:=by simp[U.read,U.set]
def U.W1(a:e≠i):(g.set i b0).read e=g.read e:=by simp[U.read,U.set,a]
def U.W2:eE (g.set e (.cells j)) e=γ j:=by simp[eE,U.set]
def U.W3(a:e≠i):eE (g.set i b0) e=eE g e:=by simp[eE,U.set,a]
def U.ad(a:g e=γ (.cells j)):g.read e=γ j:=by simp[U.read,a]
def U.aO(a:g e=γ (.cells j)):eE g e=γ j:=by simp[eE,a]
theorem U.hr(a:(g.set i b0) e=η):e≠i/\g e=none:=by grind[U.set]
def U.D1{b a:bq}(c:i≠e):((g.set e b).set i a).set e b0=((g.set e b0).set i a):=by rw[U.er _ c,υ]
def U.D2{c a b:bq}(d:i≠e)(f:t≠e):(((g.set e c).set i a).set t b).set e b0=(((g.set e b0).set i a).set t b):=by rw[U.er _ f,D1 d]
def U.D3{d a b c:bq}(f:i≠e)(h:t≠e)(k:I≠e):((((g.set e d).set i a).set t b).set I c).set e b0=((((g.set e b0).set i a).set t b).set I c):=by rw[U.er _ k,D2 f h]
def U.D4{f a b c d:bq}(h:i≠e)(k:t≠e)(o:I≠e)(p:b3≠e):(((((g.set e f).set i a).set t b).set I c).set b3 d).set e b0=(((((g.set e b0).set i a).set t b).set I c).set b3 d):=by rw[U.er _ p,D3 h k o]
def U.D5{h a b c d f:bq}(k:i≠e)(o:t≠e)(p:I≠e)(r:b3≠e)(x:e5≠e):((((((g.set e h).set i a).set t b).set I c).set b3 d).set e5 f).set e b0=((((((g.set e b0).set i a).set t b).set I c).set b3 d).set e5 f):=by rw[U.er _ x,D4 k o p r]
def U.D6{a:Nat}{o b c d f h k:bq}(p:i≠e)(r:t≠e)(x:I≠e)(y:b3≠e)(z:e5≠e)(C:a≠e):(((((((g.set e o).set i b).set t c).set I d).set b3 f).set e5 h).set a k).set e b0=(((((((g.set e b0).set i b).set t c).set I d).set b3 f).set e5 h).set a k):=by rw[U.er _ C,D5 p r x y z]
def U.D7{a b:Nat}{r c d f h k o p:bq}(x:i≠e)(y:t≠e)(z:I≠e)(C:b3≠e)(D:e5≠e)(E:a≠e)(F:b≠e):((((((((g.set e r).set i c).set t d).set I f).set b3 h).set e5 k).set a o).set b p).set e b0=((((((((g.set e b0).set i c).set t d).set I f).set b3 h).set e5 k).set a o).set b p):=by rw[U.er _ F,D6 x y z C D E]
def U.W4{a b c:Nat}{y d f h k o p r x:bq}(z:i≠e)(C:t≠e)(D:I≠e)(E:b3≠e)(F:e5≠e)(G:a≠e)(L:b≠e)(P:c≠e):(((((((((g.set e y).set i d).set t f).set I h).set b3 k).set e5 o).set a p).set b r).set c x).set e b0=(((((((((g.set e b0).set i d).set t f).set I h).set b3 k).set e5 o).set a p).set b r).set c x):=by rw[U.er _ P,D7 z C D E F G L]
def aR{b:cK k0}(c:∀a,g a=η->k0 a):jt g (bT k0 b):=c
def cZ{f:cK (bR X (.loop j3) h6 l g)}(a:Fr->U->Prop)(b:Fr->U->Nat)(h:a l g)(k:∀l g,a l g->bR X j3 (fj (λc d=>a c d/\b c d<b l g) h6) l g):
  cv (bR X (.loop j3) h6 l g) f:=⟨a,b,h,k⟩
theorem ak{c:cK u}(d:AC X.p b9 j g b2)(f:∀a b,b2 a b->u a b):pQ X b9 j g (c7 u c):=(d.mono f).p
theorem U.a1:g.sub g:=λ_ _ a=>a
theorem U.ae(a:w.sub g)(c:w e=η):w.sub (g.set e b0):=λd f b=>by
 rw[U.uB];split;simp_all
 .exact a _ _ b
theorem U.lP(b:w.sub g):(w.set e b0).sub (g.set e b0):=λd f a=>by
 rw[U.uB]at a|-;split;simp_all
 .rename_i c;rw[if_neg c]at a;exact b _ _ a
end
theorem wrap_i64(c: -9223372036854775808<=N)(d:N<9223372036854775808):IntKind.i64.wrap N=N:=by have a:((2:Int)^IntKind.i64.bits)=18446744073709551616:=rfl;have b:((2:Int)^(IntKind.i64.bits - 1))=9223372036854775808:=rfl;simp only[IntKind.wrap,a,b,IntKind.signed,a8J,decide_eq_true_eq];omega
theorem lQ:IntKind.u64.wrap N=N%18446744073709551616:=by have a:((2:Int)^IntKind.u64.bits)=18446744073709551616:=rfl;rfl
def xL:IntKind.u32.wrap N=N%4294967296:=by have a:((2:Int)^IntKind.u32.bits)=4294967296:=rfl;rfl
def uC:IntKind.u8.wrap N=N%256:=by have a:((2:Int)^IntKind.u8.bits)=256:=rfl;rfl
theorem wrap_u64(a:0<=N)(b:N<18446744073709551616):IntKind.u64.wrap N=N:=by rw[lQ];omega
def wrap_u32(a:0<=N)(b:N<4294967296):IntKind.u32.wrap N=N:=by rw[xL];omega
theorem wrap_u8(a:0<=N)(b:N<256):IntKind.u8.wrap N=N:=by rw[uC];omega
def W5(a:UInt8):IntKind.u32.wrap (a.toNat:Int)=(a.toUInt32.toNat:Int):=by have:=a.toNat_lt;rw[wrap_u32 ε ε];simp
def W6(a:UInt8):IntKind.u64.wrap (a.toNat:Int)=(a.toUInt64.toNat:Int):=by have:=a.toNat_lt;rw[wrap_u64 ε ε];simp
def W7(a:UInt32):IntKind.u8.wrap (a.toNat:Int)=(a.toUInt8.toNat:Int):=by rw[uC];simp
def W8(a:UInt64):IntKind.u8.wrap (a.toNat:Int)=(a.toUInt8.toNat:Int):=by rw[uC];simp
section
variable(a b:Int)
def W9:bj .add (.int .i64 a) (.int .i64 b)=γ (.int .i64 (IntKind.i64.wrap (a+b))):=rfl
def Wa:bj .sub (.int .i64 a) (.int .i64 b)=γ (.int .i64 (IntKind.i64.wrap (a - b))):=rfl
def Wb:bj .mul (.int .i64 a) (.int .i64 b)=γ (.int .i64 (IntKind.i64.wrap (a*b))):=rfl
def Wc(c:b≠0):bj .quo (.int .i64 a) (.int .i64 b)=γ (.int .i64 (IntKind.i64.wrap (a.tdiv b))):=by simp[bj,gI,ka,c]
def Wd(c:b≠0):bj .rem (.int .i64 a) (.int .i64 b)=γ (.int .i64 (a.tmod b)):=by simp[bj,gI,ka,c]
variable(k:IntKind)
def We:bj .eql (.int k a) (.int k b)=γ (.bool (decide (a=b))):=by simp[bj,gI,ka]
def Wf:bj .neq (.int k a) (.int k b)=γ (.bool (decide (a≠b))):=by simp[bj,gI,ka]
def Wg:bj .lss (.int k a) (.int k b)=γ (.bool (decide (a<b))):=by simp[bj,gI,ka]
def Wh:bj .leq (.int k a) (.int k b)=γ (.bool (decide (a<=b))):=by simp[bj,gI,ka]
def Wi:bj .gtr (.int k a) (.int k b)=γ (.bool (decide (b<a))):=by simp[bj,gI,ka]
def Wj:bj .geq (.int k a) (.int k b)=γ (.bool (decide (b<=a))):=by simp[bj,gI,ka]
def Wk(c:Bool):oG .not (.bool c)=γ (.bool !c):=rfl
end
def Wl(a b:Int):bj .add (.int .u64 a) (.int .u64 b)=γ (.int .u64 (IntKind.u64.wrap (a+b))):=rfl
def Wm(a b:Int):bj .sub (.int .u64 a) (.int .u64 b)=γ (.int .u64 (IntKind.u64.wrap (a - b))):=rfl
def Wn(a b:Int):bj .mul (.int .u64 a) (.int .u64 b)=γ (.int .u64 (IntKind.u64.wrap (a*b))):=rfl
theorem sW(c:Nat)(d:IntKind)(b:Int)(h:0<=b)(k:b<64):bj .shr (.int .u64 c) (.int d b)=γ (.int .u64 (c>>>b.toNat:Nat)):=by
 obtain⟨a,rfl⟩:∃a:Nat,b=a:=⟨b.toNat,ε⟩;have f:min a IntKind.u64.bits=a:=by simp[IntKind.bits];omega
 have o:(2)^a=((2^a:Nat):Int):=σ;simp only[bj,gI,if_true,oF,if_neg (show¬(a:Int)<0 by omega),a8a,f,a9e];grind
def pS(a:Nat):IntKind.u8.wrap (a:Int)=((φ a).toNat:Int):=by rw[uC];simp
variable{O:ϊ}
theorem Wo(a:0<=N)(b:N.toNat<β O):cU 1 (.J (O.map av) a7) (.v (.int e4 N))=γ (.c4 [.v (.int .u8 (O.getD N.toNat 0).toNat)]):=by
 rw[ir a,a7Z,Τ b];have:O.getD N.toNat 0=O[N.toNat]:=by simp_all
 rw[this];rfl
def Wp(a:Decidable True):@decide True a=true:=σ
def Wq(a:Decidable False):@decide False a=false:=σ
def D8:aX ζ e j=.agg (j.take e):=rfl
def D9:τ (.J j a7)=[.J j a7]:=rfl
def Da:τ (.v e8)=[.v e8]:=rfl
def Db:τ (.ptr e i)=[.ptr e i]:=rfl
def Dc:τ (.c4 j)=[.c4 j]:=rfl
def Dd:τ (.iface b6 s)=[.iface b6 s]:=rfl
def ft:τ (.agg j)=j:=rfl
theorem uD(a:β j=β B):putAt B 0 j=j:=by simp[putAt,a]
def Wr:aX κ 1 (s::j)=s:=rfl
section
variable(x y:UInt32)
def Ws:bj .add (.int .u32 x.toNat) (.int .u32 y.toNat)=γ (.int .u32 (x+y).toNat):=by rfl
def Wt:bj .sub (.int .u32 x.toNat) (.int .u32 y.toNat)=γ (.int .u32 (x - y).toNat):=by have:=x.toNat_lt;have:=y.toNat_lt;simp only[bj,gI,ka,xL,UInt32.toNat_sub];simp;omega
def Wu:bj .mul (.int .u32 x.toNat) (.int .u32 y.toNat)=γ (.int .u32 (x*y).toNat):=by rfl
def uE(a:Nat)(b:a<4294967296):IntKind.u32.wrap (a:Int)=a:=wrap_u32 ε ε
def ofInt_u32:ς 32 (x.toNat:Int)=x.toBitVec:=by simp
def Wv:bj .and (.int .u32 x.toNat) (.int .u32 y.toNat)=γ (.int .u32 (x&&&y).toNat):=by have a:bj .and (.int .u32 x.toNat) (.int .u32 y.toNat)=γ (.int .u32 (IntKind.u32.wrap (ς 32 (x.toNat)&&&ς 32 (y.toNat)).toNat)):=rfl;rw[a,ofInt_u32,ofInt_u32,uE _ (abm _)];rfl
def Ww:bj .or (.int .u32 x.toNat) (.int .u32 y.toNat)=γ (.int .u32 (x|||y).toNat):=by have a:bj .or (.int .u32 x.toNat) (.int .u32 y.toNat)=γ (.int .u32 (IntKind.u32.wrap (ς 32 (x.toNat)|||ς 32 (y.toNat)).toNat)):=rfl;rw[a,ofInt_u32,ofInt_u32,uE _ (abm _)];rfl
def Wx:bj .xor (.int .u32 x.toNat) (.int .u32 y.toNat)=γ (.int .u32 (x^^^y).toNat):=by have a:bj .xor (.int .u32 x.toNat) (.int .u32 y.toNat)=γ (.int .u32 (IntKind.u32.wrap (ς 32 (x.toNat)^^^ς 32 (y.toNat)).toNat)):=rfl;rw[a,ofInt_u32,ofInt_u32,uE _ (abm _)];rfl
def Wy:oG .xor (.int .u32 x.toNat)=γ (.int .u32 (~~~x).toNat):=by
 have a:oG .xor (.int .u32 x.toNat)=γ (.int .u32 (IntKind.u32.wrap (ς 32 4294967295^^^ς 32 (x.toNat)).toNat)):=rfl;rw[a,ofInt_u32,uE _ (abm _)];have:(ς 32 4294967295^^^x.toBitVec)= ~~~x.toBitVec:=by rw[BitVec.not_def];rfl
 rw[this];rfl
theorem Wz(c:IntKind)(a:Int)(f:0<=a)(h:a<32):bj .shl (.int .u32 x.toNat) (.int c a)=γ (.int .u32 (x<<<UInt32.ofNat a.toNat).toNat):=by
 obtain⟨b,rfl⟩:∃b:Nat,a=b:=⟨a.toNat,ε⟩;have hm:b<32:=ε;have d:min b IntKind.u32.bits=b:=by simp[IntKind.bits];omega
 simp only[bj,gI,if_true,oF,if_neg (show¬(b:Int)<0 by omega),a8a,d,xL,UInt32.toNat_shiftLeft,UInt32.toNat_ofNat',ab9];grind
theorem WA(c:IntKind)(a:Int)(f:0<=a)(h:a<32):bj .shr (.int .u32 x.toNat) (.int c a)=γ (.int .u32 (x>>>UInt32.ofNat a.toNat).toNat):=by
 obtain⟨b,rfl⟩:∃b:Nat,a=b:=⟨a.toNat,ε⟩;have hm:b<32:=ε;have d:min b IntKind.u32.bits=b:=by simp[IntKind.bits];omega
 simp only[bj,gI,if_true,oF,if_neg (show¬(b:Int)<0 by omega),a8a,d,UInt32.toNat_shiftRight,UInt32.toNat_ofNat',a9e];grind
end
def ba(a:Nat)(b:ύ):Prop:=∀c∈b,β c.cells=a
def WB:ba e []=True:=by simp[ba]
def De:ba e (s::j)=(β s.cells=e/\ba e j):=by simp[ba]
theorem WC:ba e (j++B)=(ba e j/\ba e B):=by grind[ba]
theorem uF:ba 1 (O.map av)=True:=by simp[ba,av,τ]
def bk(a b:U)(f:Nat)(c:ύ)(h:Own):Prop:=
 a.sub b/\match h with
  |.buf d k=>a d=η/\b d=γ (.buf f (β c) k)
  |.any=>False
  |_=>c=[]
theorem U.ao(c:g.sub w)(d:w.sub h7):g.sub h7:=λa b f=>d a b (c a b f)
def U.bH(b:g.sub w)(a:w e=η):g e=none:=by
 cases bQ:g e with
 |none=>rfl
 |some c=>rw[b e c bQ]at a;cases a
theorem bk.nil(a:w.sub g){b:Nat}:bk w g b [] .nil:=⟨a,rfl⟩
def bk.zero(a:w.sub g){b:Nat}:bk w g b [] .zero:=⟨a,rfl⟩
def bk.sub{a:Nat}{b:ύ}{c:Own}(d:bk w g a b c):w.sub g:=d.1
theorem bk.base{o:Own}(b:bk w g e j o)(c:h7.sub w):bk h7 g e j o:=by
 refine⟨U.ao c b.1,?_⟩;have a:=b.2;cases o with
 |buf d f=>exact⟨U.bH c a.1,a.2⟩
 |_=>exact a
def bk.mono(b:bk w g e j a7)(c:g.sub h7):bk w h7 e j a7:=by
 refine⟨U.ao b.1 c,?_⟩;have a:=b.2;cases a7 with
 |buf d f=>exact⟨a.1,c _ _ a.2⟩
 |_=>exact a
theorem bk.set{c a:Nat}{d:ύ}{b:Own}{ob o:bq}(f:bk w g c d b)(h:w a=γ o):bk (w.set a ob) (g.set a ob) c d b:=by
 refine⟨U.lP f.1,?_⟩;have k:=f.2;cases b with
 |buf p r=>
  have x:p≠a:=by rintro rfl;rw[k.1]at h;cases h
  grind[ο]
 |_=>exact k
theorem bk.new{ob:bq}(a:bk w g i j a7)(b:g e=η):bk (w.set e ob) (g.set e ob) i j a7:=by
 refine⟨U.lP a.1,?_⟩;have c:=a.2;cases a7 with
 |buf d f=>
  have h:d≠e:=by rintro rfl;rw[c.2]at b;cases b
  grind[ο]
 |_=>exact c
def nM(d r:Nat)(c:U)(x y:R)(h:R->U->Prop):Prop:=
 match x,y with
 |.J xs p,.J a _=>(∀k∈xs,β k.cells=d)/\(∀k∈a,β k.cells=d)/\(β xs+β a)*r<=140737488355328/\β xs+β a<=9223372036854775807/\
   match p with
   |.buf o z=>c o=γ (.buf d (β xs) z)/\∀b f,(b=o\/c b=η)->h (.J (xs++a) (.buf b f)) ((c.del o).set b (.buf d (β xs+β a) f))
   |.any=>False
   |_=>xs=[]/\(if a=[]then h (.J [] p) c else∀b f,c b=η->h (.J a (.buf b f)) (c.set b (.buf d (β a) f)))
 |_,_=>False
def WD:G X (.app e i a8 e9) l g u=nM e i g (ai l a8) (ai l e9) (c7 u ()):=rfl
theorem ef{z:cK u}(a:bk w g e j a7)(C:ba e j)(D:ba e B)(E:(β j+β B)*i<=140737488355328)(F:β j+β B<=9223372036854775807)
  (c:∀o p,bk w p e (j++B) o->u (.J (j++B) o) p):nM e i g (.J j a7) (.J B h5) (c7 u z):=by
 have d:=a.2;refine⟨C,D,E,F,?_⟩;cases a7 with
 |any=>trivial
 |nil=>
  obtain rfl:j=[]:=d;refine⟨rfl,?_⟩;split
  .rename_i f;subst f;exact c _ _ ⟨a.1,rfl⟩
  .intro h r b;refine c _ _ ⟨U.ae a.1 (U.bH a.1 b),U.bH a.1 b,?_⟩;rw[ξ];simp
 |zero=>
  obtain rfl:j=[]:=d;refine⟨rfl,?_⟩;split
  .rename_i f;subst f;exact c _ _ ⟨a.1,rfl⟩
  .intro h r b;refine c _ _ ⟨U.ae a.1 (U.bH a.1 b),U.bH a.1 b,?_⟩;rw[ξ];simp
 |buf G S=>
  refine⟨d.2,λh r b=>c _ _ ?_⟩;have x:w h=none:=by rcases b with rfl|b;exact d.1;exact U.bH a.1 b
  refine⟨U.ae (λy L k=>?_) x,x,?_⟩
  .have P:y≠G:=by rintro rfl;rw[d.1]at k;cases k
   rw[U.eX _ P];exact a.1 y L k
  .rw[ξ,Ρ]
def kg(d:Nat)(b:U)(a:ύ)(f:R->U->Prop):Prop:=
 (∀h∈a,β h.cells=d)/\(if β a=0 then f (.J [] .zero) b else∀c,b c=η->f (.J a (.buf c (β a))) (b.set c (.buf d (β a) (β a))))
def WE{a:List Operand}:G X (.kH e a) l g u=kg e g (a.map (ai l)) (c7 u ()):=by simp only[G,kg,c7,a7Q]
def eF{h:cK u}(a:w.sub g)(k:ba e j)(b:∀c d,bk w d e j c->u (.J j c) d):kg e g j (c7 u h):=by
 refine⟨k,?_⟩;split
 .rename_i o;obtain rfl:=a7y o;exact b _ _ ⟨a,rfl⟩
 .intro p f;exact b _ _ ⟨U.ae a (U.bH a f),U.bH a f,by rw[ξ]⟩
def cH(a:Option R)(b:Nat):Option Int:=
 match a with
 |none=>γ b
 |some c=>intOf c
def fD(a:Own)(b c:Option R):Own:=
 match b,c with
 |none,η=>a
 |_,_=>.any
def dU(c:Nat)(a:R)(d f:Option R):Option R:=
 match a with
 |.J xs o=>match cH d 0,cH f (β xs) with
  |some a,γ b=>if 0<=a/\a<=b/\b<=β xs/\xs.all (λp=>decide (β p.cells=c))then γ (.J ((xs.take b.toNat).drop a.toNat) (fD o d f))else η
  |_,_=>η
 |.bC h off len cap k=>match cH d 0,cH f len with
  |some a,γ b=>if k=c/\0<=a/\a<=b/\b<=len/\a<len then γ (.bC h (off+a.toNat*c) (b.toNat - a.toNat) (cap - a.toNat) c)else η
  |_,_=>η
 |.ar h len cap k=>match cH d 0,cH f len with
  |some a,γ b=>if k=c/\0<=a/\a<=b/\b<=len/\(d.isSome=ζ->a<len)then γ (sw d.isSome h a.toNat b.toNat cap c)else η
  |_,_=>η
 |_=>η
def xM(a:Option Operand)(b:Nat):dF l a b=cH (a.map (ai l)) b:=by
 cases a with
 |none=>rfl
 |some a=>simp only[dF,cH,a8z,intOf];rfl
def WG(a b:Option Operand):wW a7 a b=fD a7 (a.map (ai l)) (b.map (ai l)):=by cases a<;>cases b<;>rfl
theorem WH{a d:Option Operand}:G X (.pC e a8 a d) l g u=dw (dU e (ai l a8) (a.map (ai l)) (d.map (ai l))) (bT (λk=>u k g) ()):=by
 have o:a.isSome=(a.map (ai l)).isSome:=σ;simp only[G,dU,xM,WG (l:=l) a d,o];generalize ai l a8=p;generalize a.map (ai l)=f;generalize d.map (ai l)=h;cases p<;>try rfl
 .rename_i r C;simp only[];generalize cH f 0=b;generalize cH h (β r)=c;cases b<;>cases c<;>try rfl
  simp only[iK,im,a7L,decide_eq_true_eq];grind
 .rename_i x D len y z;simp only[];generalize cH f 0=b;generalize cH h len=c;cases b<;>cases c<;>try rfl
  simp only[iK,im];grind
 .rename_i x len y z;simp only[];generalize cH f 0=b;generalize cH h len=c;cases b<;>cases c<;>try rfl
  simp only[iK,im];grind
def WI(a:0<=N)(b:N<=t):dU e (.ar i t I e) η (γ (.v (.int e4 N)))=γ (.ar i N.toNat I e):=by simp[dU,cH,intOf,a,b,sw]
def WJ(a:ba e j):dU e (.J j a7) η η=γ (.J j a7):=by
 have:(j.all λb=>decide (β b.cells=e))=true:=by simpa[ba] using a
 simp[dU,cH,fD,this]
theorem pT(a:0<=N)(b:N<=β j)(c:ba e j):dU e (.J j a7) (γ (.v (.int e4 N))) η=γ (.J (j.drop N.toNat) .any):=by
 have:(j.all λd=>decide (β d.cells=e))=true:=by simpa[ba] using c
 simp[dU,cH,fD,intOf,this,a,b]
theorem nN{c:Nat}{a:ύ}{d:Own}{f:IntKind}{b:Int}(h:0<=b)(k:b<=β a)(o:ba c a):dU c (.J a d) η (γ (.v (.int f b)))=γ (.J (a.take b.toNat) .any):=by grind[decide,ba,dU,cH,fD,intOf]
theorem Df{a:IntKind}(b:0<=N)(c:N<=j2)(d:j2<=β j)(f:ba e j):dU e (.J j a7) (γ (.v (.int e4 N))) (γ (.v (.int a j2)))=γ (.J ((j.take j2.toNat).drop N.toNat) .any):=by grind[decide,ba,dU,cH,fD,intOf]
def xN(b:Bool)(a:List (Nat×bZ))(c d:R)(f:R->Prop):Prop:=
 match c,d with
 |.agg cs,.agg cR=>dO a cs/\dO a cR/\f (.v (.bool (xor b (peq (.agg cs) (.agg cR)))))
 |_,_=>False
variable{j9:List (Nat × bZ)}
def WK:G X (.eqv M j9 a8 e9) l g u=xN M j9 (ai l a8) (ai l e9) (bT (λa=>u a g) ()):=rfl
theorem WL{a:R->Prop}:xN M j9 (.agg j) (.agg B) a=hq (dO j9 j/\dO j9 B) (cv (a (.v (.bool (xor M (peq (.agg j) (.agg B)))))) ()):=by simp only[xN,hq,cv];grind
def WM:(O.map av).drop e=(O.drop e).map av:=σ
def WN:(O.map av).take e=(O.take e).map av:=σ
def bk.WO(a:w.sub g):bk w g 1 (([]:ϊ).map av) .nil:=⟨a,rfl⟩
theorem nO{a:ϊ}{d:cK u}(f:bk w g 1 (O.map av) a7)(h:β O+β a<=140737488355328)
  (k:∀b c,bk w c 1 ((O++a).map av) b->u (.J ((O++a).map av) b) c):nM 1 1 g (.J (O.map av) a7) (.J (a.map av) h5) (c7 u d):=by
 grind[ef,uF]
def xO{a:UInt8}{d:cK u}(f:bk w g 1 (O.map av) a7)(h:β O+1<=140737488355328)
  (k:∀b c,bk w c 1 ((O++[a]).map av) b->u (.J ((O++[a]).map av) b) c):nM 1 1 g (.J (O.map av) a7) (.J [av a] h5) (c7 u d):=
 nO (a:=[a]) f h k
def sX{a:UInt8}{d:cK u}(f:w.sub g)(h:∀b c,bk w c 1 [av a] b->u (.J [av a] b) c):kg 1 g [.v (.int .u8 a.toNat)] (c7 u d):=
 eF (j:=[a].map av) f (by rw[uF];trivial) h
def xP(a:e<β O):(O.map av)[e]?=γ (.v (.int .u8 (O.getD e 0).toNat)):=by
 rw[a7Z,Τ a];have:O.getD e 0=O[e]:=by simp[a]
 rw[this];rfl
def Dg{b c:Fr->U->Prop}(d:∀l g,b l g->c l g):∀(f:List c6)(l:Fr)(g:U),jo X f b l g->jo X f c l g
 |[],l,g,a=>d l g a
 |_::h,l,g,a=>sH (λl g a=>Dg d h l g a) a
def Dh{b:Nat->c6}{c d:Fr->U->Prop}(f:∀l g,c l g->d l g):∀(h:List dn)(l:Fr)(g:U),can X b c h l g->can X b d h l g
 |[],l,g,a=>f l g a
 |_::k,l,g,a=>⟨a.1,sH (λl g a=>⟨a.1,Dh f k l g a.2⟩) a.2⟩
theorem jv:∀(k:dv) {f h:gK->Fr->U->Prop} (_:∀c l g,f c l g->h c l g) (l:Fr) (g:U),bR X k f l g->bR X k h l g
 |.skip,_,_,b,l,g,a=>b _ l g a
 |.ret,_,_,b,l,g,a=>b _ l g a
 |.exit _,_,_,b,l,g,a=>b _ l g a
 |.plain ops,_,_,b,l,g,a=>Dg (b _) ops l g a
 |.draw _ x,_,_,b,l,g,a=>Dh (b _) x l g a
 |.seq d o,f,h,b,l,g,a=>jv d (λc l g a=>by
   cases c with
   |norm=>exact jv o b l g a
   |exit r=>exact b _ l g a
   |ret=>exact b _ l g a) l g a
 |.block r d,f,h,b,l,g,a=>jv d (λc l g a=>by
   cases c with
   |norm=>exact b _ l g a
   |exit F=>simp only[lO]at a|-;grind
   |ret=>exact b _ l g a) l g a
 |.cond k d o,f,h,b,l,g,a=>by
   simp only[xF,CS,kQ]at a|-;split at a
   .exact⟨λp=>jv d b l g (a.1 p),λp=>jv o b l g (a.2 p)⟩
   .trivial
 |.loop d,f,h,b,l,g,a=>by
   obtain⟨y,z,C,D⟩:=a;exact⟨y,z,C,λl g E=>jv d (λc l g a=>by
    cases c with
    |norm=>exact a
    |exit r=>exact b _ l g a
    |ret=>exact b _ l g a) l g (D l g E)⟩
def Di{b c:dv}{h:cK (bR X b (fj (bR X j3 h6) h6) l g)}{k:cK (bR X c (fj (bR X j3 h6) h6) l g)}(d:Fr->U->Prop)
  (o:M=ζ->bR X b (fj d h6) l g) (p:M=κ->bR X c (fj d h6) l g) (r:∀l g,d l g->bR X j3 h6 l g):
  kQ (.v (.bool M)) (cv (bR X b (fj (bR X j3 h6) h6) l g) h) (cv (bR X c (fj (bR X j3 h6) h6) l g) k):=by
 have hm:∀f l g,fj d h6 f l g->fj (bR X j3 h6) h6 f l g:=λf l g a=>by
  cases f with
  |norm=>exact r l g a
  |exit x=>exact a
  |ret=>exact a
 exact⟨λa=>jv b hm l g (o a),λa=>jv c hm l g (p a)⟩
def sY(b c:R):Option R:=
 match b,c with
 |.v (.string d),.v (.int _ a)=>if 0<=a then(match d.data[a.toNat]? with|some f=>γ (.v (.int .u8 f.toNat))|none=>η)else η
 |_,_=>η
def WQ:G X (.my a8 e9) l g u=dw (sY (ai l a8) (ai l e9)) (bT (λc=>u c g) ()):=by
 simp only[G,sY];generalize ai l a8=d;generalize ai l e9=f;cases d<;>first
  |rfl
  |(rename_i v;cases v<;>first
    |rfl
    |(cases f<;>first
      |rfl
      |(rename_i h k;cases k<;>first
        |rfl
        |(
          rename_i p a;simp only[];by_cases b:0<=a
          .simp only[b,true_and,if_true];generalize h.data[a.toNat]?=o;cases o<;>rfl
          .simp[b,dw]))))
def sZ(a b:Nat)(c:U)(d:R):Option R:=
 match d with
 |.ptr f off=>match c f with
  |some (.ro cs)=>if off+b*a<=β cs then γ (.J (eZ a b (cs.drop off)) .any)else η
  |_=>η
 |_=>η
def WR:G X (.kI e i a8 η η) l g u=dw (sZ e i g (ai l a8)) (bT (λa=>u a g) ()):=by
 simp only[G,sZ,dF];generalize ai l a8=b;cases b<;>first
  |rfl
  |(
    rename_i c h;simp only[];generalize g c=d;cases d with
    |none=>simp[dw]
    |some f=>cases f with
     |ro cs=>simp only[iK,im];simp
     |_=>simp[dw])
def WS(a:g i=γ (.ro j))(b:β j=e):sZ 1 e g (.ptr i 0)=γ (.J j .any):=by simp[sZ,a,b,eZ,a7x]
theorem xQ(a:e<64):bj .shl (.int .i64 N) (.int e4 (e:Int))=γ (.int .i64 (IntKind.i64.wrap (N*2^e))):=by
 have b:min e IntKind.i64.bits=e:=by simp[IntKind.bits];omega
 simp_all [bj,gI,oF]
def Dj(a b:Option R):Option R:=
 match a,b with
 |some a,γ b=>γ (.aJ [a,b])
 |_,_=>η
def WT:Dj (γ s) (γ b8)=γ (.aJ [s,b8]):=rfl
def WU{a b:Nat×Option (Bool×Nat)}:jr l g [a,b]=Dj (gL l g a) (gL l g b):=by simp only[jr,fL];cases gL l g a<;>cases gL l g b<;>rfl
def Dk(a b c:Option R):Option R:=
 match a,b,c with
 |some a,γ b,γ c=>γ (.aJ [a,b,c])
 |_,_,_=>η
def WV{a:R}:Dk (γ s) (γ b8) (γ a)=γ (.aJ [s,b8,a]):=rfl
def WW{a b c:Nat×Option (Bool×Nat)}:jr l g [a,b,c]=Dk (gL l g a) (gL l g b) (gL l g c):=by simp only[jr,fL];cases gL l g a<;>cases gL l g b<;>cases gL l g c<;>rfl
def WX:((0:Nat):Int)=0:=rfl
def WY:((1:Nat):Int)=1:=rfl
def WZ:((e:Int).tmod (i:Int))=((e%i:Nat):Int):=rfl
def Dl:((e:Int).tmod 64)=((e%64:Nat):Int):=WZ (i:=64)
def Dm:=
 χ @Un<|
 χ @Uo<|
 χ @Up<|
 χ @Uq<|
 χ @Ur<|
 χ @Us<|
 χ @Ut<|
 χ @xF<|
 χ @Uu<|
 χ @im<|
 χ @Um<|
 χ @Uv<|
 χ @Uw<|
 χ @Ux<|
 χ @Uy<|
 χ @Uz<|
 χ @UB<|
 χ @UA<|
 χ @UC<|
 χ @UD<|
 χ @UE<|
 χ @UL<|
 χ @UN<|
 χ @UO<|
 χ @UR<|
 χ @UP<|
 χ @UQ<|
 χ @US<|
 χ @UT<|
 χ @UY<|
 χ @UZ<|
 χ @UW<|
 χ @UX<|
 χ @V5<|
 χ @V8<|
 χ @V9<|
 χ @Va<|
 χ @Vb<|
 χ @Ve<|
 χ @Vg<|
 χ @Vj<|
 χ @Vm<|
 χ @Vo<|
 χ @Vp<|
 χ @Vv<|
 χ @Vy<|
 χ @VC<|
 χ @Vr<|
 χ @Vt<|
 χ @VD<|
 χ @VF<|
 χ @VH<|
 χ @VI<|
 χ @VK<|
 χ @WD<|
 χ @WE<|
 χ @WH<|
 χ @WQ<|
 χ @WR<|
 χ @WK<|
 χ @VM<|
 χ @VQ<|
 χ @V0<|
 χ @V1<|
 χ @VR<|
 χ @Vw<|
 χ @Vx<|
 χ @VT<|
 @VU
def Dn:=
 χ @CU<|
 χ @CV<|
 χ @UF<|
 χ @UG<|
 χ @UH<|
 χ @UI<|
 χ @UJ<|
 χ @UU<|
 χ @eq_self.{1}<|
 χ @UM<|
 χ @a8C.{0}<|
 χ @a8U.{0}<|
 χ @WL<|
 χ @Option.map_none.{0,0}<|
 χ @WJ<|
 χ @pT<|
 χ @nN<|
 χ @Df<|
 χ @WM<|
 χ @WN<|
 χ @V2<|
 χ @V3<|
 χ @V4<|
 χ @sO<|
 χ @CT<|
 χ @V6<|
 χ @V7<|
 χ @Vc<|
 χ @Vd<|
 χ @CX<|
 χ @Vf<|
 χ @Vh<|
 χ @Vi<|
 χ @Vk<|
 χ @Vl<|
 χ @sS<|
 χ @Vn<|
 χ @Wo<|
 χ @sT<|
 χ @pO<|
 χ @Vu<|
 χ @VA<|
 χ @Vq<|
 χ @Vs<|
 χ @VB<|
 χ @sU<|
 χ @VE<|
 χ @VG<|
 χ @VJ<|
 χ @VL<|
 χ @VN<|
 χ @VO<|
 χ @VP<|
 χ @a8z.{0,0}<|
 χ @VW<|
 χ @VX<|
 χ @VV<|
 χ @VZ<|
 χ @VY<|
 χ @uD<|
 χ @a7O.{0,0}<|
 χ @a8R.{0,0}<|
 χ @W9<|
 χ @Wa<|
 χ @Wb<|
 χ @Wc<|
 χ @Wd<|
 χ @We<|
 χ @Wf<|
 χ @Wg<|
 χ @Wh<|
 χ @Wi<|
 χ @Wj<|
 χ @Wk<|
 χ @Ws<|
 χ @Wt<|
 χ @Wu<|
 χ @Wv<|
 χ @Ww<|
 χ @Wx<|
 χ @Wy<|
 χ @Wz<|
 χ @WA<|
 χ @wrap_i64<|
 χ @W5<|
 χ @W6<|
 χ @W7<|
 χ @W8<|
 χ @Wl<|
 χ @Wm<|
 χ @Wn<|
 χ @sW<|
 χ @wrap_u64<|
 χ @Wr<|
 χ @D8<|
 χ @a7Q.{0,0}<|
 χ @a7I.{0}<|
 χ @a7E.{0}<|
 χ @U.D0<|
 χ @U.W0<|
 χ @U.W1<|
 χ @U.W2<|
 χ @U.W3<|
 χ @υ<|
 χ @U.D1<|
 χ @U.D2<|
 χ @U.D3<|
 χ @U.D4<|
 χ @U.D5<|
 χ @U.D6<|
 χ @U.D7<|
 χ @U.W4<|
 χ @D9<|
 χ @Da<|
 χ @Db<|
 χ @Dc<|
 χ @Dd<|
 χ @ft<|
 χ @a9F.{0}<|
 χ @and_self<|
 χ @a7X<|
 χ @a8m<|
 χ @aax<|
 χ @a8a<|
 χ @true_and<|
 χ @and_true<|
 χ @a9A<|
 χ @Χ<|
 χ @Wp<|
 @Wq
def dV:=
 χ @WX<|
 χ @WY<|
 χ @WU<|
 χ @WT<|
 χ @WW<|
 @WV
def bd:=
 χ @a7I.{0}<|
 χ @a7E.{0}<|
 χ @a7Q.{0,0}<|
 χ @Ρ.{0}<|
 χ @a9s.{0}<|
 χ @List.length_range<|
 χ @a7z.{0}<|
 χ @a7F.{0}<|
 χ @D9<|
 χ @Da<|
 χ @Db<|
 χ @Dc<|
 χ @Dd<|
 χ @ft<|
 χ @uF<|
 χ @WB<|
 χ @De<|
 χ @WC<|
 χ @and_true<|
 χ @true_and<|
 χ @a7X<|
 χ @eq_self.{1}<|
 @and_self
def bm(a:ϊ):R:=.v (.string ⟨a.toArray⟩)
theorem toList_mk(a:ϊ):(⟨a.toArray⟩:ByteArray).toList=a:=σ
theorem Dp(a b:ϊ):bj .eql (.string ⟨a.toArray⟩) (.string ⟨b.toArray⟩)=γ (.bool (decide (a=b))):=by grind[bj,qI,toList_mk]
theorem Dq(a b:ϊ):bj .neq (.string ⟨a.toArray⟩) (.string ⟨b.toArray⟩)=γ (.bool (decide (a≠b))):=by grind[bj,qI,toList_mk]
def oN(a:ϊ):(⟨a.toArray⟩:ByteArray).size=β a:=by rfl
variable{m j4:World}
section
def X0:sP X ⟨γ e,e6,γ (i,M)⟩ l g=iq (l i) M (cv (G X e6 l g (λa _=>a=l e)) ()) (cv ((.aJ []:R)=l e) ()):=rfl
def X1{a:Option Nat}:Def X ⟨a,e6,γ (e,M)⟩ l=iq (l e) M (cv (G X e6 l U.emp (λ_ _=>True)) ()) (cv True ()):=rfl
def nP(a:R):Option R:=
 match a with
 |.J xs _=>match bytesOf xs with
  |some b=>γ (.v (.string ⟨b.toArray⟩))
  |none=>η
 |_=>η
def Dr:nP (.J (O.map av) a7)=γ (.v (.string ⟨O.toArray⟩)):=by simp[nP,sv]
def X2:G X (.qP a8) l g u=dw (nP (ai l a8)) (bT (λa=>u a g) ()):=by simp only[G,nP];generalize ai l a8=b;cases b<;>first|rfl|(rename_i c f;simp only[];generalize bytesOf c=d;cases d<;>rfl)
def r2(d:Bool)(a b:R):Option R:=
 match a,b with
 |.v (.int c a),.v (.int f b)=>if c=f then γ (.v (.int c (if d then max a b else min a b)))else η
 |_,_=>η
def X3:r2 ζ (.v (.int e4 N)) (.v (.int e4 j2))=γ (.v (.int e4 (max N j2))):=by simp[r2]
def X4:r2 κ (.v (.int e4 N)) (.v (.int e4 j2))=γ (.v (.int e4 (min N j2))):=by simp[r2]
def X5:G X (.mB M e4 a8 e9) l g u=dw (r2 M (ai l a8) (ai l e9)) (bT (λa=>u a g) ()):=by
 simp only[G,r2];generalize ai l a8=b;generalize ai l e9=c;cases b<;>first
  |rfl
  |(rename_i v;cases v<;>first
    |rfl
    |(cases c<;>first
      |rfl
      |(rename_i d;cases d<;>first|rfl|(simp only[iK,im]))))
def ta(a:R):Option R:=
 match a with
 |.v (.string b)=>γ (.v (.int .i64 b.size))
 |_=>η
def xR:ta (.v (.string ⟨O.toArray⟩))=γ (.v (.int .i64 (β O))):=by rfl
def X6:G X (.qM a8) l g u=dw (ta (ai l a8)) (bT (λa=>u a g) ()):=by simp only[G,ta];generalize ai l a8=b;cases b<;>first|rfl|(rename_i v;cases v<;>rfl)
def r3(a:R)(d f:Option R):Option R:=
 match a with
 |.v (.string b)=>match cH d 0,cH f b.size with
  |some a,γ c=>if 0<=a/\a<=c/\c<=b.size then γ (.v (.string (b.extract a.toNat c.toNat)))else η
  |_,_=>η
 |_=>η
def xS(a:ϊ)(b c:Nat):(⟨a.toArray⟩:ByteArray).extract b c=⟨((a.take c).drop b).toArray⟩:=by apply ByteArray.ext;simp only[ByteArray.data_extract];simp[a8T]
def X7(a:0<=N)(b:N<=β O):r3 (.v (.string ⟨O.toArray⟩)) (γ (.v (.int e4 N))) η=γ (.v (.string ⟨(O.drop N.toNat).toArray⟩)):=by simp[r3,cH,intOf,oN,a,b,xS]
def X8(a:0<=N)(b:N<=β O):r3 (.v (.string ⟨O.toArray⟩)) η (γ (.v (.int e4 N)))=γ (.v (.string ⟨(O.take N.toNat).toArray⟩)):=by simp[r3,cH,intOf,oN,a,b,xS]
def X9{a:IntKind}(b:0<=N)(c:N<=j2)(d:j2<=β O):r3 (.v (.string ⟨O.toArray⟩)) (γ (.v (.int e4 N))) (γ (.v (.int a j2)))=γ (.v (.string ⟨((O.take j2.toNat).drop N.toNat).toArray⟩)):=by simp[r3,cH,intOf,oN,b,c,d,xS]
theorem Ds(a:0<=N)(b:N<β O):sY (.v (.string ⟨O.toArray⟩)) (.v (.int e4 N))=γ (.v (.int .u8 (O.getD N.toNat 0).toNat)):=by grind[List.getD,sY]
def Dt(c:Nat)(f:U)(p r:R)(o:R->U->Prop):Prop:=
 match p,r with
 |.bC d off a _ h,.J b _=>h=c/\(∀k∈b,β k.cells=c)/\match f d with
  |some (.cells cs)=>off+a*c<=β cs/\o (.v (.int .i64 (min (β b) a))) (f.set d (.cells (putAt cs off (flat (b.take a)))))
  |_=>False
 |.ar d a _ h,.J b _=>h=c/\(∀k∈b,β k.cells=c)/\match f d with
  |some (.cells cs)=>a*c<=β cs/\o (.v (.int .i64 (min (β b) a))) (f.set d (.cells (putAt cs 0 (flat (b.take a)))))
  |_=>False
 |_,_=>False
def Xa:G X (.nw e a8 e9) l g u=Dt e g (ai l a8) (ai l e9) (c7 u ()):=rfl
def Du{a:cK u}(b:ba e j)(c:g t=γ (.cells B))(d:I+i*e<=β B)
  (f:u (.v (.int .i64 (min (β j) i))) (g.set t (.cells (putAt B I (flat (j.take i)))))):Dt e g (.bC t I i b3 e) (.J j a7) (c7 u a):=by
 refine⟨rfl,b,?_⟩;rw[c];trivial
def uG(c b:Nat)(h:U)(a:R)(k o:Option R):Option R:=
 match a with
 |.ptr f off=>match cH k 0,cH o b with
  |some a,γ d=>match h.read f with
   |some cs=>if 0<=a/\a<=d/\d<=b/\off+b*c<=β cs/\a<b then γ (.bC f (off+a.toNat*c) (d.toNat - a.toNat) (b - a.toNat) c)else η
   |none=>η
  |_,_=>η
 |_=>η
def xT(a:g.read t=γ j)(b:I+e*i<=β j)(c:0<e):uG i e g (.ptr t I) η η=γ (.bC t I e e i):=by simp[uG,cH,a,b,c]
theorem Xb{a b:Option Operand}:G X (.mA i e a8 a b κ) l g u=dw (uG i e g (ai l a8) (a.map (ai l)) (b.map (ai l))) (bT (λc=>u c g) ()):=by
 simp only[G,uG,xM];generalize ai l a8=d;generalize a.map (ai l)=f;generalize b.map (ai l)=h;cases d<;>try rfl
 rename_i k x;simp only[];generalize cH f 0=o;generalize cH h e=p;generalize g.read k=r;cases o<;>cases p<;>cases r<;>first
  |rfl
  |(simp[dw];done)
  |(
    simp only[iK,im,a8x,if_false];grind)
def pU(d:Nat)(b:U)(a:ύ)(f:R->U->Prop):Prop:=
 (∀h∈a,β h.cells=d)/\(if β a=0 then f (.J [] .zero) b else∀c,b c=η->f (.ar c (β a) (β a) d) (b.set c (.cells (flat a))))
def Xc{a:List Operand}:G X (.kK e a) l g u=pU e g (a.map (ai l)) (c7 u ()):=by simp only[G,pU,c7,a7Q]
def tb{a:cK u}:pU e g [] (c7 u a)=u (.J [] .zero) g:=by simp[pU,c7]
def gY{b:cK u}(c:ba e j)(d:j≠[])(f:∀a,g a=η->u (.ar a (β j) (β j) e) (g.set a (.cells (flat j)))):pU e g j (c7 u b):=by refine⟨c,?_⟩;rw[if_neg (λh=>d (a7y h))];exact f
def Dv(d f:Nat)(h:ύ)(c:U)(k o:R)(p:R->U->Prop):Prop:=
 match k,o with
 |.v (.int _ a),.v (.int _ r)=>a=r/\0<=a/\a<=9223372036854775807/\a*f<=281474976710656/\∀b,c b=η->p (.ar b a.toNat a.toNat d) (c.set b (.cells (θ a.toNat h).flatten))
 |_,_=>False
def Xd:G X (.kJ e i j a8 e9) l g u=Dv e i j g (ai l a8) (ai l e9) (c7 u ()):=rfl
theorem Xe{b:IntKind}{c:cK u}(d:e*t<=281474976710656)(f:e<=9223372036854775807)(h:∀a,g a=η->u (.ar a e e i) (g.set a (.cells (θ e j).flatten))):
  Dv i t j g (.v (.int e4 (e:Int))) (.v (.int b (e:Int))) (c7 u c):=⟨rfl,ε,ε,ε,λa k=>by
 grind[c7,Int.toNat_natCast]⟩
def mO(c y:Nat)(d:U)(D E:R)(r:R->U->Prop):Prop:=
  match nF d c E with
  |some (b,x)=>match D with
    |.J xs C=>xs=[]/\(C=.nil\/C=.zero)/\b*y<=140737488355328/\b<=9223372036854775807/\
      (if b=0 then r (.J [] C) d else∀f h o,d f=η->b<=h->h<=maxLen->β o=(h - b)*c->r (.ar f b h c) (d.set f (.cells (x++o))))
    |.ar p a h z=>match d p with
      |some (.cells cs)=>z=c/\β cs=h*c/\(a+b)*y<=140737488355328/\a+b<=9223372036854775807/\
        (if a+b<=h then r (.ar p (a+b) h c) (d.set p (.cells (putAt cs (a*c) x)))
         else∀f k o,d f=η->a+b<=k->k<=maxLen->β o=(k -(a+b))*c->r (.ar f (a+b) k c) (d.set f (.cells (cs.take (a*c)++x++o))))
      |some (.gu cs)=>z=c/\β cs=h*c/\(a+b)*y<=140737488355328/\a+b<=9223372036854775807/\
        (if a+b<=h then r (.ar p (a+b) h c) (d.set p (.gu (putAt cs (a*c) x)))
         else∀f k o,d f=η->a+b<=k->k<=maxLen->β o=(k -(a+b))*c->r (.ar f (a+b) k c) (d.set f (.cells (cs.take (a*c)++x++o))))
      |_=>False
    |.bC p off a h z=>match d p with
      |some (.cells cs)=>z=c/\off+h*c<=β cs/\(a+b)*y<=140737488355328/\a+b<=9223372036854775807/\
        (if a+b<=h then r (.bC p off (a+b) h c) (d.set p (.cells (putAt cs (off+a*c) x)))
         else∀f k o,d f=η->a+b<=k->k<=maxLen->β o=(k -(a+b))*c->r (.ar f (a+b) k c) (d.set f (.cells ((cs.drop off).take (a*c)++x++o))))
      |_=>False
    |_=>False
  |none=>False
def Xf:G X (.mC e i a8 e9) l g u=mO e i g (ai l a8) (ai l e9) (c7 u ()):=rfl
def aq(o p:U)(a:Nat)(d:ύ)(f:R):Prop:=
 o.sub p/\((d=[]/\(f=.J [] .nil\/f=.J [] .zero))\/∃h b c k,f=.ar h b c a/\o h=η/\p h=γ (.cells k)/\β k=c*a/\k.take (b*a)=d/\β d=b*a/\b<=c/\c<=maxLen)
theorem aq.nil{a b:U}{c:Nat}(d:a.sub b):aq a b c [] (.J [] .nil):=⟨d,.inl ⟨rfl,.inl rfl⟩⟩
def aq.zero{a b:U}{c:Nat}(d:a.sub b):aq a b c [] (.J [] .zero):=⟨d,.inl ⟨rfl,.inr rfl⟩⟩
def aq.mono{a:R}(d:aq g w e j a)(c:w.sub h7):aq g h7 e j a:=by
 obtain⟨f,b⟩:=d;refine⟨U.ao f c,?_⟩;rcases b with b|⟨h,k,o,p,r,x,y,z⟩
 .exact .inl b
 .exact .inr ⟨h,k,o,p,r,x,c _ _ y,z⟩
theorem aq.base(c:aq g h7 e j s)(b:w.sub g):aq w h7 e j s:=by
 obtain⟨d,a⟩:=c;refine⟨U.ao b d,?_⟩;rcases a with a|⟨f,h,k,o,p,r,x⟩
 .exact .inl a
 .exact .inr ⟨f,h,k,o,p,U.bH b r,x⟩
def aq.new{ob:bq}(f:aq w g i j s)(h:g e=η):aq (w.set e ob) (g.set e ob) i j s:=by
 obtain⟨k,a⟩:=f;refine⟨U.lP k,?_⟩;rcases a with a|⟨c,o,p,r,x,y,b,z⟩
 .exact .inl a
 .have d:c≠e:=by rintro rfl;rw[h]at b;cases b
  exact .inr ⟨c,o,p,r,x,by rw[ο _ _ d];exact y,by rw[ο _ _ d];exact b,z⟩
theorem aq.src(b:aq w g e j s):∃a,β j=a*e/\c8 g e s=γ (a,j)/\gX s=γ (.v (.int .i64 a)):=by
 obtain⟨f,c⟩:=b;rcases c with⟨rfl,rfl|rfl⟩|⟨h,a,k,o,rfl,p,r,x,y,d,z,C⟩
 .exact⟨0,σ,rfl,rfl⟩
 .exact⟨0,σ,rfl,rfl⟩
 .refine⟨a,d,?_,rfl⟩;simp_all [a7N,c8,U.ad]
theorem fN{l:cK u}(m:aq w g e B s)(F:0<e)(n:c8 g e b8=γ (i,j))(f:β j=i*e)(q:(β B+β j)*t<=140737488355328*e)(v:β B+β j<=9223372036854775807)
  (p:∀G L,aq w L e (B++j) G->u G L):mO e t g s b8 (c7 u l):=by
 obtain⟨b,A⟩:=m;unfold mO;rw[wX n];simp only[c7];have dF:∀a,β B=a*e->(a+i)*t<=140737488355328/\a+i<=9223372036854775807:=by
  intro a H;have r:β B+β j=(a+i)*e:=by rw[H,f,a8D]
  rw[r]at q v;constructor
  .have:(a+i)*t*e<=140737488355328*e:=by grind
   exact Nat.le_of_mul_le_mul_right this F
  .have:(a+i)*1<=(a+i)*e:=abE _ F;omega
 rcases A with⟨rfl,Y⟩|⟨I,a,c,x,rfl,P,K,y,S,T,Z,M⟩
 .obtain⟨z,V⟩:=dF 0 σ;have k2:∀h,(h=.nil\/h=.zero)->(([]:ύ)=[]/\(h=.nil\/h=.zero)/\i*t<=140737488355328/\i<=9223372036854775807/\
   (if i=0 then u (.J [] h) g else∀d c k,g d=η->i<=c->c<=maxLen->β k=(c - i)*e->u (.ar d i c e) (g.set d (.cells (j++k))))):=by
   intro h N;refine⟨rfl,N,by simpa using z,ε,?_⟩;split
   .rename_i hm;subst hm;have:j=[]:=a7y (by simpa using f);subst this;refine p _ _ ⟨b,.inl ⟨rfl,?_⟩⟩;simp_all
   .intro d c k o C D E;refine p _ _ ⟨U.ae b (U.bH b o),.inr ⟨d,i,c,j++k,rfl,U.bH b o,ξ _ _ _,?_,?_,by trivial,C,D⟩⟩
    .rw[Ρ,f,E,<-a8D];congr 1;omega
    .rw[<-f,aal];rfl
  grind
 .obtain⟨z,V⟩:=dF a T;simp only[K];refine⟨trivial,y,z,V,?_⟩;have O:(x.take (a*e)).length=a*e:=by rw[S,T]
  split
  .rename_i W;have Q:a*e+β j<=β x:=by rw[f,y,<-a8D];exact a7N _ W
   refine p _ _ ⟨U.ae b P,.inr ⟨I,a+i,c,_,rfl,P,ξ _ _ _,?_,?_,by grind,W,M⟩⟩
   .rw[eY _ _ _ Q,y]
   .have r:(a+i)*e=(x.take (a*e)++j).length:=by grind
    rw[putAt,r,aal,S]
  .intro d X k o C D E;refine p _ _ ⟨U.ae b (U.bH b o),.inr ⟨d,a+i,X,_,rfl,U.bH b o,ξ _ _ _,?_,?_,by grind,C,D⟩⟩
   .rw[Ρ,Ρ,O,f,E,<-a8D,<-a8D];congr 1;omega
   .have r:(a+i)*e=(x.take (a*e)++j).length:=by grind
    grind
theorem Xg:c8 g 1 (.J (O.map av) a7)=γ (β O,O.map av):=by grind[av,decide,τ,c8,sA]
def xU(a:U)(b:R):Option R:=
 match c8 a 1 b with
 |some (_,xs)=>match bytesOf xs with
  |some c=>γ (.v (.string ⟨c.toArray⟩))
  |none=>η
 |none=>η
def Xh(a:c8 g 1 s=γ (e,O.map av)):xU g s=γ (.v (.string ⟨O.toArray⟩)):=by simp[xU,a,sv]
def xV(a:R):Option R:=
 match a with
 |.v (.string b)=>γ (.J (b.data.toList.map av) .any)
 |_=>η
def Xi:xV (.v (.string ⟨O.toArray⟩))=γ (.J (O.map av) .any):=by rfl
def Xj:G X (.su a8) l g u=dw (xV (ai l a8)) (bT (λa=>u a g) ()):=by simp only[G,xV];generalize ai l a8=b;cases b<;>first|rfl|(rename_i v;cases v<;>rfl)
theorem aW.frozen{b:bf}{v:Value}(h:Holds b g m)(k:g t=γ (.ro j))(o:e*i<=β j)(p:aW b v (.ar t e I i)):aW b v (.J (eZ i e j) .any):=by
 obtain⟨r,x,T,L,P,d,S⟩:=h.dN t _ k;have V:=d.1;cases p with
 |ar t e I i hk y=>
  obtain⟨z,C,f⟩:=x4 hk o r;by_cases D:e=0
  .subst D;have:=a7y f;rw[this];exact .dk _ _ _ (λE=>by cases E) trivial
  .refine .J t 0 e I i (λa=>x.getD a Go.undef) _ .any hk f.symm y z ?_ ?_ ?_ trivial;grind;grind
   .intro a F c;rw[C]at c;have G:a<e*i:=by grind
    rw[a8y G]at c;exact d.2 a F c
end
def Dw:=
 χ @Xc<|
 χ @Xf<|
 χ @Xd<|
 χ @Xj<|
 χ @X2<|
 χ @X5<|
 χ @X6<|
 χ @Xa<|
 χ @Xb<|
 χ @X0<|
 @X1
def Dx:=
 χ @Xi<|
 χ @iL<|
 χ @Vz<|
 χ @WI<|
 χ @Dr<|
 χ @X3<|
 χ @X4<|
 χ @xR<|
 χ @X7<|
 χ @X8<|
 χ @X9<|
 χ @xT<|
 χ @Dq<|
 χ @Dp<|
 χ @Ds<|
 χ @ite_true.{1}<|
 χ @ite_false.{1}<|
 χ @a8q<|
 χ @a8n<|
 χ @aam<|
 χ @Bool.true_xor<|
 χ @a8J<|
 χ @a8H<|
 χ @decide_true<|
 @decide_false
section
def Xk{a b:List Operand}:G X (.bG b9 a b) l g u=nL (.bG b9 (a.map (ai l)) (b.map (ai l))) (bT (λc=>u c g) ()):=rfl
def xW(a:Ctx)(b:R)(c:ύ)(d:U)(f:R->U->Prop):Prop:=
 match b with
 |.bG fn cR cs=>gw a.p fn=ζ/\ik a.p fn (cR++c++cs) d f (up a.k)
 |_=>False
def Xl{a:List Operand}:G X (.jl a8 a) l g u=xW X (ai l a8) (a.map (ai l)) g (c7 u ()):=rfl
def fa{c:cK u}(d:gw X.p b9=ζ)(f:AC X.p b9 (j++b7++B) g b2)(h:∀a b,b2 a b->u a b):xW X (.bG b9 j B) b7 g (c7 u c):=⟨d,(f.mono h).p⟩
def Xm:G X (.qQ b6 a8) l g u=nL (.iface b6 (ai l a8)) (bT (λa=>u a g) ()):=rfl
def pV(d:TypeId)(a:Bool)(b:R)(f:R):Option R:=
 match f with
 |.iface h c=>if h=d then γ (if a then .aJ [c,.v (.bool ζ)]else c)else if a=ζ then γ (.aJ [b,.v (.bool κ)])else η
 |.v .nilIface=>if a=ζ then γ (.aJ [b,.v (.bool κ)])else η
 |_=>η
def Xn:pV b6 ζ b8 (.iface b6 s)=γ (.aJ [s,.v (.bool ζ)]):=by simp[pV]
def Xo{a:TypeId}(b:a≠b6):pV b6 ζ s (.iface a b8)=γ (.aJ [s,.v (.bool κ)]):=by simp[pV,b]
def Xp:pV b6 ζ s (.v .nilIface)=γ (.aJ [s,.v (.bool κ)]):=by rfl
def Xq:pV b6 κ b8 (.iface b6 s)=γ s:=by simp[pV]
def Dy(a:Bool)(b:R):Option R:=
 match b with
 |.iface _ _=>γ (.v (.bool a))
 |.v .nilIface=>γ (.v (.bool (!a)))
 |_=>η
def Xr:Dy M (.iface b6 s)=γ (.v (.bool M)):=rfl
def Xs:Dy M (.v .nilIface)=γ (.v (.bool (!M))):=rfl
def Dz(a:Bool)(b:R):Option R:=
 match b with
 |.bG _ _ _=>γ (.v (.bool a))
 |.v .nilFunc=>γ (.v (.bool (!a)))
 |_=>η
def Xt:Dz M (.bG e j B)=γ (.v (.bool M)):=rfl
def Xu:Dz M (.v .nilFunc)=γ (.v (.bool (!M))):=rfl
def Xv(a:Ctx)(b:R)(c:U):Prop:=
 match b with
 |.iface d f=>up a.k (.iface d f) c
 |_=>False
def Xw:G X (.ny a8) l g u=Xv X (ai l a8) g:=rfl
def xX(b:R)(c:U)(d:Nat->ByteArray->Prop):Prop:=
 match b with
 |.v (.string f)=>∀a,c a=η->d a f
 |_=>False
def Xx:G X (.kL a8) l g u=xX (ai l a8) g (c7 (λa b=>u (.ptr a 0) (g.set a (.it b 0))) ()):=rfl
def DA{a:Nat->ByteArray->Prop}{b:cK a}:xX (.v (.string ⟨O.toArray⟩)) g (c7 a b)=jt g (bT (λc=>a c ⟨O.toArray⟩) ()):=rfl
def xY(f:R)(b:U)(c:R->U->Prop):Prop:=
 match f with
 |.ptr d off=>off=0/\match b d with
  |some (.it a pos)=>if pos<a.size then c (.aJ [.v (.bool ζ),.v (.int .i64 pos),.v (.int .i32 (Utf8.decode a pos).1)]) (b.set d (.it a (pos+(Utf8.decode a pos).2)))else c (.aJ [.v (.bool κ)]) b
  |_=>False
 |_=>False
def Xy:G X (.nz a8) l g u=xY (ai l a8) g (c7 u ()):=rfl
def Xz{a:cK u}(b:g i=γ (.it ⟨O.toArray⟩ e))(c:e<β O)
  (d:u (.aJ [.v (.bool ζ),.v (.int .i64 e),.v (.int .i32 (Utf8.decode ⟨O.toArray⟩ e).1)]) (g.set i (.it ⟨O.toArray⟩ (e+(Utf8.decode ⟨O.toArray⟩ e).2)))):xY (.ptr i 0) g (c7 u a):=by
 refine⟨rfl,?_⟩;rw[b];simp only[oN,if_pos c];exact d
def XA{a:cK u}(b:g e=γ (.it ⟨O.toArray⟩ i))(c:¬i<β O)(d:u (.aJ [.v (.bool κ)]) g):xY (.ptr e 0) g (c7 u a):=by refine⟨rfl,?_⟩;rw[b];simp only[oN,if_neg c];exact d
def xZ(a:R):Option R:=
 match a with
 |.J [] .nil=>γ (.v (.pointer η))
 |.ar b _ cap _=>if 0<cap then γ (.ptr b 0)else η
 |_=>η
def XB:xZ (.J [] .nil)=γ (.v (.pointer η)):=rfl
def XC(a:0<i):xZ (.ar e t i I)=γ (.ptr e 0):=by simp[xZ,a]
def XD:bR X .refuse h6 l g=False:=rfl
def U.XE:(g.set e (.py b6 j)).read e=γ j:=by simp[U.read,U.set]
def XF:(R.bG e j B).cells=[.bG e j B]:=rfl
def XG:sQ (.bG e j B)=γ (.bG e j B):=rfl
def pW(a:Bool)(b:U)(f h:R):Option R:=
 match f,h with
  |.ptr _ _,.v (.pointer η)=>γ (.v (.bool a))
  |.v (.pointer η),.ptr _ _=>γ (.v (.bool a))
  |.v (.pointer η),.v (.pointer η)=>γ (.v (.bool (!a)))
  |.ptr c k,.ptr d o=>if lI b c=ζ/\lI b d=ζ then γ (.v (.bool (xor a (decide (c=d/\k=o)))))else η
  |_,_=>η
def XH:G X (.nv M a8 e9) l g u=dw (pW M g (ai l a8) (ai l e9)) (bT (λd=>u d g) ()):=by
 simp only[G,pW];generalize ai l a8=f;generalize ai l e9=c;cases f<;>first
  |rfl
  |(rename_i v;cases v<;>first
    |rfl
    |(rename_i h;cases h<;>first|rfl|(cases c<;>first|rfl|(rename_i a;cases a<;>first|rfl|(rename_i b;cases b<;>rfl)))))
  |(cases c<;>first|rfl|(rename_i a;cases a<;>first|rfl|(rename_i b;cases b<;>rfl))|(simp only[iK,im];done))
def XI(a:lI g e=ζ):pW M g (.ptr e i) (.ptr e i)=γ (.v (.bool (!M))):=by simp[pW,a]
def XJ:pW M g (.ptr e i) (.v (.pointer η))=γ (.v (.bool M)):=rfl
def XK:pW M g (.v (.pointer η)) (.ptr e i)=γ (.v (.bool M)):=rfl
def XL:pW M g (.v (.pointer η)) (.v (.pointer η))=γ (.v (.bool (!M))):=rfl
end
def XM:(ζ==ζ)=true:=rfl
def XN:(ζ==κ)=false:=rfl
def XO:(κ==ζ)=false:=rfl
def XP:(κ==κ)=true:=rfl
def DB:=
 χ @Xk<|
 χ @Xl<|
 χ @Xm<|
 χ @Xw<|
 χ @Xx<|
 χ @Xy<|
 χ @XH<|
 @XD
def DC:=
 χ @XM<|
 χ @XN<|
 χ @XO<|
 χ @XP<|
 χ @Xn<|
 χ @Xo<|
 χ @Xp<|
 χ @Xq<|
 χ @Xr<|
 χ @Xs<|
 χ @Xt<|
 χ @Xu<|
 χ @DA<|
 χ @XB<|
 χ @XC<|
 χ @U.XE<|
 χ @XF<|
 χ @XG<|
 χ @XI<|
 χ @XJ<|
 χ @XK<|
 @XL
noncomputable def kh (b:R->Option R) (c v:R):R->Option R:=λa=>@ite _ (a=c) (Classical.propDecidable _) (γ v) (b a)
def uH{a:R->Option R}{v:R}:kh a s v s=γ v:=by simp[kh]
def r4{a:R->Option R}{v:R}(b:s≠b8):kh a b8 v s=a s:=by simp[kh,b]
def y0(b:R):∀(a:List (R×R×Nat))(c:Nat),dT a b c=(dT a b 0).map λd=>(d.1+c,d.2)
 |[],_=>rfl
 |f::a,c=>by
  unfold dT;split
  .simp
  .rw[y0 b a (c+1),y0 b a (0+1)];cases dT a b 0<;>simp[aaO,Nat.add_left_comm,aaZ]
theorem lR(b:R×R×Nat)(d:List (R×R×Nat))(a:R):dT (b::d) a 0=@ite _ (a=b.1) (Classical.propDecidable _) (γ (0,b.2.1)) ((dT d a 0).map λf=>(f.1+1,f.2)):=by
 conv=>lhs;unfold dT
 rw[y0 a d (0+1)];by_cases c:a=b.1
 .rw[if_pos ((so _ _).2 c),if_pos c]
 .rw[if_neg (λh=>c ((so _ _).1 h)),if_neg c]
theorem DD(b v:R)(k:Nat)(a:R):∀c:List (R×R×Nat),dT c b 0=η->(dT (c++[(b,v,k)]) a 0).map (·.2)=kh (λa=>(dT c a 0).map (·.2)) b v a
 |[],_=>by
  grind[lR,kh,dT]
 |o::c,f=>by
  rw[lR]at f;split at f
  .cases f
  .next p=>
   have r:dT c b 0=none:=by simp_all
   have ih:=DD b v k a c r;rw[a8K,lR];by_cases d:a=o.1
   .have h:a≠b:=λx=>p (by rw[<-x];exact d);rw[if_pos d,r4 h];rw[lR,if_pos d]
   .rw[if_neg d];by_cases h:a=b;simp_all [uH]
    .rw[r4 h]at ih|-;rw[lR,if_neg d,aaU,aaU];exact ih
theorem DE(c v h:R)(b:R):∀(d:List (R×R×Nat))(k:Nat),dT d c 0=γ (k,v)->(dT (d.modify k λf=>(f.1,h,f.2.2)) b 0).map (·.2)=kh (λb=>(dT d b 0).map (·.2)) c h b
 |[],_,a=>by trivial
 |f::d,k,a=>by
  rw[lR]at a;split at a
  .next o=>
   simp only[a7G,a8Q]at a;obtain⟨rfl,_⟩:=a;rw[abr,lR];by_cases a:b=c
   .subst a;rw[uH];simp[o]
   simp_all [r4,lR]
  .next o=>
   cases p:dT d c 0 with
   |none=>rw[p]at a;cases a
   |some x=>
    rw[p]at a;simp only[a8z,a7G,a8Q]at a;obtain⟨rfl,rfl⟩:=a;have ih:=DE c x.2 h b d x.1 p;rw[abt,lR];by_cases a:b=f.1
    .have r:b≠c:=λy=>o (by rw[<-y];exact a);rw[if_pos a,r4 r];rw[lR,if_pos a]
    .rw[if_neg a];by_cases r:b=c;simp_all [uH]
     .rw[r4 r]at ih|-;rw[lR,if_neg a,aaU,aaU];exact ih
structure lS(rs:List (Nat×bZ))(us:List (R×R×Nat))(a:Nat)(b:R->Option R):Prop where
 val:∀k,(dT us k 0).map (·.2)=b k
 keys:sr rs us
 born:(us.map (·.2.2)).Nodup
 lt:∀c∈us,c.2.2<a
def lS.new:lS j9 [] 0 λ_=>none:=⟨λ_=>rfl,λb a=>by simp at a,σ,λb a=>by simp at a⟩
theorem XQ(a:List (R×R×Nat))(c:Nat)(v:R):(a.modify c λb=>(b.1,v,b.2.2)).map (·.2.2)=a.map (·.2.2):=by
 induction a generalizing c with
 |nil=>simp
 |cons b a ih=>grind
theorem mem_modify{b:List (R×R×Nat)}{v:R}{a:R×R×Nat}(d:a∈b.modify e λa=>(a.1,v,a.2.2)):∃c∈b,a.1=c.1/\a.2.2=c.2.2:=by
 induction b generalizing e with
 |nil=>simp at d
 |cons c b ih=>grind
theorem lS.set{a:List (R×R×Nat)}{o:R->Option R}(b:lS j9 a i o){v:R}(p:dT a s 0=γ (e,v)):lS j9 (a.modify e λc=>(c.1,b8,c.2.2)) i (kh o s b8) where
 val:=λr=>by
  rw[DE s v b8 r a e p];simp only[kh];rw[b.val]
 keys:=λc d=>by
  obtain⟨f,h,k,_⟩:=mem_modify d;rw[k];exact b.keys f h
 born:=by rw[XQ];exact b.born
 lt:=λc d=>by
  obtain⟨f,h,_,k⟩:=mem_modify d;rw[k];exact b.lt f h
theorem lS.push{d:List (R×R×Nat)}{f:R->Option R}(b:lS j9 d e f){v:R}(r:dO j9 j)(k:dT d (.agg j) 0=η):lS j9 (d++[(.agg j,v,e)]) (e+1) (kh f (.agg j) v) where
 val:=λo=>by
  rw[DD _ v e o d k];simp only[kh];rw[b.val]
 keys:=λc a=>by
  rcases Ψ.1 a with a|a
  .exact b.keys c a
  simp_all
 born:=by rw[a8r,List.nodup_append];refine⟨b.born,σ,?_⟩;intro x p y h;obtain⟨c,a,rfl⟩:=a7M.1 p;simp at h;subst h;exact Nat.ne_of_lt (b.lt c a)
 lt:=λc a=>by
  rcases Ψ.1 a with a|a
  .exact Nat.lt_succ_of_lt (b.lt c a)
  simp_all
def r5(c:U)(d:Nat)(f:List (Nat×bZ))(h:R->Option R):Prop:=∃a b,c d=γ (.mp a b)/\lS f a b h
def a7m(f:U)(h:Nat)(k:List (Nat×bZ))(o:R->Option R)(p:R)(r:Nat):Prop:=
 ∃a b,f h=γ (.mp a b)/\∀v,∃c,JA a (r:Int)=γ c/\lS k (a.modify c λd=>(d.1,v,d.2.2)) b (kh o p v)
section
def XR:G X .kM l g u=jt g (bT (λa=>u (.gr a) (g.set a (.mp [] 0))) ()):=rfl
def uI(a:Bool)(b:List (Nat×bZ))(c:R)(f:U)(h k:R)(d:R->Prop):Prop:=
 match h,k with
 |.gr o,.agg cs=>match f o with
  |some (.mp us _)=>dO b cs/\sr b us/\(match dT us (.agg cs) 0 with
   |some (_,v)=>d (if a then .aJ [v,.v (.bool ζ)]else v)
   |none=>d (if a then .aJ [c,.v (.bool κ)]else c))
  |_=>False
 |_,_=>False
def XS:G X (.mD M j9 s a8 e9) l g u=uI M j9 s g (ai l a8) (ai l e9) (bT (λa=>u a g) ()):=by simp only[G,uI];generalize ai l a8=b;generalize ai l e9=c;rfl
def DF{c:R->Option R}{a:R->Prop}{h:cK a}(k:r5 g e j9 c)(o:dO j9 j)
  (p:∀v,c (.agg j)=γ v->a (if M then .aJ [v,.v (.bool ζ)]else v)) (r:c (.agg j)=η->a (if M then .aJ [s,.v (.bool κ)]else s)):uI M j9 s g (.gr e) (.agg j) (bT a h):=by
 obtain⟨x,z,y,d⟩:=k;simp only[uI,y];refine⟨o,d.keys,?_⟩;have b:=d.val (.agg j);cases f:dT x (.agg j) 0 with
 |none=>rw[f]at b;exact r b.symm
 |some C=>rw[f]at b;exact p _ b.symm
def uJ(a:List (Nat×bZ))(b:U)(d f v:R)(h:U->Prop):Prop:=
 match d,f with
 |.gr c,.agg cs=>match b c with
  |some (.mp us clock)=>dO a cs/\sr a us/\h (b.set c (.mp (lF us (.agg cs) v clock).1 (lF us (.agg cs) v clock).2))
  |_=>False
 |_,_=>False
def XT{v:Operand}:G X (.mE j9 a8 e9 v) l g u=uJ j9 g (ai l a8) (ai l e9) (ai l v) (bT (λa=>u (.aJ []) a) ()):=by simp only[G,uJ];generalize ai l a8=b;generalize ai l e9=c;rfl
def XU{v:R}{c:R->Option R}{a:U->Prop}{k:cK a}(o:r5 g e j9 c)(d:dO j9 j)
  (p:∀f,r5 (g.set e f) e j9 (kh c (.agg j) v)->a (g.set e f)):uJ j9 g (.gr e) (.agg j) v (bT a k):=by
 obtain⟨r,y,x,b⟩:=o;simp only[uJ,x];refine⟨d,b.keys,p _ ⟨_,_,ξ _ _ _,?_⟩⟩;unfold lF;cases h:dT r (.agg j) 0 with
 |none=>exact b.push d h
 |some z=>exact b.set h
end
theorem DG{a b:ϊ}:ju .neq (bm a) (bm b)=γ (.v (.bool (!decide (a=b)))):=by grind[bm,sU,Dq]
def r6{a b:ϊ}:ju .eql (bm a) (bm b)=γ (.v (.bool (decide (a=b)))):=by simp only[bm,sU,Dp a b];rfl
def XV:xU g (.J (O.map av) a7)=γ (bm O):=Xh Xg
def tc:nP (.J (O.map av) a7)=γ (bm O):=Dr
def oO(h:(∀a,R.J a .nil∈j->a=[])->AC q b9 j g u):AC q b9 j g u:=λb k o c p=>by
 refine h (λa r=>?_) b k o c p;obtain⟨d,x,y⟩:=a8e r;have f:=c.2 d _ (by rw[Τ x,y]);generalize b.getD d undef=v at f;cases f with
 |dk=>rfl
 |J z off len cap C D a E hk hlen F G L hH P S=>trivial
def XW:=
 χ @XR<|
 χ @XS<|
 @XT
def XX:=
 χ @DG<|
 χ @r6<|
 χ @XV<|
 @tc
def y1:=χ Dm (χ Dw (χ DB XW))
def XY:=χ Dn<|χ dV<|χ Dx<|χ DC XX
attribute [go_sem ↓] y1
attribute [go_sem] XY aa8 ne_eq not_true_eq_false not_false_eq_true aad aaD ai ofConst dt
def an(a:Z)(b:j0)(c:Z->e0=j0:=by intro d;simp -dsimp -implicitDefEqProofs (disch:=first|omega|assumption|(simp only[bd,Nat.reduceAdd];try omega)) only[go_sem,simprocAttr,-List.reduceReplicate,d];rfl):e0:=(c a).mpr b
def bU(a:e0)(b:Z=e0:=by simp -dsimp -implicitDefEqProofs (disch:=first|omega|assumption|(simp only[bd,Nat.reduceAdd];try omega)) only[go_sem,simprocAttr,-List.reduceReplicate];rfl):Z:=b.mpr a
def aS(a:Z)(b:j0)(c:Z->e0=j0:=by intro d;simp -dsimp -implicitDefEqProofs (disch:=first|omega|assumption|(simp only[bd,Nat.reduceAdd];try omega)) only[go_sem,simprocAttr,d];rfl):e0:=(c a).mpr b
def eS(a:e0)(b:Z=e0:=by simp -dsimp -implicitDefEqProofs (disch:=first|omega|assumption|(simp only[bd,Nat.reduceAdd];try omega)) only[go_sem,simprocAttr];rfl):Z:=b.mpr a
def ch(a:Z)(b:Z->e0=True:=by intro c;simp -dsimp -implicitDefEqProofs (disch:=first|omega|assumption|(simp only[bd,Nat.reduceAdd];try omega)) only[go_sem,simprocAttr,-List.reduceReplicate,c]):e0:=of_eq_true (b a)
def nQ(a:Z=True:=by simp -dsimp -implicitDefEqProofs (disch:=first|omega|assumption|(simp only[bd,Nat.reduceAdd];try omega)) only[go_sem,simprocAttr,-List.reduceReplicate]):Z:=of_eq_true a
def iM(a:Z)(b:Z->e0=True:=by intro c;simp -dsimp -implicitDefEqProofs (disch:=first|omega|assumption|(simp only[bd,Nat.reduceAdd];try omega)) only[go_sem,simprocAttr,c]):e0:=of_eq_true (b a)
def r7(a:Z=True:=by simp -dsimp -implicitDefEqProofs (disch:=first|omega|assumption|(simp only[bd,Nat.reduceAdd];try omega)) only[go_sem,simprocAttr]):Z:=of_eq_true a
def c2(a:Z)(b:e0):Z/\e0:=⟨a,b⟩
def aD(a:Z)(b:e0)(c:j0):Z/\e0/\j0:=⟨a,b,c⟩
def aL(a:Z)(b:e0)(c:j0)(d:k1):Z/\e0/\j0/\k1:=⟨a,b,c,d⟩
def aZ{a:Prop}(b:Z)(c:e0)(d:j0)(f:k1)(h:a):Z/\e0/\j0/\k1/\a:=⟨b,c,d,f,h⟩
def bt{a b:Prop}(c:Z)(d:e0)(f:j0)(h:k1)(k:a)(o:b):Z/\e0/\j0/\k1/\a/\b:=⟨c,d,f,h,k,o⟩
def cr{a b c:Prop}(d:Z)(f:e0)(h:j0)(k:k1)(o:a)(p:b)(r:c):Z/\e0/\j0/\k1/\a/\b/\c:=⟨d,f,h,k,o,p,r⟩
def bl{a b c d:Prop}(f:Z)(h:e0)(k:j0)(o:k1)(p:a)(r:b)(x:c)(y:d):Z/\e0/\j0/\k1/\a/\b/\c/\d:=⟨f,h,k,o,p,r,x,y⟩
def dz{a b c d f:Prop}(h:Z)(k:e0)(o:j0)(p:k1)(r:a)(x:b)(y:c)(z:d)(C:f):Z/\e0/\j0/\k1/\a/\b/\c/\d/\f:=⟨h,k,o,p,r,x,y,z,C⟩
def cw{a b c d f h:Prop}(k:Z)(o:e0)(p:j0)(r:k1)(x:a)(y:b)(z:c)(C:d)(D:f)(E:h):Z/\e0/\j0/\k1/\a/\b/\c/\d/\f/\h:=⟨k,o,p,r,x,y,z,C,D,E⟩
def gZ{a b c d f h k:Prop}(o:Z)(p:e0)(r:j0)(x:k1)(y:a)(z:b)(C:c)(D:d)(E:f)(F:h)(G:k):Z/\e0/\j0/\k1/\a/\b/\c/\d/\f/\h/\k:=⟨o,p,r,x,y,z,C,D,E,F,G⟩
def ha{a b c d f h k o:Prop}(p:Z)(r:e0)(x:j0)(y:k1)(z:a)(C:b)(D:c)(E:d)(F:f)(G:h)(L:k)(P:o):Z/\e0/\j0/\k1/\a/\b/\c/\d/\f/\h/\k/\o:=⟨p,r,x,y,z,C,D,E,F,G,L,P⟩
def jw{a b c d f h k o p:Prop}(r:Z)(x:e0)(y:j0)(z:k1)(C:a)(D:b)(E:c)(F:d)(G:f)(L:h)(P:k)(S:o)(T:p):Z/\e0/\j0/\k1/\a/\b/\c/\d/\f/\h/\k/\o/\p:=⟨r,x,y,z,C,D,E,F,G,L,P,S,T⟩
def hb{a b c d f h k o p r:Prop}(x:Z)(y:e0)(z:j0)(C:k1)(D:a)(E:b)(F:c)(G:d)(L:f)(P:h)(S:k)(T:o)(V:p)(W:r):Z/\e0/\j0/\k1/\a/\b/\c/\d/\f/\h/\k/\o/\p/\r:=⟨x,y,z,C,D,E,F,G,L,P,S,T,V,W⟩
def DH{a b c d f h k o p r x:Prop}(y:Z)(z:e0)(C:j0)(D:k1)(E:a)(F:b)(G:c)(L:d)(P:f)(S:h)(T:k)(V:o)(W:p)(e:r)(g:x):Z/\e0/\j0/\k1/\a/\b/\c/\d/\f/\h/\k/\o/\p/\r/\x:=⟨y,z,C,D,E,F,G,L,P,S,T,V,W,e,g⟩
def oP{a b c d f h k o p r x y:Prop}(z:Z)(C:e0)(D:j0)(E:k1)(F:a)(G:b)(L:c)(P:d)(S:f)(T:h)(V:k)(W:o)(e:p)(g:r)(i:x)(j:y):Z/\e0/\j0/\k1/\a/\b/\c/\d/\f/\h/\k/\o/\p/\r/\x/\y:=⟨z,C,D,E,F,G,L,P,S,T,V,W,e,g,i,j⟩
def oQ{a b c d f h k o p r x y z:Prop}(C:Z)(D:e0)(E:j0)(F:k1)(G:a)(L:b)(P:c)(S:d)(T:f)(V:h)(W:k)(e:o)(g:p)(i:r)(j:x)(l:y)(m:z):Z/\e0/\j0/\k1/\a/\b/\c/\d/\f/\h/\k/\o/\p/\r/\x/\y/\z:=⟨C,D,E,F,G,L,P,S,T,V,W,e,g,i,j,l,m⟩
def XZ{a b c d f h k o p r x y z C:Prop}(D:Z)(E:e0)(F:j0)(G:k1)(L:a)(P:b)(S:c)(T:d)(V:f)(W:h)(e:k)(g:o)(i:p)(j:r)(l:x)(m:y)(n:z)(q:C):Z/\e0/\j0/\k1/\a/\b/\c/\d/\f/\h/\k/\o/\p/\r/\x/\y/\z/\C:=⟨D,E,F,G,L,P,S,T,V,W,e,g,i,j,l,m,n,q⟩
section
def Y0:G X (.nA a8) l g u=dw (sx (ai l a8)) (bT (λa=>u a g) ()):=by simp only[G];rfl
def Y1:sx (.ar i t e I)=γ (.v (.int .i64 e)):=rfl
def Y2:sx (.J [] .nil)=γ (.v (.int .i64 0)):=rfl
def cc(d:Nat)(r:R)(f h k:Option R):Option R:=
 match r with
 |.ar o len cap p=>match cH f 0,cH h len,cH k cap with
  |some a,γ c,γ b=>if p=d/\0<=a/\a<=c/\c<=b/\b<=cap then
    γ (if f.isSome=ζ then(if a<b then .bC o (a.toNat*d) (c.toNat - a.toNat) (b.toNat - a.toNat) d else .J [] .zero)else .ar o c.toNat b.toNat d)
   else η
  |_,_,_=>η
 |.bC o off len cap p=>match cH f 0,cH h len,cH k cap with
  |some a,γ c,γ b=>if p=d/\0<=a/\a<=c/\c<=b/\b<=cap then
    γ (if a<b then .bC o (off+a.toNat*d) (c.toNat - a.toNat) (b.toNat - a.toNat) d else .J [] .zero)
   else η
  |_,_,_=>η
 |.J [] .nil=>match cH f 0,cH h 0,cH k 0 with
  |some a,γ c,γ b=>if a=0/\c=0/\b=0 then γ (.J [] .nil)else η
  |_,_,_=>η
 |.J [] .zero=>match cH f 0,cH h 0,cH k 0 with
  |some a,γ c,γ b=>if a=0/\c=0/\b=0 then γ (.J [] .zero)else η
  |_,_,_=>η
 |_=>η
def Y3{a b c:Option Operand}:sy l e s a b c=cc e s (a.map (ai l)) (b.map (ai l)) (c.map (ai l)):=by simp only[sy,cc,xM,Option.isSome_map];rfl
def Y4{a b c:Option Operand}:G X (.mF e a8 a b c) l g u=dw (cc e (ai l a8) (a.map (ai l)) (b.map (ai l)) (c.map (ai l))) (bT (λd=>u d g) ()):=by simp only[G,Y3];rfl
theorem hQ(a:t<=i):cc e (.ar I b3 i e) η (γ (.v (.int e4 (t:Int)))) η=γ (.ar I t i e):=by grind[cc,cH,intOf]
theorem gy(a:e<=t)(b:t<=I)(c:e<I):cc i (.ar b3 t I i) (γ (.v (.int e4 (e:Int)))) η η=γ (.bC b3 (e*i) (t - e) (I - e) i):=by grind[cc,cH,intOf]
def td(a:e=t):cc i (.ar I e t i) (γ (.v (.int e4 (e:Int)))) η η=γ (.J [] .zero):=by subst a;simp[cc,cH,intOf]
theorem DI{a:IntKind}(b:e<=I)(c:I<=t)(d:e<t):cc i (.ar b3 e5 t i) (γ (.v (.int e4 (e:Int)))) (γ (.v (.int a (I:Int)))) η=γ (.bC b3 (e*i) (I - e) (t - e) i):=by grind[cc,cH,intOf]
def Y5:cc e (.J [] .zero) (γ (.v (.int e4 0))) η η=γ (.J [] .zero):=by rfl
def Y6:cc e (.J [] .nil) (γ (.v (.int e4 0))) η η=γ (.J [] .nil):=by rfl
def y2:cc e (.J [] .nil) η (γ (.v (.int e4 0))) η=γ (.J [] .nil):=by rfl
def DJ(a:Option U)(b:U->Prop):Prop:=
 match a with
 |some c=>b c
 |none=>False
def Y7{a:U->Prop}{b:cK a}:DJ (γ g) (bT a b)=a g:=rfl
def DK(a:Option (R×U))(b:R->U->Prop):Prop:=
 match a with
 |some (c,d)=>b c d
 |none=>False
def Y8{a:cK u}:DK (γ (s,g)) (c7 u a)=u s g:=rfl
def Y9:G X (.nB e j a8) l g u=DJ (lJ e j (ai l a8) g) (bT (λa=>u (.aJ []) a) ()):=by simp only[G];rfl
def Ya:G X (.nC e a8 e9) l g u=DK (mG e (ai l a8) (ai l e9) g) (c7 u ()):=by simp only[G];rfl
def Yb:G X (.nE a8 e9) l g u=dw (lK (ai l a8) (ai l e9) g) (bT (λa=>u a g) ()):=by simp only[G];rfl
def Yc{a:Operand}:G X (.pE a8 e9 a) l g u=dw (sz (ai l a8) (ai l e9) (ai l a)) (bT (λb=>u b g) ()):=by simp only[G];rfl
def y3(a:g i=γ (.cells j))(b:t+I*e<=β j):lJ e B (.bC i t I b3 e) g=γ (g.set i (.cells (putAt j t (θ I B).flatten))):=by simp[lJ,a,b]
def Yd:lJ e j (.J [] a7) g=γ g:=rfl
def hR(a:c8 g e s=γ (b3,B))(b:g t=γ (.cells j))(c:I+i*e<=β j):mG e (.bC t I i e5 e) s g=γ (.v (.int .i64 (min b3 i:Nat)),g.set t (.cells (putAt j I (B.take (i*e))))):=by simp[mG,a,b,c]
def y4(a:c5 s=γ e)(b:c5 b8=γ i)(c:e≠i)(d:kO g e=ζ)(f:kO g i=ζ):lK s b8 g=γ (.v (.bool κ)):=by simp[lK,a,b,c,d,f]
def r8(a:g e=γ (.cells j))(b:j≠[]):kO g e=true:=by
 cases j with
 |nil=>trivial
 |cons c j=>simp[kO,a]
def te(c o:Nat)(p:ύ)(h:U)(x y:R)(r:R->U->Prop):Prop:=
 match x,y with
  |.ar z d cap C,.v (.int .i64 a)=>match h.read z with
   |some cs=>C=c/\β cs=cap*c/\0<=a/\cap<d+a.toNat/\(d+a.toNat)*o<=140737488355328/\d+a.toNat<=9223372036854775807/\
    ∀f b k,h f=η->d+a.toNat<=b->b<=maxLen->β k=(b -(d+a.toNat))*c->r (.ar f (d+a.toNat) b c) (h.set f (.cells (cs.take (d*c)++(θ a.toNat p).flatten++k)))
   |none=>False
  |.J xs D,.v (.int .i64 a)=>xs=[]/\D=.nil/\0<a/\a.toNat*o<=140737488355328/\a<=9223372036854775807/\
    ∀f b k,h f=η->a.toNat<=b->b<=maxLen->β k=(b - a.toNat)*c->r (.ar f a.toNat b c) (h.set f (.cells ((θ a.toNat p).flatten++k)))
  |_,_=>False
def Ye:G X (.nD e i j a8 e9) l g u=te e i j g (ai l a8) (ai l e9) (c7 u ()):=rfl
def y5{d:cK u}(f:g e5=γ (.cells j))(h:β j=I*t)(k:I<e+i)(o:(e+i)*b3<=140737488355328)(p:e+i<=9223372036854775807)
  (r:∀b a c,g b=η->e+i<=a->a<=maxLen->β c=(a -(e+i))*t->u (.ar b (e+i) a t) (g.set b (.cells (j.take (e*t)++(θ i B).flatten++c)))):te t b3 B g (.ar e5 e I t) (.v (.int .i64 (i:Int))) (c7 u d):=by
 simp only[te,U.ad f,a8a];exact⟨trivial,h,ε,k,o,p,r⟩
def DL{d:cK u}(k:0<e)(f:e*t<=140737488355328)(o:e<=9223372036854775807)
  (h:∀b a c,g b=η->e<=a->a<=maxLen->β c=(a - e)*i->u (.ar b e a i) (g.set b (.cells ((θ e j).flatten++c)))):te i t j g (.J [] .nil) (.v (.int .i64 (e:Int))) (c7 u d):=by
 simp only[te,a8a];exact⟨trivial,trivial,ε,f,ε,h⟩
def View(c:U)(f:R)(h:U)(k:R):Prop:=∀(a:bf)(b:World)(v:Value),Holds a c b->aW a v f->∃d,Step a c b d h b/\aW d v k
def AC.view(h:AC q b9 j g u)(k:∀a b,u a b->∃c d,View b a d c/\b2 c d):AC q b9 j g b2:=
 λo p r x y=>(h o p r x y).mono λ_ _ z=>by
  obtain⟨v,a,C,b,D,f,E,F⟩:=z;obtain⟨c,d,G,L⟩:=k a b F;obtain⟨P,S,T⟩:=G C _ v f.holds E;exact⟨v,c,P,d,D,f.trans S,T,L⟩
theorem View.refl{a:U}{b:R}:View a b a b:=λc h v d f=>⟨c,.refl d,f⟩
theorem View.J{s:U}{a:ύ}{o:Own}:View s (.J a o) s (.J a .any):=λb D v c d=>by
 refine⟨b,.refl c,?_⟩;cases d with
 |dk f cap du bQ h=>exact .dk f cap .any bQ trivial
 |J k off len cap p r a du hk hlen x y z hH C h=>exact .J k off len cap p r a .any hk hlen x y z hH C trivial
theorem View.ar{b:U}{c n cap k:Nat}{a:ύ}(f:b c=γ (.cells a))(h:n*k<=β a):View b (.ar c n cap k) (b.set c (.ro a)) (.J (eZ k n a) .any):=λx y v o p=>by
 obtain⟨r,d⟩:=Step.freeze o f;exact⟨r,d,aW.frozen d.holds (ξ _ _ _) h (p.mono d.le)⟩
theorem ki:eZ 1 e j=j.take e:=by rfl
theorem Yf(c:i<=t):eZ e i (j.take (t*e))=eZ e i j:=by
 unfold eZ;by_cases hk:e=1;grind
 .simp only[hk,if_false];refine a8I λa b=>?_;have b:a<i:=by simpa using b
  have d:a*e+e<=t*e:=by have:(a+1)*e<=t*e:=a7N _ ε;grind
  rw[a8T,a8G,a8P ε]
theorem View.dq(k:aq w g e j s):∃a d,β j=a*e/\w.sub d/\View g s d (.J (eZ e a j) .any):=by
 obtain⟨b,o⟩:=k;rcases o with⟨rfl,rfl|rfl⟩|⟨f,a,E,p,rfl,r,x,F,y,z,G,L⟩
 .refine⟨0,g,σ,b,?_⟩;grind[eZ,View.J]
 .refine⟨0,g,σ,b,?_⟩;grind[eZ,View.J]
 .refine⟨a,g.set f (.ro p),z,λh C c=>?_,?_⟩
  .have D:h≠f:=by rintro rfl;rw[r]at c;cases c
   rw[ο _ _ D];exact b h C c
  .rw[<-y,Yf (Χ a)];exact View.ar x (by grind)
theorem View.trans{a b c:U}{d f h:R}(p:View a d b f)(r:View b f c h):View a d c h:=λx k v y z=>by
 obtain⟨C,o,D⟩:=p x k v y z;obtain⟨E,F,G⟩:=r C k v o.holds D;exact⟨E,o.trans F,G⟩
theorem View.aJ{c d:U}{b f:R}{a h:ύ}(r:View c b d f):View c (.aJ (a++b::h)) d (.aJ (a++f::h)):=λx y v z C=>by
 cases C with
 |aJ D cs E k=>
  have F:=k (β a) b σ;obtain⟨G,o,P⟩:=r x y _ z F;refine⟨G,o,.aJ D _ (by simpa using E) λp L S=>?_⟩;by_cases T:p=β a;simp_all
  .refine(k p L ?_).mono o.le;grind
theorem View.agg{d f:U}{b c:R}{a h:ύ}(P:c.one=ζ)(r:View d b f c):View d (.agg (a++b::h)) f (.agg (a++c::h)):=λx y v z C=>by
 cases C with
 |agg D cs S E k=>
  have F:=k (β a) b σ;obtain⟨G,o,T⟩:=r x y _ z F;refine⟨G,o,.agg D _ (λV W=>?_) (by simpa using E) λp L e=>?_⟩;grind;by_cases g:p=β a;simp_all
  .refine(k p L ?_).mono o.le;grind
end
def fk:=
 χ @Y0<|
 χ @Y4<|
 χ @Y9<|
 χ @Ya<|
 χ @Yb<|
 χ @Yc<|
 χ @Ye<|
 χ @Y7<|
 χ @Y8<|
 χ @Y1<|
 χ @Y2<|
 @y2
def dH(a:Z)(b:j0)(c:Z->e0=j0:=by intro d;simp -dsimp -implicitDefEqProofs (disch:=first|omega|assumption|(simp only[bd,Nat.reduceAdd];try omega)) only[go_sem,simprocAttr,-List.reduceReplicate,↓fk,d];rfl):e0:=(c a).mpr b
def DM(a:e0)(b:Z=e0:=by simp -dsimp -implicitDefEqProofs (disch:=first|omega|assumption|(simp only[bd,Nat.reduceAdd];try omega)) only[go_sem,simprocAttr,-List.reduceReplicate,↓fk];rfl):Z:=b.mpr a
def wr:dv->ϋ
 |.plain ops|.draw ops _=>ops.filterMap (·.dst)
 |.seq a b|.cond _ a b=>wr a++wr b
 |.block _ a|.loop a=>wr a
 |_=>[]
def hS(b:ϋ)(c d:Fr):Prop:=∀a,a∉b->d a=c a
theorem hS.trans{a:ϋ}{b c d:Fr}(k:hS a b c)(o:hS a c d):hS a b d:=λf h=>(o f h).trans (k f h)
def hS.put{b:Option Nat}(c:∀a,b=γ a->a∈j7):hS j7 l (ds l b s):=λa d=>um l b s a λf=>d (c a f)
section
def DN{a:ϋ}{h:Fr->U->Prop}{k:Fr}:∀(b:List c6),(∀c∈b,∀o,c.dst=γ o->o∈a)->∀(l:Fr)(g:U),hS a k l->jo X b h l g->jo X b (λp d=>h p d/\hS a k p) l g
 |[],_,l,g,bW,f=>⟨f,bW⟩
 |c::x,r,l,g,bW,f=>nI (λD d y=>DN x (λz C=>r z (a9l _ C)) _ d (bW.trans (hS.put (r c (a8X ..)))) y) f
def DO{b:ϋ}{c:Nat->c6}{f:Fr->U->Prop}{h:Fr}(k:∀y o,(c y).dst=γ o->o∈b):∀(p:List dn)(l:Fr)(g:U),hS b h l->can X c f p l g->can X c (λr d=>f r d/\hS b h r) p l g
 |[],l,g,bW,a=>⟨a,bW⟩
 |z::C,l,g,bW,a=>⟨a.1,nI (λD d x=>⟨x.1,DO k C _ d (bW.trans (hS.put (k z.i))) x.2⟩) a.2⟩
theorem oR{p:ϋ}:∀(r:dv),(∀b∈wr r,b∈p)->∀ {k:gK->Fr->U->Prop}{d:Fr} (l:Fr) (g:U),hS p d l->bR X r k l g->bR X r (λf z D=>k f z D/\hS p d z) l g
 |.skip,_,_,_,l,g,bW,a=>⟨a,bW⟩
 |.ret,_,_,_,l,g,bW,a=>⟨a,bW⟩
 |.exit _,_,_,_,l,g,bW,a=>⟨a,bW⟩
 |.plain ops,hw,_,_,l,g,bW,a=>DN ops (λE F b o=>hw b (aaX.2 ⟨E,F,o⟩)) l g bW a
 |.draw ops G,hw,_,_,l,g,bW,a=>DO (λx b o=>by
   refine hw b (aaX.2 ?_);grind[nth,List.mem_of_getElem?]) G l g bW a
 |.seq c y,hw,k,d,l,g,bW,a=>jv c (λf l g a=>by
   cases f with
   |norm=>exact oR y (λb h=>hw b (a9G _ h)) l g a.2 a.1
   |exit x=>exact a
   |ret=>exact a) l g (oR c (λb h=>hw b (a9x _ h)) l g bW a)
 |.block x c,hw,k,d,l,g,bW,a=>jv c (λf l g a=>by
   cases f with
   |norm=>exact a
   |exit W=>obtain⟨L,e⟩:=a;simp only[lO]at L|-;split<;>(simp_all)
   |ret=>exact a) l g (oR c hw l g bW a)
 |.cond r c y,hw,k,d,l,g,bW,a=>by
   simp only[xF,CS,kQ]at a|-;split at a
   .exact⟨λo=>oR c (λb h=>hw b (a9x _ h)) l g bW (a.1 o),λo=>oR y (λb h=>hw b (a9G _ h)) l g bW (a.2 o)⟩
   .trivial
 |.loop c,hw,k,d,l,g,bW,a=>by
   obtain⟨P,S,T,V⟩:=a;refine⟨λl g=>P l g/\hS p d l,S,⟨T,bW⟩,λl g C=>jv c (λf l g a=>?_) l g (oR c hw l g C.2 (V l g C.1))⟩;cases f with
   |norm=>exact⟨⟨a.1.1,a.2⟩,a.1.2⟩
   |exit x=>exact a
   |ret=>exact a
def hc(a:Fr):List (Nat×R)->Prop
 |[]=>True
 |b::c=>a b.1=b.2/\hc a c
def Yg:hc l []=True:=rfl
def Yh{v:R}:hc l [(e,v)]=(l e=v):=by simp[hc]
def Yi{v:R}{a:Nat×R}{b:List (Nat×R)}:hc l ((e,v)::a::b)=(l e=v/\hc l (a::b)):=rfl
def hs(a:Fr):List (Nat×R)->Fr
 |[]=>a
 |b::c=>ds (hs a c) (γ b.1) b.2
def Yj:hs l []=l:=rfl
def Yk{v:R}{a:List (Nat×R)}:hs l ((e,v)::a)=ds (hs l a) (γ e) v:=rfl
theorem tf{a:Fr}:∀ {b:List (Nat×R)},hc a b->hs a b=a
 |[],_=>rfl
 |d::k,c=>by
  rw[hs,tf c.2];funext f;by_cases h:f=d.1
  .subst h;rw[<-c.1];simp[ds,mx]
  grind[um,Option.some.inj]
def keeps(a:Fr):ϋ->List (Nat×R)
 |[]=>[]
 |b::c=>(b,a b)::keeps a c
def Yl:keeps l []=[]:=rfl
def Ym:keeps l (e::j7)=(e,l e)::keeps l j7:=rfl
def y6{b c:Fr}:∀ {d:ϋ},(∀a∈d,c a=b a)->hc c (keeps b d)
 |[],_=>trivial
 |a::o,f=>⟨f a (a8X ..),y6 λh k=>f h (a9l _ k)⟩
theorem DP:∀ {a:Nat},k0 a->∃a,k0 a/\∀b,k0 b->a<=b:=by
 intro a
 induction a using Nat.strongRecOn with
 |ind a ih=>grind
theorem ck(C:ϋ)(x:K->List (Nat×R))(D:K->U->Prop)(f:K->Nat)(G:K)
  (m:D G g/\hc l (x G)) (L:∀r c,D r c->∀d,bR X j3 (fj (λn q=>∃a,D a q/\hc n (x a)/\f a<f r) h6) (hs (hs d (keeps l C)) (x r)) c)
  (I:C.all (λP=> !(wr j3).contains P)=true:=by kernel_rfl):cv (bR X (.loop j3) h6 l g) ():=by
 classical
 let o:=λ(d) (c) (a)=>D a c/\hc d (x a)
 let y:=λ(d) (c)=>if z:∃h,(∃a,o d c a/\f a=h)/\∀k,(∃a,o d c a/\f a=k)->h<=k then z.choose else 0;refine⟨λd c=>(∃a,o d c a)/\hS (wr j3) l d,y,⟨⟨G,m⟩,λ_ _=>rfl⟩,λb p S=>?_⟩;have z:∃h,(∃a,o b p a/\f a=h)/\∀k,(∃a,o b p a/\f a=k)->h<=k:=by obtain⟨a,s⟩:=S.1;exact DP ⟨a,s,rfl⟩
 obtain⟨⟨r,i,hm⟩,M⟩:=z.choose_spec;have t:hc b (keeps l C):=y6 λP N=>S.2 P λO=>by
  simp_all
 have u:hs (hs b (keeps l C)) (x r)=b:=by rw[tf t,tf i.2]
 have j:=L r p i.1 b;rw[u]at j;refine jv j3 (λv E F T=>?_) b p (oR j3 (λ_ L=>L) b p S.2 j);cases v with
 |norm=>obtain⟨⟨a,V,W,w⟩,A⟩:=T;refine⟨⟨⟨a,V,W⟩,A⟩,?_⟩;have e:∃h,(∃a,o E F a/\f a=h)/\∀k,(∃a,o E F a/\f a=k)->h<=k:=DP ⟨a,⟨V,W⟩,rfl⟩;show y E F<y b p;have B:y E F=e.choose:=dif_pos e;have H:y b p=z.choose:=dif_pos z;rw[B,H];exact Nat.lt_of_le_of_lt (e.choose_spec.2 _ ⟨a,⟨V,W⟩,rfl⟩) (by rw[<-hm];exact w)
 |exit Q=>exact T.1
 |ret=>exact T.1
end
theorem fO(d:ϋ)(b:K->List (Nat×R))(c:K->Prop)(f:K->Nat)(h:K)
  (r:c h) (x:hc l (b h)) (y:∀a,c a->∀k,bR X j3 (fj (λz C=>∃o,C=g/\c o/\hc z (b o)/\f o<f a) h6) (hs (hs k (keeps l d)) (b a)) g)
  (D:d.all (λE=> !(wr j3).contains E)=true:=by kernel_rfl):cv (bR X (.loop j3) h6 l g) ():=
 ck d b (λa p=>p=g/\c a) f h ⟨⟨rfl,r⟩,x⟩ (λa p F k=>by
  obtain⟨rfl,G⟩:=F;refine jv j3 (λL P S T=>?_) _ _ (y a G k);grind) D
def y7:=
 χ @Yg<|
 χ @Yh<|
 χ @Yi<|
 χ @Yj<|
 χ @Yk<|
 χ @Yl<|
 @Ym
def U.y8(a:g e=η)(b:w.sub g):w e=none:=U.bH b a
def U.Yn(c:g e=η):g.sub (w.set e b0)=g.sub w:=propext ⟨λa d f b=>by
 have h:d≠e:=by rintro rfl;rw[c]at b;cases b
 have:=a d f b;rwa[ο _ _ h]at this,λa=>U.ae a c⟩
def U.sub_self:g.sub g=True:=eq_true U.a1
def Yo:(∃b,b.sub w/\g.sub b)=g.sub w:=propext ⟨λ⟨_,a,f⟩ c d h=>a c d (f c d h),λa=>⟨g,a,U.a1⟩⟩
def Yp:(∃b,b.sub w/\b=g)=g.sub w:=propext ⟨λ⟨_,a,c⟩=>by subst c;exact a,λa=>⟨g,a,rfl⟩⟩
def Yq:ta (bm O)=γ (.v (.int .i64 (β O))):=xR
def Yr(a:e<β O):sY (bm O) (.v (.int e4 (e:Int)))=γ (.v (.int .u8 (O.getD e 0).toNat)):=by have:=Ds (O:=O) (e4:=e4) (N:=(e)) ε ε;trivial
def pX:cU e (.J j a7) (.v (.int e4 (i:Int)))=fC e j[i]? :=by rfl
def Ys:fC 1 (γ (.v e8))=γ (.c4 [.v e8]):=rfl
def Yt:fC 1 (γ (bm O))=γ (.c4 [bm O]):=rfl
def Yu:fC 1 (γ (.J j a7))=γ (.c4 [.J j a7]):=rfl
def Yv:fC 1 (γ (.ptr e i))=γ (.c4 [.ptr e i]):=rfl
def Yw[Decidable Z]:(!decide Z)=decide (¬Z):=decide_not.symm
def Yx:(xor κ M)=M:=aam M
def Yy:(∃b,b.sub w/\g.sub b/\Z)=(g.sub w/\Z):=propext ⟨λ⟨_,a,f,h⟩=>⟨λc d k=>a c d (f c d k),h⟩,λa=>⟨g,a.1,U.a1,a.2⟩⟩
def Yz:(∃b,b.sub w/\b=g/\Z)=(g.sub w/\Z):=propext ⟨λ⟨_,a,c,d⟩=>by subst c;trivial,λa=>⟨g,a.1,rfl,a.2⟩⟩
def YA{a:K}{b:List K}:List.take (e+1) (a::b)=a::List.take e b:=rfl
def YB{a:List K}:List.take 0 a=[]:=rfl
def YC:List.take e ([]:List K)=[]:=abB
def YD{a:List K}:List.drop 0 a=a:=rfl
def YE:putAt (b8::j) 0 (s::B)=s::putAt j 0 B:=by rfl
def YF:putAt j 0 []=j:=by rfl
def YG:putAt (s::j) (e+1) B=s::putAt j e B:=by simp[putAt,Nat.add_right_comm]
def YH{b:K}{a:List K}:(b::a).length=β a+1:=rfl
def YI:([]:List K).length=0:=rfl
def YJ:(bm O).cells=[bm O]:=rfl
def YK:(R.J j a7).cells=[.J j a7]:=rfl
def YL:(R.ptr e i).cells=[.ptr e i]:=rfl
def YM{v:Value}:(R.v v).cells=[.v v]:=rfl
theorem nR(a:e<=β j)(b:ba i j):dU i (.J j a7) (γ (.v (.int e4 (e:Int)))) η=γ (.J (j.drop e) .any):=by grind[pT,Int.toNat_natCast]
def YN(a:e<β j)(b:ba i j):dU i (.J j a7) (γ (.v (.int e4 ((e:Int)+1)))) η=γ (.J (j.drop (e+1)) .any):=nR (e:=e+1) a b
theorem YO(a:e<=β j)(b:ba i j):dU i (.J j a7) η (γ (.v (.int e4 (e:Int))))=γ (.J (j.take e) .any):=by grind[nN,Int.toNat_natCast]
theorem YP{a:IntKind}(b:i<=e)(c:e<=β j)(d:ba t j):dU t (.J j a7) (γ (.v (.int e4 (i:Int)))) (γ (.v (.int a (e:Int))))=γ (.J ((j.take e).drop i) .any):=by grind[Df,Int.toNat_natCast]
def YQ:(∃ _:Unit,True)=True:=eq_true ⟨(),trivial⟩
def YR{a:cK u}:kg e g [] (c7 u a)=u (.J [] .zero) g:=by simp[kg,c7]
def YS:cU e (.J j a7) (.v (.int e4 0))=fC e j[0]? :=pX (i:=0)
def YT:cU e (.J j a7) (.v (.int e4 1))=fC e j[1]? :=pX (i:=1)
def y9:=
 χ @YS<|
 χ @YT<|
 χ @YQ<|
 χ @nR<|
 χ @YN<|
 χ @YO<|
 χ @YP<|
 χ @YJ<|
 χ @YK<|
 χ @YL<|
 χ @YM<|
 χ @ξ<|
 χ @ο<|
 χ @YE<|
 χ @YF<|
 χ @YG<|
 χ @YH<|
 χ @YI<|
 χ @YA<|
 χ @YB<|
 χ @YC<|
 χ @YD<|
 χ @U.Yn<|
 χ @U.sub_self<|
 χ @Yo<|
 χ @Yp<|
 χ @Yy<|
 χ @Yz<|
 χ @true_and<|
 χ @and_true<|
 χ @Yq<|
 χ @Yr<|
 χ @pX<|
 χ @Ys<|
 χ @Yt<|
 χ @Yu<|
 χ @Yv<|
 χ @ft<|
 χ @ft<|
 χ @D8<|
 χ @decide_true<|
 χ @decide_false<|
 χ @a8n<|
 χ @a8q<|
 χ @a8J<|
 χ @a8H<|
 χ @aaE<|
 χ @aaV<|
 χ @Yx<|
 χ @Bool.true_xor<|
 χ @Yw<|
 @Decidable.not_not
theorem r9{a:Nat->Bool}(b:e<i)(c:a e=κ):(ψ i).all a=false:=List.all_eq_false.2 ⟨e,a8B.2 b,by simp[c]⟩
theorem ra{a:Nat->Bool}(b:∀c<e,a c=ζ):(ψ e).all a=true:=a7L.2 λd f=>b d (a8B.1 f)
def upto(b:∀a<e,k0 a)(c:k0 e):∀a<e+1,k0 a:=λa d=>(Nat.lt_or_eq_of_le (Nat.le_of_lt_succ d)).elim (b a) λf=>f▸c
def DQ:R.v (.int e4 ((e:Int)+1))=.v (.int e4 ((e+1:Nat):Int)):=rfl
theorem nS{a:Bool}(b:(M=ζ)=(a=ζ):=by apply propext;(try dsimp only);(try simp (disch:=omega) only[if_pos,if_neg,Κ,a8Y,a8V,Bool.not_eq_eq_eq_not,a8n,a8q,decide_eq_true_eq,decide_eq_false_iff_not,a8x,false_iff,iff_false,true_iff,iff_true,true_and,and_true,false_and,and_false,false_or,or_false,true_or,or_true,iff_self, *])<;>omega):M=a:=by simp_all
theorem aY{a:Bool}(b:M=a:=by exact nS):R.v (.bool M)=.v (.bool a):=b▸rfl
theorem aN{a:Bool}(b:M=a):R.v (.bool M)=.v (.bool a):=by rw[b]
def U.uK(a:g.sub w)(b:g e=γ b0):w e=γ b0:=a _ _ b
def U.uL(a:bk g w i j a7)(b:g e=γ b0):w e=γ b0:=a.sub _ _ b
def jx(c d:U):Prop:=∀a b,c a=γ (.cells b)->d a=γ (.cells b)
def U.tg(a:g.sub w):jx g w:=λc d b=>a _ _ b
theorem jx.trans(a:jx g w)(b:jx w h7):jx g h7:=λd f c=>b _ _ (a _ _ c)
def U.uM(a:jx g w)(b:g e=γ (.cells j)):w e=γ (.cells j):=a _ _ b
def U.uN{a:bq}(b:g e=γ b0)(c:g i=η):(g.set i a) e=γ b0:=U.ae U.a1 c _ _ b
def U.ht(b:g i=η)(a:g e=γ b0):e≠i:=by rintro rfl;rw[b]at a;cases a
def a0(a:g e=γ b0:=by first|assumption|exact ξ _ _ _):g e=γ b0:=a
def a3(a:g e=γ b0:=by first|exact a0|exact U.uN a2 abV|exact U.uK abV a2|exact U.uL abV a2|exact U.ya abV a2|exact U.uM abV a2):g e=γ b0:=a
def a4(a:g e=γ b0:=by first|exact a0|exact U.uN a3 abV|exact U.uK abV a3|exact U.uL abV a3|exact U.ya abV a3|exact U.uM abV a3):g e=γ b0:=a
def a5(a:g e=γ b0:=by first|exact a0|exact U.uN a4 abV|exact U.uK abV a4|exact U.uL abV a4|exact U.ya abV a4|exact U.uM abV a4):g e=γ b0:=a
def dQ(a:g e=γ b0:=by first|exact a0|exact U.uN a5 abV|exact U.uK abV a5|exact U.uL abV a5|exact U.ya abV a5|exact U.uM abV a5):g e=γ b0:=a
def gu(c:∀a b,g a=γ (.cells b)->w a=γ (.cells b):=by intro _ _ _;exact dQ):jx g w:=c
def rb(c:∀a b,g a=γ b->w a=γ b:=by intro _ _ _;exact dQ):g.sub w:=c
section
def fu(a:Z=e0:=by simp -dsimp -implicitDefEqProofs (disch:=first|omega|assumption|exact U.y8 abV abV|(simp only[bd,Nat.reduceAdd];try omega)) only[go_sem,simprocAttr,-List.reduceReplicate,↓fk,y9,y7, *]<;>rfl):Z=e0:=a
def iu(a:Z=e0:=by first|exact fu|rfl):Z=e0:=a
def aa(a:e0)(b:Z=e0:=by exact iu):Z:=b.mpr a
def aK(a:Z=True:=by simp -dsimp -implicitDefEqProofs (disch:=first|omega|assumption|exact U.y8 abV abV|(simp only[bd,Nat.reduceAdd];try omega)) only[go_sem,simprocAttr,-List.reduceReplicate,↓fk,y9,y7, *]):Z:=of_eq_true a
def aM(b:q.follows .mixedOrders=ζ){a:List (Nat×Option (Bool×Nat))}(c:cu q t e=γ ⟨i,I,j3,a⟩)(d:Z)(f:β j<=i:=by simp)
  (h:bR (Ctx.of q) j3 (pR a u) (mK j) g=Z:=by exact fu):AC q e j g u:=bh b c f (h.mpr d)
def bg{c:Nat->Prop}(d:∀a,g a=η->c a)(f:∀a,g a=η->k0 a=c a:=by intro a b;exact fu):jt g (bT k0 ()):=λa b=>(f a b).mpr (d a b)
def U.set_nil(a:(g.set i b0) e=η):g e=η/\e≠i/\i≠e:=⟨(U.hr a).2,(U.hr a).1,(U.hr a).1.symm⟩
def cy{d:Nat->Prop}(k:∀a,g a=η->a≠e->e≠a->d a)(f:∀a,g a=η->a≠e->e≠a->k0 a=d a:=by intro a b c f;exact fu):jt (g.set e b0) (bT k0 ()):=λa b=>by
 obtain⟨b,c,h⟩:=U.set_nil b;exact(f a b c h).mpr (k a b c h)
def gz{h:Nat->Prop}{p:bq}(r:∀a,g a=η->a≠e->e≠a->a≠i->i≠a->h a)(k:∀a,g a=η->a≠e->e≠a->a≠i->i≠a->k0 a=h a:=by intro a b c k d f;exact fu):jt ((g.set e b0).set i p) (bT k0 ()):=λa b=>by
 obtain⟨b,d,f⟩:=U.set_nil b;obtain⟨b,c,o⟩:=U.set_nil b;exact(k a b c o d f).mpr (r a b c o d f)
def cl(c:AC q b9 j g b2)(d:∀a b,b2 a b->u a b)(f:Z=pQ X b9 j g (c7 u ()):=by exact iu)(h:X.p=q:=by rfl):Z:=by subst h;exact f.mpr (ak c d)
def aP(a:AC X.p b9 j g λb c=>c=g/\b=s)(d:Z)(f:u s g=Z:=by exact fu):pQ X b9 j g (c7 u ()):=ak a λ_ _ a=>by rw[a.1,a.2];exact f.mpr d
theorem mP(c:AC q b9 j g λa b=>b=g/\a=s)(d:e0)(f:Z=pQ X b9 j g (c7 u ()):=by exact iu)(h:u s g=e0:=by exact iu)(k:X.p=q:=by rfl):Z:=by grind[ak]
theorem gs{c:U->Prop}(b:AC X.p b9 j g λd a=>g.sub a/\d=s)(f:∀a,g.sub a->c a)(h:∀a,g.sub a->u s a=c a:=by intro a b;exact fu):pQ X b9 j g (c7 u ()):=ak b λ_ a b=>by simp_all
def re(a:Z=e0:=by first|(simp only[decide_eq_true_eq,decide_eq_false_iff_not,a8V,Bool.not_eq_false',a8n,a8q,Decidable.not_not]<;>rfl)|rfl):Z=e0:=a
def YU{c d:Prop}(k:(M=ζ)=Z:=by exact re)(o:(M=κ)=e0:=by exact re)(f:Z->j0=c:=by intro;first|exact fu|rfl)(h:e0->k1=d:=by intro;first|exact fu|rfl):kQ (.v (.bool M)) (cv j0 ()) (cv k1 ())=((Z->c)/\(e0->d)):=by subst k o;exact propext ⟨λb=>⟨λa=>(f a).mp (b.1 a),λa=>(h a).mp (b.2 a)⟩,λb=>⟨λa=>(f a).mpr (b.1 a),λa=>(h a).mpr (b.2 a)⟩⟩
def YV{c:Bool}{d f:Prop}(o:(M=c)=Z:=by exact re)(p:(M= !c)=e0:=by exact re)(h:Z->j0=d:=by intro;first|exact fu|rfl)(k:e0->k1=f:=by intro;first|exact fu|rfl):iq (.v (.bool M)) c (cv j0 ()) (cv k1 ())=((Z->d)/\(e0->f)):=by rw[UK];subst o p;exact propext ⟨λb=>⟨λa=>(h a).mp (b.1 a),λa=>(k a).mp (b.2 a)⟩,λb=>⟨λa=>(h a).mpr (b.1 a),λa=>(k a).mpr (b.2 a)⟩⟩
def ay{a:Prop}(b:k1->e0)(c:a->j0)(d:Z=((k1->e0)/\(a->j0)):=by first|exact YU|exact YV):Z:=d.mpr ⟨b,c⟩
def DR(a:Z:=by first|assumption|(simp only[decide_eq_true_eq,decide_eq_false_iff_not,a8V,Bool.not_eq_false',Decidable.not_not]<;>omega)):Z:=a
def YW(a:M=true:=by exact DR)(b:Z=e0:=by exact fu):kQ (.v (.bool M)) (cv Z ()) (cv j0 ())=e0:=by subst a;exact CU.trans b
def YX(a:M=false:=by exact DR)(b:Z=e0:=by exact fu):kQ (.v (.bool M)) (cv j0 ()) (cv Z ())=e0:=by subst a;exact CV.trans b
def rf(a:e0)(b:Z=e0:=by first|exact YW|exact YX|exact a7n|exact a7o):Z:=b.mpr a
end
theorem fX{a:List K}{b:K}(c:e<β a):a.take (e+1)=a.take e++[a.getD e b]:=by simp_all
abbrev MB(a b:U)(c:ϊ)(d:R):Prop:=aq a b 1 (c.map av) d
def yb(b:U)(c:R)(a:ϊ):Prop:=c8 b 1 c=γ (β a,a.map av)
section
def DS{d:R->U->Prop}(c:AC X.p b9 j g u)(f:∀a b,u a b->d a b)(h:∀a b,u a b->b2 a b=d a b:=by intro a g c;exact fu):pQ X b9 j g (c7 b2 ()):=ak c λa b c=>(h a b c).mpr (f a b c)
end
section
def th{c:Nat->Prop}{r x:bq}(y:∀a,g a=η->a≠e->e≠a->a≠i->i≠a->a≠t->t≠a->c a)(z:∀a,g a=η->a≠e->e≠a->a≠i->i≠a->a≠t->t≠a->k0 a=c a:=by intros;exact fu):jt (((g.set e b0).set i r).set t x) (bT k0 ()):=λa b=>by
 obtain⟨b,d,f⟩:=U.set_nil b;obtain⟨b,h,k⟩:=U.set_nil b;obtain⟨b,o,p⟩:=U.set_nil b;exact(z a b o p h k d f).mpr (y a b o p h k d f)
def YY{c:Nat->Prop}{y z C:bq}(D:∀a,g a=η->a≠e->e≠a->a≠i->i≠a->a≠t->t≠a->a≠I->I≠a->c a)(E:∀a,g a=η->a≠e->e≠a->a≠i->i≠a->a≠t->t≠a->a≠I->I≠a->k0 a=c a:=by intros;exact fu):jt ((((g.set e b0).set i y).set t z).set I C) (bT k0 ()):=λa b=>by
 obtain⟨b,d,f⟩:=U.set_nil b;obtain⟨b,h,k⟩:=U.set_nil b;obtain⟨b,o,p⟩:=U.set_nil b;obtain⟨b,r,x⟩:=U.set_nil b;exact(E a b r x o p h k d f).mpr (D a b r x o p h k d f)
def kR{v:R}(c:∀a,g a=η->k0 a)(d:ba e (v::j):=by simp[ba,τ, *])(f:∀a,g a=η->u (.J (v::j) (.buf a (v::j).length)) (g.set a (.buf e (v::j).length (v::j).length))=k0 a:=by intros;exact fu):kg e g (v::j) (c7 u ()):=by refine⟨d,?_⟩;rw[if_neg σ];intro a b;exact(f a b).mpr (c a b)
def YZ{v:R}(f:∀a,g a=η->a≠e->e≠a->k0 a)(h:ba i (v::j):=by simp[ba,τ, *])(k:∀a,g a=η->a≠e->e≠a->u (.J (v::j) (.buf a (v::j).length)) ((g.set e b0).set a (.buf i (v::j).length (v::j).length))=k0 a:=by intros;exact fu):kg i (g.set e b0) (v::j) (c7 u ()):=by refine⟨h,?_⟩;rw[if_neg σ];intro a b;obtain⟨b,c,d⟩:=U.set_nil b;exact(k a b c d).mpr (f a b c d)
def uO{v:R}{c:bq}(o:∀a,g a=η->a≠e->e≠a->a≠i->i≠a->k0 a)(p:ba t (v::j):=by simp[ba,τ, *])(r:∀a,g a=η->a≠e->e≠a->a≠i->i≠a->u (.J (v::j) (.buf a (v::j).length)) (((g.set e b0).set i c).set a (.buf t (v::j).length (v::j).length))=k0 a:=by intros;exact fu):kg t ((g.set e b0).set i c) (v::j) (c7 u ()):=by refine⟨p,?_⟩;rw[if_neg σ];intro a b;obtain⟨b,d,f⟩:=U.set_nil b;obtain⟨b,h,k⟩:=U.set_nil b;exact(r a b h k d f).mpr (o a b h k d f)
def Z0{v:R}{c d f h:bq}(F:∀a,g a=η->a≠e->e≠a->a≠i->i≠a->a≠t->t≠a->a≠I->I≠a->a≠b3->b3≠a->k0 a)(G:ba e5 (v::j):=by simp[ba,τ, *])(L:∀a,g a=η->a≠e->e≠a->a≠i->i≠a->a≠t->t≠a->a≠I->I≠a->a≠b3->b3≠a->u (.J (v::j) (.buf a (v::j).length)) ((((((g.set e b0).set i c).set t d).set I f).set b3 h).set a (.buf e5 (v::j).length (v::j).length))=k0 a:=by intros;exact fu):kg e5 (((((g.set e b0).set i c).set t d).set I f).set b3 h) (v::j) (c7 u ()):=by refine⟨G,?_⟩;rw[if_neg σ];intro a b;obtain⟨b,k,o⟩:=U.set_nil b;obtain⟨b,p,r⟩:=U.set_nil b;obtain⟨b,x,y⟩:=U.set_nil b;obtain⟨b,z,C⟩:=U.set_nil b;obtain⟨b,D,E⟩:=U.set_nil b;exact(L a b D E z C x y p r k o).mpr (F a b D E z C x y p r k o)
def Z1{c:Nat}{v:R}{d f h k o:bq}(S:∀a,g a=η->a≠e->e≠a->a≠i->i≠a->a≠t->t≠a->a≠I->I≠a->a≠b3->b3≠a->a≠e5->e5≠a->k0 a)(T:ba c (v::j):=by simp[ba,τ, *])(V:∀a,g a=η->a≠e->e≠a->a≠i->i≠a->a≠t->t≠a->a≠I->I≠a->a≠b3->b3≠a->a≠e5->e5≠a->u (.J (v::j) (.buf a (v::j).length)) (((((((g.set e b0).set i d).set t f).set I h).set b3 k).set e5 o).set a (.buf c (v::j).length (v::j).length))=k0 a:=by intros;exact fu):kg c ((((((g.set e b0).set i d).set t f).set I h).set b3 k).set e5 o) (v::j) (c7 u ()):=by refine⟨T,?_⟩;rw[if_neg σ];intro a b;obtain⟨b,p,r⟩:=U.set_nil b;obtain⟨b,x,y⟩:=U.set_nil b;obtain⟨b,z,C⟩:=U.set_nil b;obtain⟨b,D,E⟩:=U.set_nil b;obtain⟨b,F,G⟩:=U.set_nil b;obtain⟨b,L,P⟩:=U.set_nil b;exact(V a b L P F G D E z C x y p r).mpr (S a b L P F G D E z C x y p r)
def pY(a:AC X.p b9 (j++b7++B) g λb c=>c=g/\b=s)(d:Z)(f:gw X.p b9=true:=by kernel_rfl)(h:u s g=Z:=by exact fu):xW X (.bG b9 j B) b7 g (c7 u ()):=
 fa f a λ_ _ a=>by rw[a.1,a.2];exact h.mpr d
end
section
theorem yc{o:dv}{f:Fr}{p:K->List (Nat×R)}{r:K->U->Prop}(x:∀c∈wr j3,c∈j7)(z:hS j7 f l)(h:ϋ)(S:h.all (λc=> !j7.contains c)=ζ)
  (C:bR X j3 (fj (λa b=>∃y,r y b/\hc a (p y)) h6) l g) (D:∀d b,r d b->∀a,bR X o h6 (hs (hs a (keeps f h)) (p d)) b):bR X j3 (fj (bR X o h6) h6) l g:=by
 refine jv j3 (λE a b k=>?_) l g (oR j3 x l g z C);cases E with
 |norm=>
  obtain⟨⟨d,F,G⟩,L⟩:=k;have P:hc a (keeps f h):=y6 λc T=>L c λx=>by
   simp_all
  have:=D d b F a;rw[tf P,tf G]at this;exact this
 |exit V=>exact k.1
 |ret=>exact k.1
def jy{f:dv}(b:ϋ)(h:K->List (Nat×R))(k:K->U->Prop)
  (r:bR X j3 (fj (λc a=>∃o,k o a/\hc c (h o)) h6) l g) (d:∀p a,k p a->∀c,bR X f h6 (hs (hs c (keeps l b)) (h p)) a) (x:b.all (λy=> !(wr j3).contains y)=true:=by kernel_rfl):bR X (.seq j3 f) h6 l g:=
 yc (j7:=wr j3) (λ_ d=>d) (λ_ _=>rfl) b x r d
def nT{f h:dv}{y:cK (bR X f (fj (bR X j3 h6) h6) l g)}{z:cK (bR X h (fj (bR X j3 h6) h6) l g)}(k:ϋ)(o:K->List (Nat×R))(p:K->U->Prop)
  (C:M=ζ->bR X f (fj (λc a=>∃d,p d a/\hc c (o d)) h6) l g) (D:M=κ->bR X h (fj (λc a=>∃d,p d a/\hc c (o d)) h6) l g) (b:∀r a,p r a->∀c,bR X j3 h6 (hs (hs c (keeps l k)) (o r)) a) (x:k.all (λM=> !(wr f++wr h).contains M)=true:=by kernel_rfl):
  kQ (.v (.bool M)) (cv (bR X f (fj (bR X j3 h6) h6) l g) y) (cv (bR X h (fj (bR X j3 h6) h6) l g) z):=
 ⟨λj3=>yc (λ_ b=>a9x _ b) (λ_ _=>rfl) k x (C j3) b,λj3=>yc (λ_ b=>a9G _ b) (λ_ _=>rfl) k x (D j3) b⟩
end
def DT(a:Z=e0:=by first|(simp -dsimp -implicitDefEqProofs (disch:=first|omega|assumption|exact U.y8 abV abV|(simp only[bd,Nat.reduceAdd];try omega)) only[YR,tb,go_sem,simprocAttr,-List.reduceReplicate,↓fk,y9,y7, *]<;>rfl)|rfl):Z=e0:=a
def pZ(a:e<=i:=by first|omega|((try simp only[Ρ,a7I,a7E,a7Q,a7z,a7F, *])<;>omega)):e<=i:=a
def rd(a:g.sub w)(b:g e=γ (.cells j)):w.read e=γ j:=U.ad (a _ _ b)
theorem DU{v:R}(b:ba e j)(f:β v.cells=e):ba e (j++[v]):=λc d=>by
 rcases Ψ.1 d with a|a
 .exact b c a
 grind
def DV:ba e []:=λ_ a=>by cases a
theorem bk.q0(p:bk w g e j a7):∃d:U,bk d g e j a7/\d.sub g/\w.sub d/\∀a,(∀b k,a7=.buf b k->b≠a)->d a=g a:=by
 obtain⟨h,f⟩:=p;cases a7 with
 |buf b k=>
  have o:(g.del b).sub g:=λa a7 c=>by
   grind[U.iI,U.eX]
  refine⟨g.del b,⟨o,U.iI _ _,f.2⟩,o,λa a7 c=>?_,λa c=>U.eX _ (Θ (c _ _ rfl))⟩;have r:a≠b:=by rintro rfl;rw[f.1]at c;cases c
  rw[U.eX _ r];exact h _ _ c
 |any=>trivial
 |nil=>exact⟨g,⟨U.a1,f⟩,U.a1,h,λ_ _=>rfl⟩
 |zero=>exact⟨g,⟨U.a1,f⟩,U.a1,h,λ_ _=>rfl⟩
def yd{h:cK u}(d:bk w g e j a7)(k:ba e j)(o:ba e B)(p:(β j+β B)*i<=140737488355328)(r:β j+β B<=9223372036854775807)
  (x:∀b a,bk w a e (j++B) b->jx g a->u (.J (j++B) b) a):nM e i g (.J j a7) (.J B h5) (c7 u h):=by
 obtain⟨F,y,G,z,C⟩:=d.q0;refine ef y k o p r λb a f=>x b a (f.base z) λD L c=>f.sub _ _ ?_;rw[C D (λP S E=>by subst E;rintro rfl;rw[d.2.2]at c;cases c)];exact c
section
def hv{v:R}{h:Nat->R->U->Prop}{k:Nat->Own->U->Prop}(o:bk w g e j a7)(x:ba e j)(y:∀a c b,bk w b e (j++[v]) c->jx g b->k a c b)
  (z:Z=kg e g [v] (c7 u ()):=by exact iu)
  (C:∀a,g a=η->u (.J [v] (.buf a 1)) (g.set a (.buf e 1 1))=nM e i (g.set a (.buf e 1 1)) (.J j a7) (.J [v] (.buf a 1)) (c7 (h a) ()):=by intro a d;exact fu)
  (D:∀a c b,bk w b e (j++[v]) c->h a (.J (j++[v]) c) b=k a c b:=by intro a c b o;exact iu)
  (p:β v.cells=e:=by first|rfl|assumption|simp[τ, *]) (L:β j<=1000000000:=by exact pZ) (E:i<=10000:=by decide):Z:=by
 rw[z];refine⟨λF f=>by rw[a7H.1 f];exact p,?_⟩;rw[if_neg σ];intro a d;refine(C a d).mpr (yd (o.mono (U.ae U.a1 d)) x (λF f=>by rw[a7H.1 f];exact p) ?_ ?_ λc b r G=>(D a c b r).mpr (y a c b r ((U.tg (U.ae U.a1 d)).trans G)))
 .exact a8w (aaW (show β j+1<=1000000001 by omega) E) Μ
 .simp;omega
def Z2:ba 1 (O.map av):=λb a=>by obtain⟨_,_,rfl⟩:=a7M.1 a;rfl
def Z3{d:UInt8}{h:Nat->R->U->Prop}{k:Nat->Own->U->Prop}(o:bk w g 1 (O.map av) a7)(r:∀a c b,bk w b 1 ((O++[d]).map av) c->jx g b->k a c b)
  (x:Z=kg 1 g [av d] (c7 u ()):=by exact iu)
  (y:∀a,g a=η->u (.J [av d] (.buf a 1)) (g.set a (.buf 1 1 1))=nM 1 e (g.set a (.buf 1 1 1)) (.J (O.map av) a7) (.J [av d] (.buf a 1)) (c7 (h a) ()):=by intro a F;exact fu)
  (z:∀a c b,bk w b 1 ((O++[d]).map av) c->h a (.J ((O++[d]).map av) c) b=k a c b:=by intro a c b o;exact iu)
  (C:β O<=1000000000:=by exact pZ) (D:e<=10000:=by decide):Z:=by
 have p:O.map av++[av d]=(O++[d]).map av:=by rw[a8r];rfl
 refine hv o Z2 (λa c b f E=>r a c b (p▸f) E) x y (λa c b f=>?_) rfl (by rw[a7Q];exact C) D;rw[p]at f|-;exact z a c b f
def kS{c:Own->U->Prop}(d:bk w g e j a7)(h:ba e j)(k:ba e B)(o:∀b a,bk w a e (j++B) b->jx g a->c b a)
  (p:Z=nM e i g (.J j a7) (.J B h5) (c7 u ()):=by exact iu) (r:∀b a,bk w a e (j++B) b->u (.J (j++B) b) a=c b a:=by intro b a d;exact iu)
  (x:β j+β B<=1000000000:=by exact pZ) (y:i<=10000:=by decide):Z:=by
 rw[p];refine yd d h k (a8w (aaW x y) Μ) ε λb a f z=>(r b a f).mpr (o b a f z)
def ti{c:Own->U->Prop}(f:ba e j)(h:∀a b,bk g b e j a->c a b)
  (k:Z=nM e i g (.J [] a7) (.J j h5) (c7 u ()):=by exact DT) (o:a7=.nil\/a7=.zero:=by first|exact .inl rfl|exact .inr rfl) (p:∀a b,bk g b e j a->u (.J j a) b=c a b:=by intro a b d;exact iu)
  (r:β j<=1000000000:=by exact pZ) (x:i<=10000:=by decide):Z:=
 kS (w:=g) (c:=c) (by rcases o with rfl|rfl;exact bk.nil U.a1;exact bk.zero U.a1) DV f (λa b d _=>h a b d) k p (by simpa using r) x
def rh(c:aq w g e B s)(h:c8 g e b8=γ (t,j))(k:∀a b,aq w b e (B++j) a->b2 a b)
  (o:Z=mO e i g s b8 (c7 u ()):=by exact iu) (p:∀a b,aq w b e (B++j) a->u a b=b2 a b:=by intro a b c;exact iu)
  (d:0<e:=by decide) (r:β j=t*e:=by first|rfl|omega|simp) (x:β B+β j<=1000000000:=by exact pZ) (y:i<=10000:=by decide):Z:=by
 rw[o];refine fN c d h r (a8w (aaW x y) (a8w Μ (abh _ d))) ε λa b f=>(p a b f).mpr (k a b f)
def uP(c:c8 g e s=γ (t,j))(d:∀a b,aq g b e j a->b2 a b)
  (f:Z=mO e i g (.J [] a7) s (c7 u ()):=by exact DT) (h:a7=.nil\/a7=.zero:=by first|exact .inl rfl|exact .inr rfl) (k:∀a b,aq g b e j a->u a b=b2 a b:=by intro a b y;exact iu)
  (o:0<e:=by decide) (p:β j=t*e:=by first|rfl|omega|simp) (r:β j<=1000000000:=by exact pZ) (x:i<=10000:=by decide):Z:=
 rh (B:=[]) (w:=g) (by rcases h with rfl|rfl;exact aq.nil U.a1;exact aq.zero U.a1) c d f k o p (by simpa using r) x
def DW{v:R}{f h:Nat->R->U->Prop}(k:aq w g 1 j s)(p:∀a b c,aq w c 1 (j++[v]) b->f a b c)(r:Z=pU 1 g [v] (c7 u ()):=by exact iu)
  (x:∀a,g a=η->u (.ar a 1 1 1) (g.set a (.cells [v]))=mO 1 e (g.set a (.cells [v])) s (.ar a 1 1 1) (c7 (h a) ()):=by intro a d;exact fu)
  (y:∀a b c,aq w c 1 (j++[v]) b->h a b c=f a b c:=by intro a b c k;exact iu) (o:v.cells=[v]:=by first|rfl|assumption) (z:β j+1<=1000000000:=by exact pZ) (C:e<=10000:=by decide):Z:=by
 have D:flat [v]=[v]:=by simp[flat,o]
 rw[r];refine gY (λF E=>by rw[a7H.1 E,o];rfl) σ λa d=>?_;rw[D];refine(x a d).mpr (rh (k.mono (U.ae U.a1 d)) ?_ (p a) rfl (y a) Μ rfl z C);simp[c8,U.read,U.set]
end
end Go.bw
set_option maxRecDepth 100000
namespace Go.Proofs.YtgchlmdfldnhnaaGreat
open Go Go.bw
def rotl(a:UInt32)(b:Nat):UInt32:=a<<<UInt32.ofNat b|||a>>>UInt32.ofNat (32 - b)
def Z4(a:Nat)(b:0<a/\a<32):bj .and (.int .u64 (IntKind.u64.wrap (-((32 - a:Nat):Int)))) (.int .u64 31)=γ (.int .u64 a):=by have c:∀a:Fin 32,0<a.val->IntKind.u64.wrap (ς IntKind.u64.bits (IntKind.u64.wrap (-((32 - a.val:Nat))))&&&ς IntKind.u64.bits 31).toNat=(a.val):=Μ;have:=c ⟨a,b.2⟩ b.1;simp only[bj,gI,ka,this];rfl
theorem Z5(c:UInt32)(a:Nat)(d:0<a/\a<32)(b:U):AC δ 306 [.v (.int .u32 c.toNat),.v (.int .i64 (-((32 - a:Nat):Int)))] b λf h=>h=b/\f=.v (.int .u32 (rotl c a).toNat):=by refine bh hm Ul σ ?_;refine aS (Z4 a d) ?_;refine⟨b,U.a1,rfl,?_⟩;grind[rotl]
def mQ(b:UInt32)(d:Int)(a:Nat)(f:0<a/\a<32)(h:d= -((32 - a:Nat):Int))(c:U):AC δ 306 [.v (.int .u32 b.toNat),.v (.int .i64 d)] c λk o=>o=c/\k=.v (.int .u32 (rotl b a).toNat):=by subst h;exact Z5 b a f c
def word(a:ϊ)(b:Nat):UInt32:=(a.getD (4*b) 0).toUInt32<<<24|||(a.getD (4*b+1) 0).toUInt32<<<16|||(a.getD (4*b+2) 0).toUInt32<<<8|||(a.getD (4*b+3) 0).toUInt32
def Z6(a:UInt32):UInt32:=rotl a 25^^^rotl a 14^^^a>>>3
def Z7(a:UInt32):UInt32:=rotl a 15^^^rotl a 13^^^a>>>10
def more(a:ό):ό:=a++[a.getD (β a - 16) 0+Z6 (a.getD (β a - 15) 0)+a.getD (β a - 7) 0+Z7 (a.getD (β a - 2) 0)]
def first(a:ϊ)(b:Nat):ό:=(ψ b).map (word a)
def grow:Nat->ό->ό
 |0,a=>a
 |b+1,a=>grow b (more a)
def sched(a:ϊ):ό:=grow 48 (first a 16)
def iN(a:ό):ύ:=a.map (λb=>.v (.int .u32 b.toNat))++θ (64 - β a) (.v (.int .u32 0))
def Z8:iN []=θ 64 (.v (.int .u32 0)):=by rfl
def ye{a:ό}(b:β a<=64):(iN a).length=64:=by simp[iN];omega
variable{e i t I b3 e5:Nat}
theorem DX{a:ό}(b:UInt32)(c:e=β a)(f:β a<64):putAt (iN a) e [.v (.int .u32 b.toNat)]=iN (a++[b]):=by subst c;have d:64 - β a=(64 -(β a+1))+1:=ε;simp only[putAt,iN,d,aa7];grind
theorem tj{a:ό}(b:e<β a):aX κ 1 ((iN a).drop e)=.v (.int .u32 (a.getD e 0).toNat):=by grind[aX,iN,List.map_drop,List.drop_eq_getElem_cons,List.getD]
theorem Z9(c:ϊ)(T:Own)(i:β c=64)(C:U):AC δ 304 [.J (c.map av) T] C λj p=>p=C/\j=.agg ((sched c).map λL=>.v (.int .u32 L.toNat)):=by
 refine bh hm Uh σ ?_;refine eS ?_;refine aR λE l=>?_;refine eS ?_;refine aR λF P=>?_;obtain⟨s,P⟩:=U.hr P;refine eS ?_;refine cZ (λb p=>∃a:Nat,a<=16/\b 0=.J (c.map av) T/\b 2=.ptr E 0/\b 3=.ptr F 0/\b 10=.v (.int .i64 a)/\p=(C.set E (.cells (θ 64 (.v (.int .u32 0))))).set F (.cells (iN (first c a))))
  (λb _=>match b 10 with|.v (.int _ S)=>(16 - S).toNat|_=>0) ⟨0,ε,?_⟩ ?_
 .simp -dsimp -implicitDefEqProofs (disch:=first|omega|assumption|(simp only[bd,Nat.reduceAdd];try omega)) only[go_sem,↓reduceIte,Nat.reduceEqDiff,Nat.reduceAdd,Nat.reduceSub,Nat.reduceMul,Nat.reduceLeDiff,Nat.reduceLT,Int.reduceNeg,Int.reduceToNat,Int.reduceAdd,Int.reduceSub,Int.reduceMul,Int.reduceLT,Int.reduceLE,Int.reduceEq,Int.reduceNe,first,List.range_zero,Z8]
  all_goals (simp)
 .rintro b p⟨a,m,V,d,f,W,rfl⟩;have e:(first c a).length=a:=by simp[first]
  by_cases h:(a:Int)<16
  .have k:(iN (first c a)).length=64:=ye ε;have n:(4*(a:Int)).toNat=4*a:=ε;have r:(4*(a:Int)+1).toNat=4*a+1:=ε;have x:(4*(a:Int)+2).toNat=4*a+2:=ε;have y:(4*(a:Int)+3).toNat=4*a+3:=ε;have t:(a:Int).toNat+1<=64:=ε;refine aS (gZ @V @d @f @W @h @k @i @n @r @x @y) ?_;rw[DX _ e.symm ε];refine⟨⟨a+1,ε,σ,?_⟩,ε⟩;simp only[first,a9r,a8r,a7O,a8R];rfl
  .obtain rfl:a=16:=ε;refine aS (aZ @V @d @f @W @h) ?_;refine cZ (λb p=>∃(o:ό)(a:Nat),a<=48/\β o=16+a/\grow (48 - a) o=sched c/\b 2=.ptr E 0/\b 3=.ptr F 0/\b 5=.v (.int .i64 ((16+a:Nat)))/\p=(C.set E (.cells (θ 64 (.v (.int .u32 0))))).set F (.cells (iN o)))
    (λb _=>match b 5 with|.v (.int _ S)=>(64 - S).toNat|_=>0) ⟨first c 16,0,ε,e,rfl,?_⟩ ?_
   .simp -dsimp -implicitDefEqProofs (disch:=first|omega|assumption|(simp only[bd,Nat.reduceAdd];try omega)) only[go_sem,↓reduceIte,Nat.reduceEqDiff,Nat.reduceAdd,Nat.reduceSub,Nat.reduceMul,Nat.reduceLeDiff,Nat.reduceLT,Int.reduceNeg,Int.reduceToNat,Int.reduceAdd,Int.reduceSub,Int.reduceMul,Int.reduceLT,Int.reduceLE,Int.reduceEq,Int.reduceNe,d,f,grow];rfl
   .rintro b p⟨o,a,m,G,g,d,f,z,rfl⟩;by_cases h:((16+a:Nat):Int)<64
    .have k:(iN o).length=64:=ye ε;have r:(((16+a:Nat):Int) - 15).toNat=a+1:=ε;have x:(((16+a:Nat):Int) - 2).toNat=a+14:=ε;have y:(((16+a:Nat):Int) - 16).toNat=a:=ε;have D:(((16+a:Nat):Int) - 7).toNat=a+9:=ε;refine aS (cw @d @f @z @h @r @x @y @D @k @tj) ?_;refine ak (mQ _ _ 25 Μ Μ _) ?_;rintro _ _⟨rfl,rfl⟩;refine aS (cw @d @f @z @h @r @x @y @D @k @tj) ?_;refine ak (mQ _ _ 14 Μ Μ _) ?_;rintro _ _⟨rfl,rfl⟩;refine aS (cw @d @f @z @h @r @x @y @D @k @tj) ?_;refine ak (mQ _ _ 15 Μ Μ _) ?_;rintro _ _⟨rfl,rfl⟩;refine aS (cw @d @f @z @h @r @x @y @D @k @tj) ?_;refine ak (mQ _ _ 13 Μ Μ _) ?_;rintro _ _⟨rfl,rfl⟩;refine aS (cw @d @f @z @h @r @x @y @D @k @tj) ?_;rw[DX _ G.symm ε];refine⟨⟨_,a+1,ε,by simp[G];omega,?_,?_,rfl⟩,ε⟩
     .rw[<-g,show 48 - a=(48 -(a+1))+1 by omega,grow,more,G];rw[show 16+a - 16=a by omega,show 16+a - 15=a+1 by omega,show 16+a - 7=a+9 by omega,show 16+a - 2=a+14 by omega];rfl
     .simp;omega
    .obtain rfl:a=48:=ε;have k:(iN o).length=64:=ye ε;have q:(iN o).take 64=o.map λL=>.v (.int .u32 L.toNat):=by grind[iN,Λ]
     have u:o=sched c:=g;refine aS (cr @d @f @z @h @k @q @G) ?_;exact⟨C,U.ae (U.ae U.a1 l) P,rfl,by grind⟩
def wl(a:ό):ύ:=a.map λb=>.v (.int .u32 b.toNat)
theorem hx{a:ό}:(wl a).length=β a:=by simp[wl]
theorem mR{a:ό}(b:e<β a):aX κ 1 ((wl a).drop e)=.v (.int .u32 (a.getD e 0).toNat):=by simp only[aX,wl];simp_all
def q2{a:ό}(b:0<β a):aX κ 1 (wl a)=.v (.int .u32 (a.getD 0 0).toNat):=mR (e:=0) b
def Za{a:ό}(b:UInt32)(c:e<β a):putAt (wl a) e [.v (.int .u32 b.toNat)]=wl (a.set e b):=by simp only[putAt,wl,a7I,a7E,<-aaG,<-aaF];rw[a8N,if_pos c];simp
def yf:ό:=[
 0x428a2f98,0x71374491,0xb5c0fbcf,0xe9b5dba5,0x3956c25b,0x59f111f1,0x923f82a4,0xab1c5ed5,
 0xd807aa98,0x12835b01,0x243185be,0x550c7dc3,0x72be5d74,0x80deb1fe,0x9bdc06a7,0xc19bf174,
 0xe49b69c1,0xefbe4786,0x0fc19dc6,0x240ca1cc,0x2de92c6f,0x4a7484aa,0x5cb0a9dc,0x76f988da,
 0x983e5152,0xa831c66d,0xb00327c8,0xbf597fc7,0xc6e00bf3,0xd5a79147,0x06ca6351,0x14292967,
 0x27b70a85,0x2e1b2138,0x4d2c6dfc,0x53380d13,0x650a7354,0x766a0abb,0x81c2c92e,0x92722c85,
 0xa2bfe8a1,0xa81a664b,0xc24b8b70,0xc76c51a3,0xd192e819,0xd6990624,0xf40e3585,0x106aa070,
 0x19a4c116,0x1e376c08,0x2748774c,0x34b0bcb5,0x391c0cb3,0x4ed8aa4a,0x5b9cca4f,0x682e6ff3,
 0x748f82ee,0x78a5636f,0x84c87814,0x8cc70208,0x90befffa,0xa4506ceb,0xbef9a3f7,0xc67178f2]
def kT:ό:=[0x6a09e667,0xbb67ae85,0x3c6ef372,0xa54ff53a,0x510e527f,0x9b05688c,0x1f83d9ab,0x5be0cd19]
def yg(a:U):AC δ 295 [] a λb c=>c=a/\b=.agg (wl kT):=by refine bh hm U7 σ ?_;refine eS ?_;refine aR λf d=>?_;simp -dsimp -implicitDefEqProofs (disch:=first|omega|assumption|(simp only[bd,Nat.reduceAdd];try omega)) only[go_sem,simprocAttr,putAt,List.take,List.drop,θ,a8K,a7T];exact⟨a,U.ae U.a1 d,rfl,rfl⟩
def Zb(a:U):AC δ 305 [] a λb c=>c=a/\b=.agg (wl yf):=by refine bh hm Uj σ ?_;refine eS ?_;refine aR λf d=>?_;simp -dsimp -implicitDefEqProofs (disch:=first|omega|assumption|(simp only[bd,Nat.reduceAdd];try omega)) only[go_sem,simprocAttr,putAt,List.take,List.drop,θ,a8K,a7T];exact⟨a,U.ae U.a1 d,rfl,rfl⟩
def uQ(o p:UInt32):ό->ό
 |[a,c,d,r,b,f,h,x]=>
  let k:=x+(rotl b 26^^^rotl b 21^^^rotl b 7)+(b&&&f^^^ ~~~b&&&h)+o+p
  let y:=(rotl a 30^^^rotl a 19^^^rotl a 10)+(a&&&c^^^a&&&d^^^c&&&d)
  [k+y,a,c,d,r+k,b,f,h]
 |z=>z
def lT:ό->ό->ό->ό
 |a::bF,b::ws,v=>lT bF ws (uQ a b v)
 |_,_,v=>v
def comp(a:ό)(b:ϊ):ό:=Β (·+ ·) (lT yf (sched b) a) a
def oS(a:Nat)(v b:ό):ό:=Β (·+ ·) (v.take a) (b.take a)++v.drop a
def DY:∀(a:Nat)(b:ό),(grow a b).length=β b+a
 |0,b=>rfl
 |a+1,b=>by rw[grow,DY a,more];simp;omega
def Zc(a:ϊ):(sched a).length=64:=by simp[sched,DY,first]
def Zd(a:ϊ)(c:Own)(d:β a=64)(b:U):AC δ 304 [.J (a.map av) c] b λf h=>h=b/\f=.agg (wl (sched a)):=Z9 a c d b
def Ze(v b:ό)(c:β v=8)(d:β b=8)(a:Nat)(f:a<8):
  (oS a v b).length=8/\(oS a v b).set a ((oS a v b).getD a 0+b.getD a 0)=oS (a+1) v b:=by
 match v,c,b,d with
 |[h,k,o,p,r,x,y,z],_,[C,D,E,F,G,L,P,S],_=>rcases(by omega:a=0\/a=1\/a=2\/a=3\/a=4\/a=5\/a=6\/a=7)with rfl|rfl|rfl|rfl|rfl|rfl|rfl|rfl<;>exact⟨rfl,rfl⟩
def Zf(a b:UInt32)(v:ό)(c:β v=8):(uQ a b v).length=8:=by
 match v,c with
 |[d,f,h,k,o,p,r,a],_=>rfl
def DZ:∀(a b v:ό),β v=8->(lT a b v).length=8
 |[],_,v,c=>by trivial
 |_:: _,[],v,c=>by trivial
 |d::a,f::b,v,c=>by rw[lT];exact DZ a b _ (Zf d f v c)
theorem Zg(b c v:ό)(a:Nat)(d:a<β b)(f:a<β c):lT (b.drop a) (c.drop a) v=lT (b.drop (a+1)) (c.drop (a+1)) (uQ (b.getD a 0) (c.getD a 0) v):=by grind[List.drop_eq_getElem_cons,lT,List.getD]
theorem Zh(c r x:ό)(I:ϊ)(K:Own)(t:β c=8)(N:β r=64)(O:β x=64)
  (Q:∀k,AC δ 305 [] k λS o=>o=k/\S=.agg (wl r))
  (X:∀k,AC δ 304 [.J (I.map av) K] k λS o=>o=k/\S=.agg (wl x)) (k:U):
  AC δ 296 [.agg (wl c),.J (I.map av) K] k λS o=>o=k/\S=.agg (wl (Β (·+ ·) (lT r x c) c)):=by
 refine bh hm U9 σ ?_;have y:(wl c).length=8:=by rw[hx,t]
 have z:(wl r).length=64:=by rw[hx,N]
 have C:(wl x).length=64:=by rw[hx,O]
 refine aS @y ?_;refine aR λV Y=>?_;refine aS @y ?_;refine aR λW u=>?_;obtain⟨k9,u⟩:=U.hr u;refine aS @y ?_;refine ak (X _) ?_;rintro _ _⟨rfl,rfl⟩;refine aS @y ?_;refine ak (Q _) ?_;rintro _ _⟨rfl,rfl⟩;refine aS @y ?_;refine aR λw T=>?_;obtain⟨l0,T⟩:=U.hr T;obtain⟨l1,T⟩:=U.hr T;refine aS @y ?_;refine aR λA P=>?_;obtain⟨l2,P⟩:=U.hr P;obtain⟨l3,P⟩:=U.hr P;obtain⟨l4,P⟩:=U.hr P;refine aS @y ?_;refine aR λe D=>?_;obtain⟨l5,D⟩:=U.hr D;obtain⟨l6,D⟩:=U.hr D;obtain⟨l7,D⟩:=U.hr D;obtain⟨l8,D⟩:=U.hr D;refine aS (aL @y @z @C @a7x.{0}) ?_;refine cZ (λb o=>∃(a:Nat)(v:ό),a<=64/\β v=8/\lT (r.drop a) (x.drop a) v=lT r x c/\b 2=.ptr V 0/\b 4=.ptr W 0/\b 5=.ptr w 0/\b 6=.ptr A 0/\b 7=.ptr e 0/\b 18=.v (.int .i64 a)/\
   o=(((((k.set V (.cells (wl c))).set W (.cells (θ 8 (.v (.int .u32 0))))).set w (.cells (wl x))).set A (.cells (wl r))).set e (.cells (wl v))))
  (λb _=>match b 18 with|.v (.int _ B)=>(64 - B).toNat|_=>0) ⟨0,c,ε,t,rfl,?_⟩ ?_
 .exact r7
  all_goals (trivial)
 .rintro b o⟨a,v,Z,H,k2,d,f,E,F,h,G,rfl⟩;have L:(wl v).length=8:=by rw[hx,H]
  by_cases p:(a:Int)<64
  .obtain⟨g,i,j,l,m,n,q,s,rfl⟩:∃g i j l m n q s,v=[g,i,j,l,m,n,q,s]:=by
    match v,H with
    |[g,i,j,l,m,n,q,s],_=>simp
   refine aS (hb @d @f @E @F @h @G @p @L @z @C @mR @q2 @a8C.{0} @a8U.{0}) ?_;refine ak (mQ _ _ 26 Μ Μ _) ?_;rintro _ _⟨rfl,rfl⟩;refine aS (hb @d @f @E @F @h @G @p @L @z @C @mR @q2 @a8C.{0} @a8U.{0}) ?_;refine ak (mQ _ _ 21 Μ Μ _) ?_;rintro _ _⟨rfl,rfl⟩;refine aS (hb @d @f @E @F @h @G @p @L @z @C @mR @q2 @a8C.{0} @a8U.{0}) ?_;refine ak (mQ _ _ 7 Μ Μ _) ?_;rintro _ _⟨rfl,rfl⟩;refine aS (hb @d @f @E @F @h @G @p @L @z @C @mR @q2 @a8C.{0} @a8U.{0}) ?_;refine ak (mQ _ _ 30 Μ Μ _) ?_;rintro _ _⟨rfl,rfl⟩;refine aS (hb @d @f @E @F @h @G @p @L @z @C @mR @q2 @a8C.{0} @a8U.{0}) ?_;refine ak (mQ _ _ 19 Μ Μ _) ?_;rintro _ _⟨rfl,rfl⟩;refine aS (hb @d @f @E @F @h @G @p @L @z @C @mR @q2 @a8C.{0} @a8U.{0}) ?_;refine ak (mQ _ _ 10 Μ Μ _) ?_;rintro _ _⟨rfl,rfl⟩;simp -dsimp -implicitDefEqProofs (disch:=first|omega|assumption|(simp only[bd,Nat.reduceAdd];try omega)) only[go_sem,↓reduceIte,Nat.reduceEqDiff,Nat.reduceAdd,Nat.reduceSub,Nat.reduceMul,Nat.reduceLeDiff,Nat.reduceLT,Int.reduceNeg,Int.reduceToNat,Int.reduceAdd,Int.reduceSub,Int.reduceMul,Int.reduceLT,Int.reduceLE,Int.reduceEq,Int.reduceNe,d,f,E,F,h,G,p,L,z,C,mR,q2,a8C,a8U,putAt,List.take,List.drop,θ,a8K,a7T];refine⟨⟨a+1,uQ (r.getD a 0) (x.getD a 0) [g,i,j,l,m,n,q,s],ε,rfl,?_,σ,rfl⟩,ε⟩;grind[Zg]
  .obtain rfl:a=64:=ε;have k3:lT r x c=v:=by rw[<-k2,a9n ε];rfl
   refine aS (cw @d @f @E @F @h @G @p @L @z @C) ?_;refine cZ (λb o=>∃a:Nat,a<=8/\b 2=.ptr V 0/\b 4=.ptr W 0/\b 7=.ptr e 0/\b 108=.v (.int .i64 a)/\
     o=(((((k.set V (.cells (wl c))).set W (.cells (θ 8 (.v (.int .u32 0))))).set w (.cells (wl x))).set A (.cells (wl r))).set e (.cells (wl (oS a v c)))))
    (λb _=>match b 108 with|.v (.int _ B)=>(8 - B).toNat|_=>0) ⟨0,ε,?_⟩ ?_
   .refine aS (aD @d @f @h) ?_;rfl
   .rintro b o⟨a,Z,d,f,h,M,rfl⟩;by_cases p:(a:Int)<8
    .obtain⟨k4,k5⟩:=Ze v c H t a ε;have k6:(wl (oS a v c)).length=8:=by rw[hx,k4]
     refine aS (cw @d @f @h @M @p @y @k6 @mR @Za @k5) ?_;grind
    .obtain rfl:a=8:=ε;have k7:oS 8 v c=Β (·+ ·) v c:=by grind[oS,Λ,List.drop_of_length_le]
     have k8:(wl (Β (·+ ·) v c)).length=8:=by rw[hx];simp;omega
     rw[k7];refine aS (cr @d @f @h @M @p @k8 @a7x.{0}) ?_;refine⟨k,?_,rfl,by rw[k3]⟩;exact U.ae (U.ae (U.ae (U.ae (U.ae U.a1 Y) u) T) P) D
def E0(b:ό)(a:ϊ)(c:Own)(f:β b=8)(h:β a=64)(d:U):
  AC δ 296 [.agg (wl b),.J (a.map av) c] d λk o=>o=d/\k=.agg (wl (comp b a)):=
 Zh b yf (sched a) a c f rfl (Zc a) Zb (Zd a c h) d
def yh(a:ό)(c:ϊ)(b:β a=8):(comp a c).length=8:=by simp[comp,DZ _ _ _ b,b]
def bytes(a:ϊ)(b:Own):R:=.J (a.map av) b
def fb(a:Nat):ϊ:=[φ (a>>>56),φ (a>>>48),φ (a>>>40),φ (a>>>32),φ (a>>>24),φ (a>>>16),φ (a>>>8),φ (a>>>0)]
theorem E1(b:Nat)(r:U):AC δ 297 [.v (.int .u64 b)] r λz f=>∃c,bk r f 1 ((fb b).map av) c/\z=.J ((fb b).map av) c:=by
 refine bh hm Ub σ ?_;refine eS ?_;refine cZ (λd f=>∃(a:Nat)(c:Own),a<=8/\bk r f 1 (((fb b).take a).map av) c/\d 0=.v (.int .u64 b)/\d 3=.J (((fb b).take a).map av) c/\d 4=.v (.int .i64 (56 - 8*(a))))
  (λd _=>match d 4 with|.v (.int _ b)=>(b+8).toNat|_=>0) ⟨0,.nil,ε,bk.WO U.a1,?_⟩ ?_
 .refine eS ?_;rfl
 .rintro d f⟨a,c,F,x,h,k,o⟩;by_cases p:(0)<=56 - 8*(a:Int)
  .refine aS (aZ @h @k @o @p @pS) ?_;refine sX U.a1 λG L C=>?_;refine aS (aL @h @k @o @p) ?_;refine xO (x.mono C.sub) (by simp[fb];omega) λD P E=>?_;refine aS (aL @h @k @o @p) ?_;refine⟨⟨a+1,D,ε,?_,?_⟩,ε⟩
   .have y:(fb b).take (a+1)=(fb b).take a++[φ (b>>>(56 - 8*(a:Int)).toNat)]:=by rcases(by omega:a=0\/a=1\/a=2\/a=3\/a=4\/a=5\/a=6\/a=7)with rfl|rfl|rfl|rfl|rfl|rfl|rfl|rfl<;>rfl
    rw[y];exact E
   .have y:(fb b).take (a+1)=(fb b).take a++[φ (b>>>(56 - 8*(a:Int)).toNat)]:=by rcases(by omega:a=0\/a=1\/a=2\/a=3\/a=4\/a=5\/a=6\/a=7)with rfl|rfl|rfl|rfl|rfl|rfl|rfl|rfl<;>rfl
    grind
  .obtain rfl:a=8:=ε;refine aS (aL @h @k @o @p) ?_;exact⟨f,U.a1,c,x,rfl⟩
def q3(b:List (ϊ×Own)):ύ:=b.map λa=>.J (a.1.map av) a.2
def chunk(a:ϊ):ϊ:=fb (β a)++a
def preB(a:UInt8)(b:List ϊ):ϊ:=a::b.flatMap chunk
def E2(a:UInt8):∀b:List ϊ,β b<(preB a b).length
 |[]=>by simp[preB]
 |d::c=>by
  have:=E2 a c;simp only[preB,a7I,a7R,Ρ,chunk,fb,a7E]at this|-;omega
def Zi(b:UInt8)(c:List (ϊ×Own))(o:Own)(P:(preB b (c.map (·.1))).length<=70368744177664)(F:U):
  AC δ 276 [.v (.int .u8 b.toNat),.J (q3 c) o] F λS p=>∃o,bk F p 1 ((preB b (c.map (·.1))).map av) o/\S=.J ((preB b (c.map (·.1))).map av) o:=by
 refine bh hm TF σ ?_;refine eS ?_;refine sX U.a1 λT n V=>?_;refine eS ?_;refine cZ (λf p=>∃(a h:List (ϊ×Own))(D:Own),c=a++h/\bk F p 1 ((preB b (a.map (·.1))).map av) D/\f 5=.J ((preB b (a.map (·.1))).map av) D/\f 10=.J (q3 c) o/\f 11=.v (.int .i64 (β c))/\f 12=.v (.int .i64 (β a)))
  (λf _=>match f 12 with|.v (.int _ W)=>(β c - W).toNat|_=>0) ⟨[],c,T,rfl,V,?_⟩ ?_
 .refine eS ?_;exact⟨rfl,by simp[q3]⟩
 .rintro f p⟨a,h,D,rfl,G,r,x,y,z⟩;cases h with
  |nil=>have k:¬(β a:Int)<((a++[]).length):=σ;refine aS (aZ @r @x @y @z @k) ?_;simp only[a8u]at*;exact⟨p,U.a1,D,G,rfl⟩
  |cons e h=>
   obtain⟨d,C⟩:=e;have k:(β a:Int)<((a++(d,C)::h).length):=Ι;have E:(q3 (a++(d,C)::h))[β a]?=γ (.J (d.map av) C):=by simp[q3]
   have q:(preB b (a.map (·.1))).length+8+β d<=70368744177664:=by refine a8w ?_ P;simp[preB,chunk,fb];omega
   have g:=E2 b (a.map (·.1));rw[a7Q]at g;refine aS (cr @r @x @y @z @k @E @ir) ?_;refine ak (E1 (β d) _) ?_;rintro _ s⟨t,i,rfl⟩;refine aS (cr @r @x @y @z @k @E @ir) ?_;refine nO (G.mono i.sub) ?_ λu v j=>?_
   .simp only[fb,a7I,a7E];omega
   refine aS (cr @r @x @y @z @k @E @ir) ?_;refine nO j ?_ λl w L=>?_
   .simp only[fb,Ρ,a7I,a7E];omega
   refine aS (cr @r @x @y @z @k @E @ir) ?_;have m:preB b (a.map (·.1))++fb (β d)++d=preB b ((a++[(d,C)]).map (·.1)):=by simp[preB,chunk]
   rw[m]at L|-;refine⟨⟨a++[(d,C)],h,l,σ,L,rfl,?_⟩,?_⟩
   .simp
   omega
def blocks:Nat->ό->ϊ->ό
 |0,a,_=>a
 |b+1,a,aN=>blocks b (comp a (aN.take 64)) (aN.drop 64)
def ri:∀(b:Nat)(a:ό)(aN:ϊ),β a=8->(blocks b a aN).length=8
 |0,_,_,c=>c
 |b+1,a,aN,c=>by rw[blocks];exact ri b _ _ (yh a _ c)
theorem yi:∀(a:Nat)(b:ό)(aN:ϊ),blocks (a+1) b aN=comp (blocks a b aN) ((aN.drop (64*a)).take 64)
 |0,b,aN=>by rfl
 |a+1,b,aN=>by
  rw[blocks,yi a,blocks,a8p];grind
variable{s b8:R}
section
variable{h:ό}(hh:β h=8)
include hh
def mS:(wl h++[s,b8]).length=10:=by simp[wl,hh]
def rj:(wl h++[s,b8]).drop 9=[b8]:=by rw[show(9)=(wl h).length+1 by rw[hx,hh],<-a8p,aan];rfl
theorem rk:(wl h++[s,b8]).drop 8=[s,b8]:=by grind[wl,hx,List.drop_left]
theorem rl:(wl h++[s,b8]).take 8=wl h:=by grind[wl,hx,List.take_left]
theorem yj{a:R} :putAt (wl h++[s,b8]) 9 [a]=wl h++[s,a]:=by simp_all [hx,putAt,aaI,a7x]
theorem uR{a:R} :putAt (wl h++[s,b8]) 8 [a]=wl h++[a,b8]:=by simp_all [hx,putAt,a9m]
theorem yk{a:ό}(b:β a=8):putAt (wl h++[s,b8]) 0 (wl a)=wl a++[s,b8]:=by grind[wl,hx,putAt,List.take_append,List.drop_append,List.drop_of_length_le]
end
variable{g w h7:U}{b0:bq}
theorem U.rm(a:g e=γ b0):g.set e b0=g:=by grind[U.set]
theorem U.E3{c:bq}(d:(g.set e c).sub w):(g.set e b0).sub (w.set e b0):=λf h a=>by
 rw[U.uB]at a|-;split;simp_all
 .rename_i b;rw[if_neg b]at a;exact d f h (by rw[U.uB,if_neg b];exact a)
theorem Zj(f:ό)(a:β f=8)(S:∀k,AC δ 295 [] k λT o=>o=k/\T=.agg (wl f))(b:ϊ)(V:Own)(s:β b<=70368744177664)(k:U)(h:Nat)(W:k h=γ (.cells (wl f++[.J [] .nil,.v (.int .u64 0)]))):
  AC δ 274 [.ptr h 0,.J (b.map av) V] k λ_ o=>∃p,o=k.set h (.cells (wl (blocks (β b/64) f b)++[.J ((b.drop (64*(β b/64))).map av) p,.v (.int .u64 (β b))])):=by
 refine bh hm TB σ ?_;have D:(wl f).length=8:=by rw[hx,a]
 rw[<-U.rm W];simp -dsimp -implicitDefEqProofs (disch:=first|omega|assumption|(simp only[bd,Nat.reduceAdd];try omega)) only[go_sem,simprocAttr,mS a,rj a,rk a,rl a,yj a,uR a];refine ak (S _) ?_;rintro _ _⟨rfl,rfl⟩;simp -dsimp -implicitDefEqProofs (disch:=first|omega|assumption|(simp only[bd,Nat.reduceAdd];try omega)) only[go_sem,simprocAttr,mS a,rj a,rk a,rl a,yj a,uR a,yk a a,D];refine eF U.a1 (by simp[ba]) λt u E=>?_;have F:=E.sub h _ (ξ _ _ _);simp -dsimp -implicitDefEqProofs (disch:=first|omega|assumption|(simp only[bd,Nat.reduceAdd];try omega)) only[go_sem,simprocAttr,U.aO F,U.ad F,mS a,rj a,rk a,rl a,yj a,uR a,yk a a,D];refine ef E (by simp[ba]) (by simp[ba]) σ σ λv w e=>?_;refine eS ?_;refine nO (O:=[]) e Ι λg i G=>?_;have j:=G.sub h _ (ξ _ _ _);rw[<-U.rm j];simp -dsimp -implicitDefEqProofs (disch:=first|omega|assumption|(simp only[bd,Nat.reduceAdd];try omega)) only[go_sem,simprocAttr,aba,a7T];refine cZ (λr o=>∃(c:Nat)(p:Own),64*c<=β b/\r 0=.ptr h 0/\r 4=.J ((b.drop (64*c)).map av) p/\o=i.set h (.cells (wl (blocks c f b)++[.J [] .nil,.v (.int .u64 (β b))])))
  (λr _=>match r 4 with|.J xs _=>β xs|_=>0) ⟨0,g,ε,?_⟩ ?_
 .simp -dsimp -implicitDefEqProofs (disch:=first|omega|assumption|(simp only[bd,Nat.reduceAdd];try omega)) only[go_sem,simprocAttr,aba];rfl
 .rintro r o⟨c,p,A,z,C,rfl⟩;have d:=ri c f b a;generalize L:blocks c f b=y at*;have B:(wl y).length=8:=by rw[hx,d]
  by_cases x:(64)<=((b.drop (64*c)).length:Int)
  .have l:=x;rw[a7F]at l;simp -dsimp -implicitDefEqProofs (disch:=first|omega|assumption|(simp only[bd,Nat.reduceAdd];try omega)) only[go_sem,simprocAttr,z,C,x,mS d,rl d];have m:((b.drop (64*c)).take (64:Int).toNat).length=64:=Ι;refine ak (E0 y _ _ d m _) ?_;rintro _ _⟨rfl,rfl⟩;have P:=yh y ((b.drop (64*c)).take 64) d;have n:(wl (comp y ((b.drop (64*c)).take 64))).length=8:=by rw[hx,P]
   simp -dsimp -implicitDefEqProofs (disch:=first|omega|assumption|(simp only[bd,Nat.reduceAdd];try omega)) only[go_sem,simprocAttr,z,C,x,mS d,yk d P,n];refine⟨⟨c+1,.any,ε,?_,?_⟩,by simp only[a7F];omega⟩;grind[List.drop_drop]
   .rw[yi,L]
  .simp -dsimp -implicitDefEqProofs (disch:=first|omega|assumption|(simp only[bd,Nat.reduceAdd];try omega)) only[go_sem,simprocAttr,z,C,x,mS d,uR d];rw[a7F]at x;have q:β b/64=c:=ε;refine⟨k.set h _,U.E3 G.sub,p,?_⟩;rw[q,L]
def Zk(a:ϊ)(d:Own)(f:β a<=70368744177664)(b:U)(c:Nat)(h:b c=γ (.cells (wl kT++[.J [] .nil,.v (.int .u64 0)]))):
  AC δ 274 [.ptr c 0,.J (a.map av) d] b λ_ k=>∃o,k=b.set c (.cells (wl (blocks (β a/64) kT a)++[.J ((a.drop (64*(β a/64))).map av) o,.v (.int .u64 (β a))])):=
 Zj kT rfl yg a d f b c h
def kU(a:Nat):Nat:=(55+64 - a%64)%64
def kV(a:Nat)(b:ϊ):ϊ:=b++128::θ (kU a) 0++fb (8*a)
def yl(a:UInt32):ϊ:=[(a>>>24).toUInt8,(a>>>16).toUInt8,(a>>>8).toUInt8,a.toUInt8]
def iO(a:ό):ϊ:=a.flatMap yl
def dJ(a:ϊ):R:=.agg (a.map av)
def kW(a:ϊ):ύ:=a.map av++θ (32 - β a) (.v (.int .u8 0))
variable{O:ϊ}
def ym(a:β O<=32):(kW O).length=32:=by simp[kW];omega
def E4(a:UInt8)(b:e=β O)(d:β O<32):putAt (kW O) e [.v (.int .u8 a.toNat)]=kW (O++[a]):=by subst b;have c:32 - β O=(32 -(β O+1))+1:=ε;simp only[putAt,kW,c,aa7];simp[a9m,av]
def yn:∀a:ό,(iO a).length=4*β a
 |[]=>rfl
 |c::b=>by simp only[iO,a7R,Ρ]at*;have:=yn b;simp only[iO]at this;rw[this];simp[yl];omega
theorem Zl(m:ό)(a13:β m=8)(k7:∀E,AC δ 295 [] E λn o=>o=E/\n=.agg (wl m))(p:ό)(r:β p=8)(a:Nat)(h:ϊ)(H:Own)(a14:a<=70368744177664)(I:β h=a%64)(k8:a=0->p=m)
  (E:U) (P:Nat) (S:E P=γ (.cells (wl p++[.J (h.map av) H,.v (.int .u64 a)]))):
  AC δ 275 [.ptr P 0] E λn o=>o=E/\n=dJ (iO (blocks ((kV a h).length/64) p (kV a h))):=by
 refine bh hm TD σ ?_;have K:(wl p).length=8:=by rw[hx,r]
 refine eS ?_;refine aR λF q=>?_;have k9:P≠F:=by rintro rfl;rw[q]at S;cases S
 simp -dsimp -implicitDefEqProofs (disch:=first|omega|assumption|(simp only[bd,Nat.reduceAdd];try omega)) only[go_sem,↓reduceIte,Nat.reduceEqDiff,Nat.reduceAdd,Nat.reduceSub,Nat.reduceMul,Nat.reduceLeDiff,Nat.reduceLT,Int.reduceNeg,Int.reduceToNat,Int.reduceAdd,Int.reduceSub,Int.reduceMul,Int.reduceLT,Int.reduceLE,Int.reduceEq,Int.reduceNe,U.ad S,mS r,rj r,rk r,rl r];refine aR λG e=>?_;obtain⟨M,e⟩:=U.hr e;have l0:P≠G:=by rintro rfl;rw[e]at S;cases S
 simp -dsimp -implicitDefEqProofs (disch:=first|omega|assumption|(simp only[bd,Nat.reduceAdd];try omega)) only[go_sem,↓reduceIte,Nat.reduceEqDiff,Nat.reduceAdd,Nat.reduceSub,Nat.reduceMul,Nat.reduceLeDiff,Nat.reduceLT,Int.reduceNeg,Int.reduceToNat,Int.reduceAdd,Int.reduceSub,Int.reduceMul,Int.reduceLT,Int.reduceLE,Int.reduceEq,Int.reduceNe,U.ad S,mS r,rj r,rk r,rl r,K];refine Di (λb o=>b 0=.ptr P 0/\b 2=.ptr F 0/\b 3=.ptr G 0/\o=(E.set F (.cells (θ 32 (.v (.int .u8 0))))).set G (.cells (wl p))) ?_ ?_ ?_
 .intro N;have l1:a=0:=by simpa using N
  have l2:=k8 l1;subst l2;refine eS ?_;refine ak (k7 _) ?_;rintro _ _⟨rfl,rfl⟩;exact iM @K
 .intro _;exact r7
 .rintro b o⟨y,c,d,rfl⟩;have O:((E.set F (.cells (θ 32 (.v (.int .u8 0))))).set G (.cells (wl p))) P=γ (.cells (wl p++[.J (h.map av) H,.v (.int .u64 a)])):=by rw[ο _ _ l0,ο _ _ k9];exact S
  generalize s:((E.set F (.cells (θ 32 (.v (.int .u8 0))))).set G (.cells (wl p)))=l3 at*;refine aS (aD @y @c @d) ?_;refine eF U.a1 (by simp[ba]) λa15 a16 Q=>?_;have l4:=Q.sub _ _ O;simp -dsimp -implicitDefEqProofs (disch:=first|omega|assumption|(simp only[bd,Nat.reduceAdd];try omega)) only[go_sem,↓reduceIte,Nat.reduceEqDiff,Nat.reduceAdd,Nat.reduceSub,Nat.reduceMul,Nat.reduceLeDiff,Nat.reduceLT,Int.reduceNeg,Int.reduceToNat,Int.reduceAdd,Int.reduceSub,Int.reduceMul,Int.reduceLT,Int.reduceLE,Int.reduceEq,Int.reduceNe,y,c,d,U.ad l4,mS r,rk r];refine nO (O:=[]) Q Ι λa18 a19 l5=>?_;refine aS (aD @y @c @d) ?_;refine sX (a:=128) U.a1 λa27 a29 l6=>?_;refine aS (aD @y @c @d) ?_;refine xO (l5.mono l6.sub) Ι λl7 a30 a34=>?_;refine aS (aL @y @c @d @a7T.{0}) ?_;refine cZ (λb o=>∃(D:Nat)(T:Own),D<=kU a/\b 0=.ptr P 0/\b 2=.ptr F 0/\b 3=.ptr G 0/\b 4=.J ((h++128::θ D 0).map av) T/\bk l3 o 1 ((h++128::θ D 0).map av) T)
   (λb _=>match b 4 with|.J xs _=>200 - β xs|_=>0) ⟨0,l7,ε,?_⟩ ?_
  .simp -dsimp -implicitDefEqProofs (disch:=first|omega|assumption|(simp only[bd,Nat.reduceAdd];try omega)) only[go_sem,↓reduceIte,Nat.reduceEqDiff,Nat.reduceAdd,Nat.reduceSub,Nat.reduceMul,Nat.reduceLeDiff,Nat.reduceLT,Int.reduceNeg,Int.reduceToNat,Int.reduceAdd,Int.reduceSub,Int.reduceMul,Int.reduceLT,Int.reduceLE,Int.reduceEq,Int.reduceNe,y,c,d];trivial
  .rintro b o⟨D,T,a36,y,c,d,z,t⟩;have N:kU a<=63:=by unfold kU;omega
   have X:(h++128::θ D 0).length=a%64+1+D:=by simp[I];omega
   by_cases L:D<kU a
   .have l8:¬(((a%64+1+D)%64:Nat):Int)=56:=by unfold kU at L;omega
    refine aS (cr @y @c @d @z @X @Dl @l8) ?_;refine sX (a:=0) U.a1 λl9 n0 u=>?_;refine aS (aL @y @c @d @z) ?_;refine xO (t.mono u.sub) ε λY v i=>?_;have a38:h++128::θ D 0++[0]=h++128::θ (D+1) 0:=by simp[List.replicate_succ']
    refine aS (aL @y @c @d @z) ?_;grind
   .obtain rfl:D=kU a:=ε;have n2:(((a%64+1+kU a)%64:Nat):Int)=56:=by unfold kU;omega
    have n3:=t.sub _ _ O;simp -dsimp -implicitDefEqProofs (disch:=first|omega|assumption|(simp only[bd,Nat.reduceAdd];try omega)) only[go_sem,↓reduceIte,Nat.reduceEqDiff,Nat.reduceAdd,Nat.reduceSub,Nat.reduceMul,Nat.reduceLeDiff,Nat.reduceLT,Int.reduceNeg,Int.reduceToNat,Int.reduceAdd,Int.reduceSub,Int.reduceMul,Int.reduceLT,Int.reduceLE,Int.reduceEq,Int.reduceNe,y,c,d,z,X,Dl,n2,ne_eq,not_true_eq_false,U.ad n3,mS r,rj r];have V:(8)*(a)=((8*a:Nat):Int):=σ;rw[V];refine ak (E1 (8*a) _) ?_;rintro _ n0⟨l9,u,rfl⟩;refine aS (aL @y @c @d @z) ?_;refine nO (t.mono u.sub) (by simp[fb];omega) λY v i=>?_;refine aS (aL @y @c @d @z) ?_;have n4:=i.sub _ _ (by rw[<-s];exact ξ _ _ _);have Z:=i.sub _ _ (by rw[<-s,ο _ _ (Θ M)];exact ξ _ _ _);have k2:=U.ao (by rw[<-s];exact U.ae (U.ae U.a1 q) e) i.sub;rw[<-U.rm n4];have n5:h++128::θ (kU a) 0++fb (8*a)=kV a h:=rfl;have a42:(kV a h).length=64*((kV a h).length/64):=by
     have:(kV a h).length=a%64+1+kU a+8:=by simp[kV,I,fb];omega
     rw[this];unfold kU;omega
    rw[n5];generalize kV a h=x at*;refine cZ (λb o=>∃(k:Nat)(T:Own),64*k<=β x/\b 2=.ptr F 0/\b 3=.ptr G 0/\b 4=.J ((x.drop (64*k)).map av) T/\o=v.set G (.cells (wl (blocks k p x))))
     (λb _=>match b 4 with|.J xs _=>β xs|_=>0) ⟨0,Y,ε,?_⟩ ?_
    .refine aS (c2 @c @d) ?_;rfl
    .rintro b o⟨k,T,a43,c,d,z,rfl⟩;have w:=ri k p x r;have j:(wl (blocks k p x)).length=8:=by rw[hx,w]
     by_cases L:(0)<((x.drop (64*k)).length:Int)
     .have n9:=L;rw[a7F]at n9;have a47:64<=(x.drop (64*k)).length:=by rw[a7F];omega
      refine aS (bt @c @d @z @L @j @a7x.{0}) ?_;have a00:((x.drop (64*k)).take 64).length=64:=Ι;refine ak (E0 _ _ _ w a00 _) ?_;rintro _ _⟨rfl,rfl⟩;have a01:=yh (blocks k p x) ((x.drop (64*k)).take 64) w;have a02:(wl (comp (blocks k p x) ((x.drop (64*k)).take 64))).length=8:=by rw[hx,a01]
      refine aS (aZ @c @d @z @j @a02) ?_;refine⟨⟨k+1,.any,ε,?_,?_⟩,by simp only[a7F];omega⟩;grind[List.drop_drop]
      .rw[yi]
     .rw[a7F]at L;have a03:k=β x/64:=ε;refine aS (aZ @c @d @z @a7F.{0} @L) ?_;rw[<-a03];generalize a48:blocks k p x=C at*;refine aR λA B=>?_;obtain⟨a52,B⟩:=U.hr B;have k3:A≠F:=by grind
      refine aS (aZ @c @d @z @j @a7x.{0}) ?_;refine cZ (λb o=>∃f:Nat,f<=8/\b 2=.ptr F 0/\b 5=.ptr A 0/\b 50=.agg (wl C)/\b 51=.v (.int .i64 f)/\o=(v.set G (.cells (wl C))).set A (.cells (kW (iO (C.take f)))))
       (λb _=>match b 51 with|.v (.int _ a)=>(8 - a).toNat|_=>0) ⟨0,ε,?_⟩ ?_
      .refine aS (aD @c @d @z) ?_;rfl
      .rintro b o⟨f,a56,c,k4,k5,k6,rfl⟩;have W:(iO (C.take f)).length=4*f:=by rw[yn];simp;omega
       by_cases L:(f:Int)<8
       .have a04:(kW (iO (C.take f))).length=32:=ym ε;have a05:(4*(f:Int)).toNat=4*f:=ε;have a06:(4*(f:Int)+1).toNat=4*f+1:=ε;have a07:(4*(f:Int)+2).toNat=4*f+2:=ε;have a08:(4*(f:Int)+3).toNat=4*f+3:=ε;have a57:∀(g)(l),β g<32->putAt (kW g) (β g) [.v (.int .u8 l.toNat)]=kW (g++[l]):=λg l a09=>E4 l rfl a09;simp -dsimp -implicitDefEqProofs (disch:=first|omega|assumption|(simp only[bd,Nat.reduceAdd];try omega)) only[go_sem,↓reduceIte,Nat.reduceEqDiff,Nat.reduceAdd,Nat.reduceSub,Nat.reduceMul,Nat.reduceLeDiff,Nat.reduceLT,Int.reduceNeg,Int.reduceToNat,Int.reduceAdd,Int.reduceSub,Int.reduceMul,Int.reduceLT,Int.reduceLE,Int.reduceEq,Int.reduceNe,c,k4,k5,k6,L,j,mR,a05,a06,a07,a08,E4,ym];refine⟨⟨f+1,ε,σ,?_⟩,ε⟩;grind[iO,yl,List.getD,List.take_succ_eq_append_getElem]
       .obtain rfl:f=8:=ε;have a04:(kW (iO (C.take 8))).length=32:=ym ε;have V:C.take 8=C:=a7x ε;have a10:kW (iO C)=(iO C).map av:=by rw[V]at W;simp[kW,W]
        have a11:((iO C).map av).length=32:=by rw[V]at W;simp[W]
        have a61:(iO C).length=32:=by rw[V]at W;exact W
        rw[V,a10];refine aS (jw @c @k4 @k5 @k6 @L @a11 @a7x.{0} (U.aO Z) (U.ad Z) @k3 (Θ k3) (Θ M) @uD) ?_;refine⟨E,?_,rfl,rfl⟩;exact U.ae (U.ae (U.ae k2 e) (U.bH k2 B)) q
def Zm(b:U):AC δ 273 [] b λc d=>∃a,b a=η/\c=.ptr a 0/\d=b.set a (.cells (wl kT++[.J [] .nil,.v (.int .u64 0)])):=by refine bh hm Tz σ ?_;refine eS ?_;refine ak (yg _) ?_;rintro _ _⟨rfl,rfl⟩;have f:(wl kT).length=8:=rfl;have h:putAt (θ 8 (R.v (Value.int IntKind.u32 0))++[R.J [] Own.nil]++[R.v (Value.int IntKind.u64 0)]) 0 (wl kT)=wl kT++[.J [] .nil,.v (.int .u64 0)]:=rfl;simp -dsimp -implicitDefEqProofs (disch:=first|omega|assumption|(simp only[bd,Nat.reduceAdd];try omega)) only[go_sem,↓reduceIte,Nat.reduceEqDiff,Nat.reduceAdd,Nat.reduceSub,Nat.reduceMul,Nat.reduceLeDiff,Nat.reduceLT,Int.reduceNeg,Int.reduceToNat,Int.reduceAdd,Int.reduceSub,Int.reduceMul,Int.reduceLT,Int.reduceLE,Int.reduceEq,Int.reduceNe,f,h];refine aR λa k=>?_;refine eS ?_;exact⟨_,U.a1,a,k,rfl,rfl⟩
def kX(a:ϊ):ϊ:=
 iO (blocks ((kV (β a) (a.drop (64*(β a/64)))).length/64) (blocks (β a/64) kT a) (kV (β a) (a.drop (64*(β a/64)))))
def yo(a:ϊ):(kX a).length=32:=by rw[kX,yn,ri _ _ _ (ri _ _ _ rfl)]
def Zn(a:ϊ)(c:Own)(d:β a<=70368744177664)(b:U):AC δ 232 [.J (a.map av) c] b λh k=>k=b/\h=dJ (kX a):=by
 refine bh hm SD σ ?_;refine eS ?_;refine aR λF o=>?_;refine eS ?_;refine ak (Zm _) ?_;rintro _ _⟨f,p,rfl,rfl⟩;obtain⟨r,x⟩:=U.hr p;refine eS ?_;refine ak (Zk a c d _ f (ξ _ _ _)) ?_;rintro _ _⟨y,rfl⟩;refine eS ?_;have z:(a.drop (64*(β a/64))).length=β a%64:=Ι;refine ak (Zl kT rfl yg (blocks (β a/64) kT a) (ri _ _ _ rfl) (β a) (a.drop (64*(β a/64))) y d z (λC=>?_) _ f (ξ _ _ _)) ?_
 .rw[C];rfl
 rintro _ _⟨rfl,rfl⟩;have D:((kX a).map av).length=32:=by rw[a7Q,yo]
 have G:=yo a;have E:dJ (iO (blocks ((kV (β a) (a.drop (64*(β a/64)))).length/64) (blocks (β a/64) kT a) (kV (β a) (a.drop (64*(β a/64))))))=.agg ((kX a).map av):=rfl;rw[E];generalize kX a=L at*;refine aS (c2 @D (Θ r)) ?_;exact⟨b,U.ae (U.ae U.a1 o) x,rfl,by rw[a7x ε];rfl⟩
def a7p(a:List ϊ):Prop:=∀b∈a,β b=32
def cd:(dJ O).cells=O.map av:=rfl
def cf(a:β O=32):(.agg ((O.take 32).map av):R)=dJ O:=by rw[a7x (by simp[a])];rfl
def Zo(a:List ϊ)(b:Own)(c:List (ϊ×Own))(d:Own)(f:Bool):bq:=.cells [.J (a.map dJ) b,.J (q3 c) d,.v (.bool f)]
def PS(c:U)(d:Nat)(f h:List ϊ)(k:Bool)(o:U):Prop:=
 ∃p b a,a.map (·.1)=h/\bk (c.set d (Zo f p a b k)) o 1 (q3 a) b
def uS:ϊ:=θ 32 0
def hN:bq:=.cells (θ 32 (.v (.int .u8 0)))
def Zp(a:ϊ):bq:=.cells (a.map av)
theorem E5{a:ϊ}(b:dJ O=dJ a):O=a:=by
 have c:O.map av=a.map av:=by simpa[dJ] using b
 have d:=congrArg bytesOf c;rw[sv,sv]at d;simp_all
end Go.Proofs.YtgchlmdfldnhnaaGreat
set_option maxHeartbeats 1000000
namespace Go.Proofs.YtgchlmdfldnhnaaGreat
open Go Go.bw
structure BF where
 x:ϊ
 y:ϊ
 cR:List ϊ
 tk:List ϊ
 iP:Bool
end Go.Proofs.YtgchlmdfldnhnaaGreat
set_option maxHeartbeats 1000000
namespace Go.Proofs.YtgchlmdfldnhnaaGreat
open Go Go.bw
def uT(a:ϊ)(b:Own):bq:=.cells [.J (a.map av) b,.v (.int .i64 0)]
def dx(c:U)(d:Nat)(a:ϊ)(f:U):Prop:=∃b,bk (c.set d (uT a b)) f 1 (a.map av) b
def yp(f h:U)(d:Nat)(a b:ϊ)(x:Own)(c:dx f d a h)(C:β a+β b<=70368744177664):
  AC δ 271 [.ptr d 0,.v (.bool ζ),.J (b.map av) x] h λ_ y=>dx f d (a++b) y:=by
 obtain⟨D,c⟩:=c;have z:=c.sub _ _ (ξ _ _ _);refine bh hm Tv σ ?_;refine aS (aL @a8n (U.ad z) @cd @cf) ?_;refine nO c ε λk E o=>?_;have p:=o.sub _ _ (ξ _ _ _);refine aS (aL (U.ad p) (U.aO p) @cd @cf) ?_;have r:=o.set (ob:=uT (a++b) k) (ξ _ _ _);rw[υ]at r;exact⟨_,U.a1,k,r⟩
def q4(c h:U)(a:Nat)(b:ϊ)(d:UInt8)(f:dx c a b h)(k:β b+1<=70368744177664):
  AC δ 225 [.ptr a 0,.v (.int .u8 d.toNat)] h λ_ o=>dx c a (b++[d]) o:=by
 refine bh hm Sp σ ?_;refine aS (c2 @cd @cf) ?_;refine sX U.a1 λp r x=>?_;refine aS (c2 @cd @cf) ?_;obtain⟨y,f⟩:=f;refine ak (yp c r a b [d] p ⟨y,f.mono x.sub⟩ k) ?_;intro D z C;refine aS (c2 @cd @cf) ?_;exact⟨z,U.a1,C⟩
def cx(a:Int):Nat:=(ς 64 a^^^ς 64 9223372036854775808).toNat
def kY(a:Int):ϊ:=fb (cx a)
theorem E6(a:Int):bj .xor (.int .u64 (IntKind.u64.wrap a)) (.int .u64 9223372036854775808)=γ (.int .u64 (cx a)):=by
 have b:ς 64 (IntKind.u64.wrap a)=ς 64 a:=by rw[lQ];apply BitVec.eq_of_toInt_eq;grind
 have c:bj .xor (.int .u64 (IntKind.u64.wrap a)) (.int .u64 9223372036854775808)=γ (.int .u64 (IntKind.u64.wrap (ς 64 (IntKind.u64.wrap a)^^^ς 64 9223372036854775808).toNat)):=rfl;rw[c,b];have d:=(ς 64 a^^^ς 64 9223372036854775808).isLt;rw[wrap_u64 ε ε];rfl
theorem Zq(k z:U)(b:Nat)(o:ϊ)(f:Int)(D:dx k b o z)(F:β o+8<=70368744177664):
  AC δ 272 [.ptr b 0,.v (.int .i64 f)] z λ_ c=>dx k b (o++kY f) c:=by
 refine bh hm Tx σ ?_;refine aS (aD @E6 @cd @cf) ?_;generalize E:cx f=h;refine cZ (λd c=>∃a:Nat,a<=8/\dx k b (o++(fb h).take a) c/\d 0=.ptr b 0/\d 4=.v (.int .u64 h)/\d 5=.v (.int .i64 (56 - 8*(a))))
  (λd _=>match d 5 with|.v (.int _ f)=>(f+8).toNat|_=>0) ⟨0,ε,by simpa using D,?_⟩ ?_
 .exact iM (c2 @cd @cf)
 .rintro d c⟨a,G,C,p,r,x⟩;by_cases y:(0)<=56 - 8*(a:Int)
  .refine aS (cr @p @r @x @y @pS @cd @cf) ?_;refine ak (q4 k c b _ _ C ?_) ?_
   .simp;omega
   intro L P S;refine aS (bt @p @r @x @y @cd @cf) ?_;refine⟨⟨a+1,ε,?_,Ι⟩,ε⟩;have T:(fb h).take (a+1)=(fb h).take a++[φ (h>>>(56 - 8*(a:Int)).toNat)]:=by rcases(by omega:a=0\/a=1\/a=2\/a=3\/a=4\/a=5\/a=6\/a=7)with rfl|rfl|rfl|rfl|rfl|rfl|rfl|rfl<;>rfl
   grind
  .obtain rfl:a=8:=ε;refine aS (bt @p @r @x @y @cd @cf) ?_;refine⟨c,U.a1,?_⟩;rw[kY,E];exact C
end Go.Proofs.YtgchlmdfldnhnaaGreat
namespace Go.bw
open Go
def E7(a:Bool)(c:R)(b:R->Prop):Prop:=
 match c with
 |.J xs d=>match d with
  |.nil=>b (.v (.bool (!a)))
  |.buf _ _=>b (.v (.bool a))
  |_=>(xs=[]->b (.v (.bool (!a))))/\b (.v (.bool a))
 |.ar _ _ _ _=>b (.v (.bool a))
 |_=>False
variable{u b2:R -> U -> Prop}{M:Bool}{X:Ctx}{l:Fr}{g w h7:U}{a8 e9:Operand}
def oT:G X (.nx M a8) l g u=E7 M (ai l a8) (bT (λa=>u a g) ()):=rfl
variable{j B b7:ύ}{a7 h5 j1:Own}
def oU{a:R->Prop}{b:cK a}(c:a7=.nil->j=[])(d:j=[]->a (.v (.bool (!M))))(f:a (.v (.bool M))):E7 M (.J j a7) (bT a b):=by
 cases a7 with
 |nil=>exact d (c rfl)
 |buf h k=>exact f
 |any=>trivial
 |zero=>trivial
end Go.bw
namespace Go.Proofs.YtgchlmdfldnhnaaGreat
open Go Go.bw
def E8(a:ϊ)(d:Own)(b:U)(h:d=.nil->a=[])(z:β a<=70368744177664):
  AC δ 212 [.J (a.map av) d] b λk o=>∃f,bk b o 1 (a.map av) f/\k=.J (a.map av) f:=by
 refine bh hm RY σ ?_;simp -dsimp -implicitDefEqProofs (disch:=first|omega|assumption|(simp only[bd,Nat.reduceAdd];try omega)) only[go_sem,simprocAttr,cd,cf,↓oT];refine oU (λc=>by rw[h c];rfl) (λc=>?_) ?_
 .have p:a=[]:=by simpa using c
  subst p;refine aS (aD @a8q @cd @cf) ?_;exact⟨b,U.a1,.nil,bk.nil U.a1,rfl⟩
 .refine aS (c2 @cd @cf) ?_;refine eF U.a1 (by simp[ba]) λC D r=>?_;refine aS (c2 @cd @cf) ?_;refine nO (O:=[]) r Ι λx y E=>?_;refine aS (aD @a7T.{0} @cd @cf) ?_;exact⟨y,U.a1,x,by trivial,rfl⟩
def Zr(h b:U)(d:Nat)(a:ϊ)(c:dx h d a b)(k:β a<=70368744177664):
  AC δ 230 [.ptr d 0] b λo p=>∃f,bk b p 1 (a.map av) f/\o=.J (a.map av) f:=by
 obtain⟨r,c⟩:=c;have x:=c.sub _ _ (ξ _ _ _);refine bh hm Sz σ ?_;refine aS (aD (U.ad x) @cd @cf) ?_;refine ak (E8 a r b (λy=>?_) k) ?_
 .subst y;have:=c.2;simpa using this
 rintro _ z⟨C,D,rfl⟩;refine aS (c2 @cd @cf) ?_;exact⟨z,U.a1,C,D,rfl⟩
end Go.Proofs.YtgchlmdfldnhnaaGreat
namespace Go.bw
open Go
end Go.bw
namespace Go.Proofs.YtgchlmdfldnhnaaGreat
open Go Go.bw
def yq(a:Int)(b c:ϊ):ύ:=.v (.int .i64 a)::(b.map av++c.map av)
def Zs(a:Int)(b c:ϊ):R:=.agg (yq a b c)
def Zt(a:Int)(b c:ϊ):ϊ:=preB 68 [kY a,b,c]
end Go.Proofs.YtgchlmdfldnhnaaGreat
namespace Go.bw
open Go
variable{g w h7:U}{j B b7:ύ}{e i t I b3 e5:Nat}
def Zu(a:β j=e):sZ 1 e (g.set i (.ro j)) (.ptr i 0)=γ (.J j .any):=WS (ξ _ _ _) a
end Go.bw
namespace Go.Proofs.YtgchlmdfldnhnaaGreat
open Go Go.bw
structure iQ where
 n:Int
 h:ϊ
 d:ϊ
 deriving DecidableEq
def iQ.ok(a:iQ):Prop:=β a.h=32/\β a.d=32
def iQ.C(a:iQ):ύ:=yq a.n a.h a.d
def iQ.V(a:iQ):R:=Zs a.n a.h a.d
def iQ.sum(a:iQ):ϊ:=kX (Zt a.n a.h a.d)
def dx.mono{b c d:U}{f:Nat}{h:ϊ}(a:dx b f h c)(k:c.sub d):dx b f h d:=by obtain⟨o,a⟩:=a;exact⟨o,a.mono k⟩
def dx.sub{a c:U}{d:Nat}{f:ϊ}(b:dx a d f c)(h:a d=η):a.sub c:=by obtain⟨k,b⟩:=b;exact U.ao (U.ae U.a1 h) b.sub
theorem dx.base{b c d:U}{f:Nat}{h:ϊ}(a:dx b f h d)(k:c.sub b):dx c f h d:=by obtain⟨o,a⟩:=a;exact⟨o,a.base (U.lP k)⟩
variable{g w h7:U}{O:ϊ}{e i t I b3 e5:Nat}
def dx.cell(a:dx w e O g):∃b,g e=γ (uT O b):=by obtain⟨b,a⟩:=a;exact⟨b,a.sub _ _ (ξ _ _ _)⟩
def dx.new{d f:U}{c a:Nat}{o:ϊ}{ob:bq}(b:dx d c o f)(h:f a=η):a≠c/\d a=η/\dx (d.set a ob) c o (f.set a ob):=by
 obtain⟨p,r⟩:=b.cell;have k:a≠c:=by rintro rfl;rw[h]at r;cases r
 obtain⟨p,b⟩:=b;have x:=U.bH b.sub h;rw[ο _ _ k]at x;refine⟨k,x,p,?_⟩;rw[U.er _ k];exact b.new h
variable{b0:bq}
def dx.get(a:dx g i O w)(b:e≠i)(c:g e=γ b0):w e=γ b0:=by obtain⟨d,a⟩:=a;exact a.sub _ _ (by rw[ο _ _ b];exact c)
def Zv(d f:U)(a:Nat)(b c:ϊ)(h:β c=32)(k:dx d a b f)(x:β b+32<=70368744177664):
  AC δ 228 [.ptr a 0,dJ c] f λ_ o=>dx d a (b++c) o:=by
 refine bh hm Sv σ ?_;refine aS (aD @h @cd @cf) ?_;refine aR λy p=>?_;refine aS (aL @h @Zu @cd @cf) ?_;refine ak (yp d _ a b c .any (k.mono (U.ae U.a1 p)) ε) ?_;intro z C r;refine aS (c2 @cd @cf) ?_;exact⟨_,U.a1,r⟩
def E9(a:Int):(kY a).length=8:=rfl
structure Rd where
 b:ϊ
 e:Int
def jz(a:Rd)(b:Own):bq:=.cells [.J (a.b.map av) b,.v (.int .i64 a.e)]
def cA(a:U)(b:Nat)(c:Rd)(d:U):Prop:=∃f,(a.set b (jz c f)).sub d
def cA.cell{a:Rd}(b:cA w e a g):∃c,g e=γ (.cells [.J (a.b.map av) c,.v (.int .i64 a.e)]):=by obtain⟨c,b⟩:=b;exact⟨c,b _ _ (ξ _ _ _)⟩
theorem cA.base{b:Rd}(a:cA g e b h7)(c:w.sub g):cA w e b h7:=by obtain⟨d,a⟩:=a;exact⟨d,U.ao (U.lP c) a⟩
theorem cA.set{c d:U}{a:Nat}{k:Rd}(b:cA c a k d)(f:Rd)(h:Own):cA c a f (d.set a (jz f h)):=by obtain⟨o,b⟩:=b;exact⟨h,U.E3 b⟩
def cA.get{b:Rd}(a:cA g i b w)(c:e≠i)(d:g e=γ b0):w e=γ b0:=by obtain⟨f,a⟩:=a;exact a _ _ (by rw[ο _ _ c];exact d)
def cA.new{c:Rd}{ob:bq}(a:cA g i c w)(d:w e=η):e≠i/\g e=η/\cA (g.set e ob) i c (w.set e ob):=by
 obtain⟨f,h⟩:=a.cell;have b:e≠i:=by rintro rfl;rw[d]at h;cases h
 obtain⟨f,a⟩:=a;have k:=U.bH a d;rw[ο _ _ b]at k;refine⟨b,k,f,?_⟩;rw[U.er _ b];exact U.lP a
def cA.other{b:Rd}{ob:bq}(a:cA g e b w)(c:i≠e):cA (g.set i ob) e b (w.set i ob):=by obtain⟨d,a⟩:=a;refine⟨d,?_⟩;rw[U.er _ c];exact U.lP a
def Zw(a:ϊ)(c:Own)(b:U)(o:c=.nil->a=[])(p:β a<=70368744177664):
  AC δ 140 [.J (a.map av) c] b λr x=>∃d,b d=η/\r=.ptr d 0/\cA b d ⟨a,0⟩ x:=by
 refine bh hm Qc σ ?_;refine aS (c2 @cd @cf) ?_;refine ak (E8 a c b o p) ?_;rintro _ C⟨f,h,rfl⟩;have k:putAt [R.J [] Own.nil,R.v (Value.int IntKind.i64 0)] 0 [R.J (a.map av) f]=[R.J (a.map av) f,R.v (Value.int IntKind.i64 0)]:=rfl;refine aS (aD @k @cd @cf) ?_;refine aR λy z=>?_;refine aS (aD @k @cd @cf) ?_;exact⟨_,U.a1,y,U.bH h.sub z,rfl,f,U.lP h.sub⟩
def lU(a:Rd)(e:Int):Rd:=if a.e=0 then {a with e:=e}else a
variable{s b8:R}
def Zx{a:R}:putAt [s,a] 1 [b8]=[s,b8]:=rfl
def Zy{a:R}:putAt [a,s] 0 [b8]=[b8,s]:=rfl
def tl(h k:U)(c:Nat)(a:Rd)(e:Int)(d:cA h c a k):
  AC δ 214 [.ptr c 0,.v (.int .i64 e)] k λ_ o=>cA h c (lU a e) o:=by
 obtain⟨p,f⟩:=d.cell;refine bh hm S2 σ ?_;by_cases b:a.e=0
 .refine aS (bt (U.ad f) (U.aO f) @b @Zx @cd @cf) ?_;refine⟨_,U.a1,?_⟩;rw[lU,if_pos b];exact d.set {a with e:=e} p
 .refine aS (aL (U.ad f) @b @cd @cf) ?_;refine⟨_,U.a1,?_⟩;rw[lU,if_neg b];exact d
def dW(a:Rd)(c:Nat):Option ϊ×Rd:=
 if a.e=0 then(if β a.b<c then(η,{a with e:=20})else(γ (a.b.take c),{a with b:=a.b.drop c}))else(η,a)
def Zz(o p:U)(h:Nat)(a:Rd)(c:Nat)(E:c<=100000000)(f:cA o h a p):
  AC δ 213 [.ptr h 0,.v (.int .i64 c)] p λz C=>cA o h (dW a c).2 C/\
   (∃r,(r=.nil->(dW a c).1.getD []=[])/\z=.aJ [.J (((dW a c).1.getD []).map av) r,.v (.bool (dW a c).1.isSome)]):=by
 obtain⟨r,k⟩:=f.cell;refine bh hm S0 σ ?_;by_cases d:a.e=0
 .by_cases c2:β a.b<c
  .have x:(β a.b:Int)<c:=ε;have e:dW a c=(η,{a with e:=20}):=by rw[dW,if_pos d,if_pos c2]
   rw[e];refine aS (aZ (U.ad k) @d @x @cd @cf) ?_;refine ak (tl o p h a 20 f) ?_;intro z F y;rw[lU,if_pos d]at y;obtain⟨G,D⟩:=y.cell;refine aS (aD (U.ad D) @cd @cf) ?_;exact⟨_,U.a1,y,.nil,λ_=>rfl,rfl⟩
  .have x:¬(β a.b:Int)<c:=ε;have e:dW a c=(γ (a.b.take c),{a with b:=a.b.drop c}):=by rw[dW,if_pos d,if_neg c2]
   rw[e];refine aS (cr (U.ad k) (U.aO k) @d @x @Zy @cd @cf) ?_;exact⟨_,U.a1,f.set ⟨a.b.drop c,0⟩ .any,.any,(λf=>by cases f),rfl⟩
 .have e:dW a c=(η,a):=by rw[dW,if_neg d]
  rw[e];refine aS (aL (U.ad k) @d @cd @cf) ?_;exact⟨_,U.a1,f,.nil,λ_=>rfl,rfl⟩
def uU(d f:U)(c:Nat)(b:Rd)(a:Nat)(k:a<=100000000)(o:cA d c b f):
  AC δ 213 [.ptr c 0,.v (.int .i64 a)] f λp r=>cA d c (dW b a).2 r/\
   (∃h,p=.aJ [.J (((dW b a).1.getD []).map av) h,.v (.bool (dW b a).1.isSome)]):=
 (Zz d f c b a k o).mono λ_ _ ⟨x,h,_,y⟩=>⟨x,h,y⟩
def dh(a:Rd):UInt8×Rd:=((dW a 1).1.getD []|>.headD 0,(dW a 1).2)
theorem tm{a:Rd}(b:(dW a e).1=γ O):β O=e:=by grind[dW,Option.some.injEq,List.length_take]
def tn(c d:U)(b:Nat)(a:Rd)(p:cA c b a d):
  AC δ 141 [.ptr b 0] d λh r=>cA c b (dh a).2 r/\h=.v (.int .u8 (dh a).1.toNat):=by
 refine bh hm Qe σ ?_;refine aS (c2 @cd @cf) ?_;refine ak (uU c d b a 1 ε p) ?_;rintro h z⟨k,C,rfl⟩;unfold dh;have f:=λaN=>tm (a:=a) (e:=1) (O:=aN);generalize dW a 1=x at*;obtain⟨aN,D⟩:=x;cases aN with
 |none=>simp only[a9t,aaJ]at*;refine aS (c2 @cd @cf) ?_;exact⟨_,U.a1,k,rfl⟩
 |some aN=>
  simp only[a9V,a9u]at*;have f:=f aN rfl
  match aN,f with
  |[o],_=>have y:fC 1 (γ (av o))=γ (.c4 [.v (.int .u8 o.toNat)]):=rfl;simp -dsimp -implicitDefEqProofs (disch:=first|omega|assumption|(simp only[bd,Nat.reduceAdd];try omega)) only[ir,y,go_sem,↓reduceIte,Nat.reduceEqDiff,Nat.reduceAdd,Nat.reduceSub,Nat.reduceMul,Nat.reduceLeDiff,Nat.reduceLT,Int.reduceNeg,Int.reduceToNat,Int.reduceAdd,Int.reduceSub,Int.reduceMul,Int.reduceLT,Int.reduceLE,Int.reduceEq,Int.reduceNe,cd,cf,List.headD_cons];exact⟨_,U.a1,k⟩
def fv(a:ϊ):Nat:=a.foldl (λb c=>b*256+c.toNat) 0
def hy(a:Rd):Int×Rd:=
 match(dW a 8).1 with
 |none=>(0,(dW a 8).2)
 |some aN=>((BitVec.ofNat 64 (fv aN)^^^9223372036854775808#64).toInt,(dW a 8).2)
def Ea:∀(aN:ϊ)(a:Nat),aN.foldl (λa b=>a*256+b.toNat) a+1<=(a+1)*256^β aN
 |[],a=>by simp
 |b::aN,a=>by
  have c:=Ea aN (a*256+b.toNat);have d:=b.toNat_lt;rw[a8j,a7I,abJ];refine a8w c ?_;rw[abb (256^β aN) 256,<-Nat.mul_assoc];exact a7N _ ε
def Eb(a:ϊ):fv a<256^β a:=by have:=Ea a 0;rw[fv];omega
def ZA(a:ϊ)(b:Nat)(c:b<β a):fv (a.take (b+1))=fv (a.take b)*256+(a.getD b 0).toNat:=by rw[abv,Τ c,fv,a9z];simp[fv,c]
theorem ZB(a b:Nat)(c:a<18446744073709551616)(d:b<18446744073709551616):bj .or (.int .u64 a) (.int .u64 b)=γ (.int .u64 ((a|||b:Nat):Int)):=by have f:bj .or (.int .u64 a) (.int .u64 b)=γ (.int .u64 (IntKind.u64.wrap (ς 64 (a)|||ς 64 (b)).toNat)):=rfl;have h:=(ς 64 (a)|||ς 64 (b)).isLt;grind[wrap_u64,BitVec.toNat_or,BitVec.toNat_ofNat,Nat.mod_eq_of_lt]
def Ec(a b:Nat)(d:b<256):a*256|||b=a*256+b:=by have c:=aaR (i:=8) ε a;rw[ab9]at c;exact c.symm
def ZC(a:Nat)(c:a<72057594037927936):bj .shl (.int .u64 a) (.int .u64 8)=γ (.int .u64 ((a*256:Nat):Int)):=by have b:bj .shl (.int .u64 a) (.int .u64 8)=γ (.int .u64 (IntKind.u64.wrap ((a)*2^8))):=rfl;rw[b,wrap_u64 ε ε];simp
theorem ZD(a:Nat)(b:a<18446744073709551616):bj .xor (.int .u64 a) (.int .u64 9223372036854775808)=γ (.int .u64 ((BitVec.ofNat 64 a^^^9223372036854775808#64).toNat:Int)):=by have c:bj .xor (.int .u64 a) (.int .u64 9223372036854775808)=γ (.int .u64 (IntKind.u64.wrap (ς 64 (a)^^^ς 64 9223372036854775808).toNat)):=rfl;grind[BitVec.ofNat,ς,wrap_u64]
def ZE(a:BitVec 64):IntKind.i64.wrap (a.toNat:Int)=a.toInt:=by have b:((2:Int)^IntKind.i64.bits)=18446744073709551616:=rfl;have c:((2:Int)^(IntKind.i64.bits - 1))=9223372036854775808:=rfl;have d:=a.isLt;simp only[IntKind.wrap,b,c,IntKind.signed,a8J,decide_eq_true_eq,BitVec.toInt_eq_toNat_cond];omega
theorem ZF(h k:U)(f:Nat)(c:Rd)(P:cA h f c k):
  AC δ 215 [.ptr f 0] k λx o=>cA h f (hy c).2 o/\x=.v (.int .i64 (hy c).1):=by
 refine bh hm S4 σ ?_;refine aS (c2 @cd @cf) ?_;refine ak (uU h k f c 8 ε P) ?_;rintro x S⟨y,T,rfl⟩;unfold hy;have z:=λaN=>tm (a:=c) (e:=8) (O:=aN);generalize dW c 8=V at*;obtain⟨aN,n⟩:=V;cases aN with
 |none=>simp only[a9t,aaJ]at*;refine aS (c2 @cd @cf) ?_;exact⟨_,U.a1,y⟩
 |some aN=>
  simp only[a9V,a9u]at*;have z:=z aN rfl;refine aS (c2 @cd @cf) ?_;refine cZ (λb o=>∃a:Nat,a<=8/\o=S/\b 15=.J (aN.map av) T/\b 16=.v (.int .i64 (β aN))/\b 17=.v (.int .i64 a)/\b 5=.v (.int .u64 (fv (aN.take a))))
   (λb _=>match b 17 with|.v (.int _ W)=>(8 - W).toNat|_=>0) ⟨0,ε,rfl,?_⟩ ?_
  .refine aS (aD @a9o.{0} @cd @cf) ?_;rfl
  .rintro b q⟨a,s,rfl,C,D,E,p⟩;have r:=Eb (aN.take a);rw[a7z]at r;by_cases F:(a:Int)<β aN
   .have G:a<β aN:=ε;have t:fv (aN.take a)<72057594037927936:=by refine a8F r ?_;refine a8w (a9a (j:=7) ε ε) Μ
    have e:=xP G;have g:=ZA aN a G;generalize u:aN.getD a 0=d at*;have v:=d.toNat_lt;have i:IntKind.u64.wrap (d.toNat)=d.toNat:=wrap_u64 ε ε;generalize fv (aN.take a)=L at*;have j:bj .or (.int .u64 ((L*256:Nat))) (.int .u64 (d.toNat))=γ (.int .u64 ((L*256+d.toNat:Nat))):=by rw[ZB _ _ ε ε,Ec _ _ ε]
    have l:fC 1 (aN.map av)[a]?=γ (.c4 [.v (.int .u8 d.toNat)]):=by rw[e];rfl
    simp -dsimp -implicitDefEqProofs (disch:=first|omega|assumption|(simp only[bd,Nat.reduceAdd];try omega)) only[C,D,E,p,F,go_sem,↓reduceIte,Nat.reduceEqDiff,Nat.reduceAdd,Nat.reduceSub,Nat.reduceMul,Nat.reduceLeDiff,Nat.reduceLT,Int.reduceNeg,Int.reduceToNat,Int.reduceAdd,Int.reduceSub,Int.reduceMul,Int.reduceLT,Int.reduceLE,Int.reduceEq,Int.reduceNe,cd,cf,ir,l,ZC,i,j];refine⟨⟨a+1,ε,σ,?_⟩,ε⟩;rw[g]
   .obtain rfl:a=8:=ε;have m:aN.take 8=aN:=a7x ε;rw[m]at p r;have w:fv aN<18446744073709551616:=by simp_all
    simp -dsimp -implicitDefEqProofs (disch:=first|omega|assumption|(simp only[bd,Nat.reduceAdd];try omega)) only[C,D,E,p,F,go_sem,↓reduceIte,Nat.reduceEqDiff,Nat.reduceAdd,Nat.reduceSub,Nat.reduceMul,Nat.reduceLeDiff,Nat.reduceLT,Int.reduceNeg,Int.reduceToNat,Int.reduceAdd,Int.reduceSub,Int.reduceMul,Int.reduceLT,Int.reduceLE,Int.reduceEq,Int.reduceNe,cd,cf,ZD,ZE];exact⟨_,U.a1,y⟩
def nU(a:Rd):ϊ×Rd:=((dW a 32).1.getD uS,(dW a 32).2)
def Ed(a:Rd):(nU a).1.length=32:=by
 unfold nU;have b:=λaN=>tm (a:=a) (e:=32) (O:=aN);cases c:(dW a 32).1 with
 |none=>rfl
 |some aN=>exact b aN c
def ZG(p C:U)(f:Nat)(b:Rd)(h:cA p f b C):
  AC δ 216 [.ptr f 0] C λc L=>cA p f (nU b).2 L/\c=dJ (nU b).1:=by
 refine bh hm S6 σ ?_;have D:=Ed b;refine aS (c2 @cd @cf) ?_;refine aR λP S=>?_;obtain⟨E,T,h⟩:=h.new (ob:=hN) S;refine aS (c2 @cd @cf) ?_;refine aR λV W=>?_;obtain⟨F,r,h⟩:=h.new (ob:=hN) W;obtain⟨d,r⟩:=U.hr r;refine aS (c2 @cd @cf) ?_;refine ak (uU _ _ f b 32 ε h) ?_;rintro c e⟨x,i,rfl⟩;have k:=x.get E (by rw[ο _ _ (Θ d)];exact ξ _ _ _);have a:=x.get F (ξ _ _ _);have G:∀(c y),cA p f (dW b 32).2 ((e.set V c).set P y):=λc y=>by
  have:=(x.other (ob:=c) F).other (ob:=y) E;rw[υ]at this;refine this.base ?_;rw[U.er _ d,υ];exact U.ae (U.ae U.a1 T) r
 unfold nU at D|-;have o:=λaN=>tm (a:=b) (e:=32) (O:=aN);generalize dW b 32=g at*;obtain⟨aN,j⟩:=g;unfold hN at k a;have l:(θ 32 (R.v (Value.int IntKind.u8 0))).length=32:=rfl;cases aN with
 |none=>
  simp only[a9t,aaJ]at*;simp -dsimp -implicitDefEqProofs (disch:=first|omega|assumption|(simp only[bd,Nat.reduceAdd];try omega)) only[go_sem,↓reduceIte,Nat.reduceEqDiff,Nat.reduceAdd,Nat.reduceSub,Nat.reduceMul,Nat.reduceLeDiff,Nat.reduceLT,Int.reduceNeg,Int.reduceToNat,Int.reduceAdd,Int.reduceSub,Int.reduceMul,Int.reduceLT,Int.reduceLE,Int.reduceEq,Int.reduceNe,cd,cf,U.ad a,U.aO a,xT (U.ad a)];refine Du ?_ a ?_ ?_
  .simp[ba]
  .simp
  have z:putAt (θ 32 (R.v (Value.int IntKind.u8 0))) 0 (flat (List.take 32 []))=uS.map av:=rfl;rw[z];refine aS (cr @D @d (Θ d) (U.ad k) (U.aO k) @cd @cf) ?_;exact⟨_,U.a1,G _ _⟩
 |some aN=>
  simp only[a9V,a9u]at*;have o:=o aN rfl;simp -dsimp -implicitDefEqProofs (disch:=first|omega|assumption|(simp only[bd,Nat.reduceAdd];try omega)) only[go_sem,↓reduceIte,Nat.reduceEqDiff,Nat.reduceAdd,Nat.reduceSub,Nat.reduceMul,Nat.reduceLeDiff,Nat.reduceLT,Int.reduceNeg,Int.reduceToNat,Int.reduceAdd,Int.reduceSub,Int.reduceMul,Int.reduceLT,Int.reduceLE,Int.reduceEq,Int.reduceNe,cd,cf,U.ad a,U.aO a,xT (U.ad a)];refine Du ?_ a ?_ ?_
  .rw[uF];trivial
  .simp
  have z:putAt (θ 32 (R.v (Value.int IntKind.u8 0))) 0 (flat (List.take 32 (List.map av aN)))=aN.map av:=by rw[a7x (by simp[o]),sA,uD (by simp[o])]
  rw[z];refine aS (cr @o @d (Θ d) (U.ad k) (U.aO k) @cd @cf) ?_;exact⟨_,U.a1,G _ _⟩
def rn(a:Rd):Rd:=if 0<β a.b then lU a 22 else a
def ZH(c d:U)(b:Nat)(a:Rd)(f:cA c b a d):
  AC δ 145 [.ptr b 0] d λk x=>cA c b (rn a) x/\k=.v (.int .i64 (rn a).e):=by
 obtain⟨z,o⟩:=f.cell;refine bh hm Qm σ ?_;unfold rn;by_cases p:0<β a.b
 .have h:(0:Int)<β a.b:=ε;refine aS (aL (U.ad o) @h @cd @cf) ?_;refine ak (tl c d b a 22 f) ?_;intro k C r;obtain⟨D,y⟩:=r.cell;rw[if_pos p];refine aS (aD (U.ad y) @cd @cf) ?_;exact⟨_,U.a1,r⟩
 .have h:¬(0:Int)<β a.b:=ε;rw[if_neg p];refine aS (aL (U.ad o) @h @cd @cf) ?_;exact⟨_,U.a1,f⟩
end Go.Proofs.YtgchlmdfldnhnaaGreat
