import Derived.Test.YtlgnfcaolejgeaaGreatMB
set_option linter.all false
namespace Go.bz
open Go
abbrev cA.{a}{b:Sort a} (_:b):Type:=Unit
variable{b0:Type}
def bZ (a:b0->Prop) (_:cA a) (b:b0):Prop:=a b
def bO {a:Type} (b:b0->a->Prop) (_:cA b) (c:b0) (d:a):Prop:=b c d
def cu (a:Prop) (_:cA a):Prop:=a
def jE {a:b0->Prop}{c:cA a}{b:b0}:bZ a c b=a b:=rfl
def SN {b:Type}{a:b0->b->Prop}{h:cA a}{c:b0}{d:b}:bO a h c d=a c d:=rfl
variable{N b4 h2 h8 j1:Prop}
def Bs {a:cA N}:cu N a=N:=rfl
def iY (b:U) (c:Nat->Prop):Prop:= ∀a,b a=none->c a
def gS (a b:Prop):Prop:=a/\b
def rQ {a:cA N} (b:b4):gS b4 (cu N a)=N:=by simp[gS,cu,b]
def rR {a:cA N}:gS True (cu N a)=N:=by simp[gS,cu]
variable{h6:dH}{e3:cb}{n b3:R}{s a7:R -> U -> Prop}{I:Bool}{K:Ctx}{e8:gh -> Fr -> U -> Prop}{j:Fr}{j6:Fr -> U -> Prop}{b5:FuncId}{f t e4:U}{b1:Int}{e2:IntKind}{g B e0:List R}{e i v O b8 j0:Nat}{j5:Nat -> Prop}{Y:br}{Z e9:Operand}{M e6 h4:Own}{m:Program}{b2:TypeId}{e5:Value}
section
def SO:bS K .skip e8 j f=e8 .norm j f:=rfl
def SP:bS K .ret e8 j f=e8 .ret j f:=rfl
def SQ:bS K (.exit e) e8 j f=e8 (.exit e) j f:=rfl
def SR {a:dH}:bS K (.seq h6 a) e8 j f=bS K h6 (eR (bS K a e8) e8) j f:=rfl
def SS:bS K (.block e h6) e8 j f=bS K h6 (kY e e8) j f:=rfl
def SU {a:List c7}:bS K (.plain a) e8 j f=iU K a (e8 .norm) j f:=rfl
def SV {a:List c7}{b:List di}:bS K (.draw a b) e8 j f=can K (nth a) (e8 .norm) b j f:=rfl
def kt (b:R) (c d:Prop):Prop:=
 match b with
 | .v (.bool a)=>(a=true->c)/\(a=false->d)
 | _=>False
def wD {a:dH}:bS K (.cond Z h6 a) e8 j f=kt (al j Z) (cu (bS K h6 e8 j f) ()) (cu (bS K a e8 j f) ()):=rfl
def Bt {a:cA N}:kt (.v (.bool true)) (cu N a) b4=N:=by simp[kt,cu]
def Bu {a:cA N}:kt (.v (.bool false)) b4 (cu N a)=N:=by simp[kt,cu]
def SX:bS K (.loop h6) e8 j f=cu (bS K (.loop h6) e8 j f) ():=rfl
def SY:eR j6 e8 .norm j f=j6 j f:=rfl
def SZ:eR j6 e8 .ret j f=e8 .ret j f:=rfl
def T0:eR j6 e8 (.exit e) j f=e8 (.exit e) j f:=rfl
def T1:kY e e8 .norm j f=e8 .norm j f:=rfl
def T2:kY e e8 .ret j f=e8 .ret j f:=rfl
def T3:kY i e8 (.exit e) j f=(if e=i then e8 .norm j f else e8 (.exit e) j f):=by simp only[kY];split<;>rfl
def T4:kY e e8 (.exit e) j f=e8 .norm j f:=by simp[kY]
def T5:iU K [] j6 j f=j6 j f:=rfl
def T6 {a:Option Nat}{b:List c7}:iU K (⟨a,e3,none⟩::b) j6 j f=G K e3 j f (λc d=>iU K b j6 (dk j a c) d):=rfl
def hI (b:R) (c:Bool) (d a:Prop):Prop:=
 match b with
 | .v (.bool h)=>if h=c then d else a
 | .aK []=>a
 | _=>False
def T7 {a:Option Nat}{b:List c7}:
  iU K (⟨a,e3,some (e,I)⟩::b) j6 j f=hI (j e) I (cu (G K e3 j f (λc d=>iU K b j6 (dk j a c) d)) ()) (cu (iU K b j6 (dk j a (.aK [])) f) ()):=rfl
def T8 {a:cA N}:hI (.v (.bool true)) true (cu N a) b4=N:=by simp[hI,cu]
def T9 {a:cA N}:hI (.v (.bool false)) false (cu N a) b4=N:=by simp[hI,cu]
def Ta {a:cA N}:hI (.v (.bool true)) false b4 (cu N a)=N:=by simp[hI,cu]
def Tb {a:cA N}:hI (.v (.bool false)) true b4 (cu N a)=N:=by simp[hI,cu]
def Tc {a:cA N}:hI (.aK []) I b4 (cu N a)=N:=rfl
def Td {a:Bool}:hI (.v (.bool I)) a N b4=((I=a->N)/\(I=(!a)->b4)):=by cases I<;>cases a<;>simp[hI]
def Te {a:Nat->c7}:can K a j6 [] j f=j6 j f:=rfl
def lT (a:c7) (b:c7->Prop):Prop:=b a
def Tf {a:Option Nat}{b:Option (Nat×Bool)}{c:c7->Prop}:lT ⟨a,e3,b⟩ c=c ⟨a,e3,b⟩:=rfl
def Tg {a:Nat->c7}{b:List di}:can K a j6 (⟨e,[],[]⟩::b) j f=lT (a e) (bZ (λc=>T K c (λd h=>can K a j6 b d h) j f) ()):=by simp only[can,a6u,false_implies,implies_true,true_and,lT,bZ]
def Th {a:Nat->c7}{b c:List Nat}{d:List di}:can K a j6 (⟨e,i::b,c⟩::d) j f=gS (lT (a i) (bZ (λh=>Def K h j) ())) (cu (can K a j6 (⟨e,b,c⟩::d) j f) ()):=by simp only[can,a5q,forall_eq_or_imp,gS,lT,bZ,cu];exact propext and_assoc
def rS (c:Ctx) (a:c7) (b:Fr) (d:U):Prop:=
 match a.dst with
 |some h=>E c a b d λk _=>k=b h
 |none=>True
def nY (b:Ctx) (c:Nat->c7) (d:Fr) (h:U):List Nat->Prop->Prop
 | [],a=>a
 |k::o,a=>gS (lT (c k) (bZ (λp=>rS b p d h) ())) (cu (nY b c d h o a) ())
def Ti {a:Nat->c7}:nY K a j f [] N=N:=rfl
def Tj {a:Nat->c7}{b:List Nat}:nY K a j f (e::b) N=gS (lT (a e) (bZ (λc=>rS K c j f) ())) (cu (nY K a j f b N) ()):=rfl
theorem Bv {a:Nat->c7}{b:Prop}: ∀c,nY K a j f c b=((∀d∈c,hp K a d j f)/\b)
 | []=>by simp[nY]
 |d::h=>by simp only[nY,Bv h,gS,lT,bZ,cu,a5q,forall_eq_or_imp,hp,rS];grind
def Tk {a:Nat->c7}{b:List Nat}{c:List di}:can K a j6 (⟨e,[],i::b⟩::c) j f=lT (a e) (bZ (λk=>T K k (λd h=>nY K a d h (i::b) (can K a j6 c d h)) j f) ()):=by simp only[can,a6u,false_implies,implies_true,true_and,lT,bZ,Bv]
def Tl {a:Option Nat}:Def K ⟨a,e3,none⟩ j=G K e3 j U.emp (λ_ _=>True):=rfl
def Tm:rS K ⟨some e,e3,none⟩ j f=G K e3 j f (λa _=>a=j e):=rfl
def Tn {a:cA (λ_:Nat=>True)}:iY f (bZ (λ_=>True) a)=True:=by simp[iY,bZ]
def To {a:c7}{b:List c7}:nth (a::b) 0=a:=rfl
def Tp {b:c7}{a:List c7}:nth (b::a) (e+1)=nth a e:=rfl
def Tq {a:Option Nat}:T K ⟨a,e3,none⟩ j6 j f=G K e3 j f (λb c=>j6 (dk j a b) c):=rfl
def Tr {a:Option Nat}:T K ⟨a,e3,some (e,I)⟩ j6 j f=hI (j e) I (cu (G K e3 j f (λb c=>j6 (dk j a b) c)) ()) (cu (j6 (dk j a (.aK [])) f) ()):=rfl
def Ts:dk j (some i) n e=if e=i then n else j e:=rfl
def Tt:dk j none n e=j e:=rfl
def dD (a:Option R) (b:R->Prop):Prop:=
 match a with
 |some a=>b a
 |none=>False
def ku [Decidable N] {a:R->Prop}:dD (if N then some n else none) a=(N/\a n):=by split<;>simp[dD, *]
def Tu {a:R->Prop}:dD (some n) a=a n:=rfl
def mR (a:R) (b:R->Prop):Prop:=b a
def Tv {a:R->Prop}:mR n a=a n:=rfl
def p2 (a:Option (List R)) (b:List R->Prop):Prop:=
 match a with
 |some a=>b a
 |none=>False
def Tw {a:List R->Prop}:p2 (some g) a=a g:=rfl
section
def Tx:G K (.fb Z) j f s=mR (al j Z) (bZ (λa=>s a f) ()):=rfl
def tF (a b c:R):Option R:=
 match a with
 | .v (.bool d)=>some (if d then b else c)
 | _=>none
def Ty:tF (.v (.bool true)) n b3=some n:=rfl
def Tz:tF (.v (.bool false)) b3 n=some n:=rfl
def TA {a:Operand}:G K (.pick e9 Z a) j f s=dD (tF (al j e9) (al j Z) (al j a)) (bZ (λb=>s b f) ()):=by simp only[G,tF];generalize al j e9=Z;cases Z<;>first|rfl|(rename_i v;cases v<;>rfl)
def TB:G K (.alloc b2 g) j f s=iY f (bZ (λa=>s (.ptr a 0) (f.set a (.cells g))) ()):=rfl
def TC:G K (.box b2 Z) j f s=mR (al j Z) (bZ (λa=>gS (0<a.cells.length) (cu (iY f (bZ (λb=>s (.ptr b 0) (f.set b (.cells a.cells))) ())) ())) ()):=rfl
def TD:G K (.ki b2 Z) j f s=mR (al j Z) (bZ (λa=>gS (0<a.cells.length) (cu (iY f (bZ (λb=>s (.ptr b 0) (f.set b (.ro a.cells))) ())) ())) ()):=rfl
def dp (b:Bool) (a:Nat) (c:U) (d:R):Option R:=
 match d with
 | .ptr h off=>match c.read h with
  |some cs=>if off+a<=cs.length then some (aX b a (cs.drop off))else none
  |none=>none
 | .bV cs=>if a<=cs.length then some (aX b a cs)else none
 | _=>none
def qn (d:Bool) (b c:Nat) (a:Option (List R)):Option R:=
 match a with
 |some a=>if c+b<=a.length then some (aX d b (a.drop c))else none
 |none=>none
def TE:dp I e f (.ptr i v)=qn I e v (f.read i):=rfl
def Bw (a:i+e<=g.length):qn I e i (some g)=some (aX I e (g.drop i)):=by simp[qn,a]
def TF (a:e<=g.length):dp I e f (.bV g)=some (aX I e g):=by simp[dp,a]
def TG:G K (.load I e Z) j f s=dD (dp I e f (al j Z)) (bZ (λa=>s a f) ()):=by
 simp only[G,dp];generalize al j Z=b;cases b<;>first
  |rfl
  |(simp only[ku,jE];done)
  |(rename_i c h;simp only[];generalize f.read c=d;cases d<;>first|rfl|(simp only[ku,jE]))
def ee (a:U) (b:Nat):Option (List R):=
 match a b with
 |some (.cells cs)=>some cs
 | _=>none
def wE (a:U) (b:Nat) (k:R) (c:List R) (o:U->Prop):Prop:=
 match k with
 | .ptr d off=>p2 (ee a d) λh=>gS (c.length=b/\off+b<=h.length) (o (a.set d (.cells (putAt h off c))))
 | _=>False
def TH {a:U->Prop}:wE f e (.ptr i v) g a=p2 (ee f i) (bZ (λb=>gS (g.length=e/\v+e<=b.length) (cu (p2 (some (putAt b v g)) (bZ (λc=>a (f.set i (.cells c))) ())) ())) ()):=rfl
def TI:G K (.store e Z e9) j f s=wE f e (al j Z) (al j e9).cells (bZ (λa=>s (.aK []) a) ()):=by
 simp only[G,wE];generalize al j Z=b;cases b<;>first
  |rfl
  |(
    rename_i c h;simp only[ee];cases f c with
    |none=>rfl
    |some d=>cases d with
     |cells cs=>exact propext and_assoc.symm
     | _=>rfl)
def rT (a:R):Option R:=
 match a with
 | .ptr b off=>some (.ptr b off)
 | .bV cs=>some (.bV cs)
 | .bF c cJ cs=>some (.bF c cJ cs)
 | _=>none
def TJ:rT (.ptr e i)=some (.ptr e i):=rfl
def TK:rT (.bV g)=some (.bV g):=rfl
def TL:G K (.q4 Z) j f s=dD (rT (al j Z)) (bZ (λa=>s a f) ()):=by simp only[G,rT];generalize al j Z=b;cases b<;>first|rfl|(rename_i v;cases v<;>rfl)
def rU (a:Nat) (b:R):Option R:=
 match b with
 | .ptr c d=>some (.ptr c (d+a))
 | .bV cs=>some (.bV (cs.drop a))
 | _=>none
def TM:rU e (.ptr i v)=some (.ptr i (v+e)):=rfl
def TN:rU e (.bV g)=some (.bV (g.drop e)):=rfl
def TO:G K (.kS e Z) j f s=dD (rU e (al j Z)) (bZ (λa=>s a f) ()):=by simp only[G,rU];generalize al j Z=b;cases b<;>first|rfl|(rename_i v;cases v<;>rfl)
def lU (b c:Nat) (d h:R):Option R:=
 match d,h with
 | .ptr k o,.v (.int _ a)=>if 0<=a/\a<c then some (.ptr k (o+a.toNat*b))else none
 | .bV cs,.v (.int _ a)=>if 0<=a/\a<c then some (.bV (cs.drop (a.toNat*b)))else none
 | _,_=>none
def rV (a:0<=b1) (b:b1<i):lU e i (.ptr v O) (.v (.int e2 b1))=some (.ptr v (O+b1.toNat*e)):=by simp[lU,a,b]
def TP (a:0<=b1) (b:b1<i):lU e i (.bV g) (.v (.int e2 b1))=some (.bV (g.drop (b1.toNat*e))):=by simp[lU,a,b]
def TQ:G K (.q5 e i Z e9) j f s=dD (lU e i (al j Z) (al j e9)) (bZ (λa=>s a f) ()):=by
 simp only[G,lU];generalize al j Z=b;generalize al j e9=c;cases b<;>first
  |rfl
  |(cases c<;>first
    |rfl
    |(rename_i d;cases d<;>first
      |rfl
      |(simp only[ku,jE];exact propext and_assoc.symm)))
def ey (b:Nat) (a:Option R):Option R:=
 match a with
 |some a=>if a.cells.length=b then some (.bV a.cells)else none
 |none=>none
def iZ (a:n.cells.length=e):ey e (some n)=some (.bV n.cells):=by simp[ey,a]
def cL (b:Nat) (h k:R):Option R:=
 match h,k with
 | .J xs _,.v (.int _ a)=>if 0<=a then ey b xs[a.toNat]? else none
 | .bA c off len _ d,.v (.int _ a)=>if d=b/\0<=a/\a<len then some (.ptr c (off+a.toNat*b))else none
 | .an c len _ d,.v (.int _ a)=>if d=b/\0<=a/\a<len then some (.ptr c (a.toNat*b))else none
 | _,_=>none
def hJ (a:0<=b1):cL e (.J g M) (.v (.int e2 b1))=ey e g[b1.toNat]? :=by simp[cL,a]
theorem jG (a:0<=b1) (b:b1<v):cL e (.an i v O e) (.v (.int e2 b1))=some (.ptr i (b1.toNat*e)):=by simp[cL,a,b]
theorem tG (a:0<=b1) (b:b1<O):cL e (.bA i v O b8 e) (.v (.int e2 b1))=some (.ptr i (v+b1.toNat*e)):=by simp[cL,a,b]
theorem TR:G K (.dG e Z e9) j f s=dD (cL e (al j Z) (al j e9)) (bZ (λc=>s c f) ()):=by
 simp only[G,cL];generalize al j Z=d;generalize al j e9=h;cases d<;>first
  |rfl
  |(cases h<;>first
    |rfl
    |(rename_i k;cases k<;>first
      |rfl
      |(
        simp only[ku,jE];apply propext;constructor
        .rintro⟨o,p,r,x⟩;exact⟨⟨o,p,r⟩,x⟩
        simp_all)
      |(
        rename_i y C D a;by_cases b:0<=a
        .simp only[b,true_and,if_true,ey];generalize y[a.toNat]? =z;cases z<;>first|rfl|(simp only[ku,jE])
        .simp[b,dD])))
def Bx (c:Bool) (a b:Nat) (d:R):Option R:=
 match d with
 | .agg cs=>if a+b<=cs.length then some (aX c b (cs.drop a))else none
 | _=>none
def TS (a:e+i<=g.length):Bx I e i (.agg g)=some (aX I i (g.drop e)):=by simp[Bx,a]
def tH (c:Bool) (a d:Nat) (h k:R):Option R:=
 match h,k with
 | .agg cs,.v (.int _ b)=>if 0<=b/\b<d/\b.toNat*a+a<=cs.length then some (aX c a (cs.drop (b.toNat*a)))else none
 | _,_=>none
def TT (a:0<=b1) (b:b1<i) (c:b1.toNat*e+e<=g.length):tH I e i (.agg g) (.v (.int e2 b1))=some (aX I e (g.drop (b1.toNat*e))):=by simp[tH,a,b,c]
theorem TU:G K (.q6 I e i Z e9) j f s=dD (tH I e i (al j Z) (al j e9)) (bZ (λa=>s a f) ()):=by
 simp only[G,tH];generalize al j Z=b;generalize al j e9=c;cases b<;>first
  |rfl
  |(cases c<;>first
    |rfl
    |(rename_i d;cases d<;>first
      |rfl
      |(simp only[ku,jE];grind)))
def p3 (c:Fr) (a:List R):List (Nat×Nat×Operand)->(List R->Prop)->Prop
 | [],b=>b a
 |(off,cm,h)::k,b=>mR (al c h) λd=>gS (d.cells.length=cm/\off+cm<=a.length) (p2 (some (putAt a off d.cells)) λo=>p3 c o k b)
def TV {a:List R->Prop}:p3 j g [] a=a g:=rfl
def TW {a:List (Nat×Nat×Operand)}{b:List R->Prop}:p3 j g ((e,i,Z)::a) b=mR (al j Z) (bZ (λc=>gS (c.cells.length=i/\e+i<=g.length) (cu (p2 (some (putAt g e c.cells)) (bZ (λd=>p3 j d a b) ())) ())) ()):=rfl
theorem By {b:List R->Prop}: ∀(c:List (Nat×Nat×Operand)) (a:List R),kp j a c b=p3 j a c b
 | [],_=>rfl
 |(off,cm,h)::d,a=>by
  simp only[kp,p3,mR,gS,p2,By d];grind
def TX {a:List (Nat×Nat×Operand)}:G K (.lH g a) j f s=p3 j g a λb=>s (.agg b) f:=By a g
def ez (b:R):Option R:=
 match b with
 | .J xs _=>some (.v (.int .i64 xs.length))
 | .bA _ _ a _ _=>some (.v (.int .i64 a))
 | .an _ a _ _=>some (.v (.int .i64 a))
 | _=>none
def TY:ez (.an i e v O)=some (.v (.int .i64 e)):=rfl
def TZ:ez (.J g M)=some (.v (.int .i64 g.length)):=rfl
def U0:ez (.bA i v e O b8)=some (.v (.int .i64 e)):=rfl
def U1:G K (.len Z) j f s=dD (ez (al j Z)) (bZ (λa=>s a f) ()):=by simp only[G,ez];generalize al j Z=b;cases b<;>rfl
def ja (c:BinOp) (a b:R):Option R:=
 match a,b with
 | .v a,.v b=>(bn c a b).map .v
 | _,_=>none
theorem rW {a:BinOp}{b:Value}:ja a (.v e5) (.v b)=(bn a e5 b).map .v:=rfl
def U2 {a:BinOp}:G K (.bin a Z e9) j f s=dD (ja a (al j Z) (al j e9)) (bZ (λb=>s b f) ()):=by
 simp only[G,ja];generalize al j Z=c;generalize al j e9=d;cases c<;>first
  |rfl
  |(cases d<;>first
    |rfl
    |(rename_i v h;simp only[];generalize bn a v h=k;cases k<;>rfl))
def wF (b:UnOp) (a:R):Option R:=
 match a with
 | .v a=>(nQ b a).map .v
 | _=>none
def U3 {a:UnOp}:wF a (.v e5)=(nQ a e5).map .v:=rfl
def U4 {a:UnOp}:G K (.un a Z) j f s=dD (wF a (al j Z)) (bZ (λb=>s b f) ()):=by simp only[G,wF];generalize al j Z=c;cases c<;>first|rfl|(rename_i v;simp only[];generalize nQ a v=d;cases d<;>rfl)
def wG (a:IntKind) (b:R):Option R:=
 match b with
 | .v (.int _ c)=>some (.v (.int a (a.wrap c)))
 | _=>none
def U5 {a:IntKind}:wG e2 (.v (.int a b1))=some (.v (.int e2 (e2.wrap b1))):=rfl
def U6:G K (.iQ e2 Z) j f s=dD (wG e2 (al j Z)) (bZ (λa=>s a f) ()):=by simp only[G,wG];generalize al j Z=b;cases b<;>first|rfl|(rename_i v;cases v<;>rfl)
def nZ (a:Ctx) (b:FuncId) (c:List R) (d:U) (h:R->U->Prop):Prop:=hE a.p b c d h (up a.k)
def U7 {a:List Operand}:G K (.fU b5 a) j f s=nZ K b5 (a.map (al j)) f (bO s ()):=rfl
def wH (a:Nat) (b:R):Option R:=
 match b with
 | .aK c=>c[a]?
 | _=>none
def U8:wH e (.aK g)=g[e]? :=rfl
def U9:G K (.ext Z e) j f s=dD (wH e (al j Z)) (bZ (λa=>s a f) ()):=by simp only[G,wH];generalize al j Z=b;cases b<;>first|rfl|(rename_i c;cases c[e]? <;>rfl)
def Ua (c:Bool) (a b:R):Option R:=
 match a,b with
 | .v (.bool a),.v (.bool b)=>some (.v (.bool (xor c (a==b))))
 | _,_=>none
def Ub {a b:Bool}:Ua I (.v (.bool a)) (.v (.bool b))=some (.v (.bool (xor I (a==b)))):=rfl
def rX (a:Bool) (b c:R):Option R:=
 match b,c with
 | .ptr _ _,.v (.pointer none)=>some (.v (.bool a))
 | .bV _,.v (.pointer none)=>some (.v (.bool a))
 | .v (.pointer none),.v (.pointer none)=>some (.v (.bool (!a)))
 | _,_=>none
def Uc:rX I (.ptr e i) (.v (.pointer none))=some (.v (.bool I)):=rfl
def Ud:rX I (.bV g) (.v (.pointer none))=some (.v (.bool I)):=rfl
def Ue:rX I (.v (.pointer none)) (.v (.pointer none))=some (.v (.bool (!I))):=rfl
def Uf:G K (.q8 I Z e9) j f s=dD (rX I (al j Z) (al j e9)) (bZ (λd=>s d f) ()):=by
 simp only[G,rX];generalize al j Z=h;generalize al j e9=c;cases h<;>first
  |rfl
  |(rename_i v;cases v<;>first
    |rfl
    |(cases c<;>first|rfl|(rename_i b;cases b<;>first|rfl|(rename_i a;cases a<;>rfl)))
    |(rename_i a;cases a<;>first|rfl|(cases c<;>first|rfl|(rename_i b;cases b<;>first|rfl|(rename_i a;cases a<;>rfl)))))
  |(cases c<;>first|rfl|(rename_i b;cases b<;>first|rfl|(rename_i a;cases a<;>rfl)))
def intOf (a:R):Option Int:=
 match a with
 | .v (.int _ b)=>some b
 | _=>none
end
def p4 (a:List (Nat×Option (Bool×Nat))) (b:R->U->Prop):gh->Fr->U->Prop:=qk ⟨0,0,.skip,a⟩ b
def bd (c:m.follows .mixedOrders=true) {a:List (Nat×Option (Bool×Nat))} (d:dt m O i=some ⟨e,v,h6,a⟩) (h:g.length<=e)
  (k:bS (Ctx.of m) h6 (p4 a s) (lR g) f):AC m i g f s:=by
 refine J0 c d h ?_;have b:qk ⟨e,v,h6,a⟩ s=p4 a s:=by funext b j f;rfl
 rw[b];exact k
def Ug:lR g e=g.getD e (.aK []):=rfl
theorem Uh {c:aq}:qk c s .ret j f=dD (iW j f c.results) λd=> ∃b,b.sub f/\s d b:=by
 apply propext;simp only[qk];constructor
 .rintro⟨d,b,a,h,k⟩;rw[a];exact⟨b,h,k⟩
 .intro a;cases o:iW j f c.results with
  |none=>rw[o]at a;exact a.elim
  |some d=>rw[o]at a;obtain⟨b,h,k⟩:=a;grind
def Ui {a:List (Nat×Option (Bool×Nat))}:p4 a s .ret j f=dD (iW j f a) (bZ (λc=> ∃b,b.sub f/\s c b) ()):=Uh
def Uj {a:List (Nat×Option (Bool×Nat))}:p4 a s .norm j f=p4 a s .ret j f:=rfl
def Uk:iW j f []=some (.aK []):=rfl
def Ul {a:Nat×Option (Bool×Nat)}:iW j f [a]=gi j f a:=by simp only[iW,fv];cases gi j f a<;>rfl
def Um:gi j f (e,none)=some (j e):=rfl
def Bz (a:Bool) (b:Nat) (c:U) (d:R):Option R:=
 match d with
 | .ptr h off=>qn a b off (c.read h)
 | _=>none
def Un:Bz I e f (.ptr i v)=qn I e v (f.read i):=rfl
def Uo:gi j f (e,some (I,i))=Bz I i f (j e):=by rfl
def U.tI:(f.set i Y) e=if e=i then some Y else f e:=rfl
def U.BA:(f.set e (.cells g)).read e=some g:=by simp[U.read,U.set]
def U.Up:(f.set e (.ro g)).read e=some g:=by simp[U.read,U.set]
def U.Uq (a:e≠i):(f.set i Y).read e=f.read e:=by simp[U.read,U.set,a]
def U.Ur:ee (f.set e (.cells g)) e=some g:=by simp[ee,U.set]
def U.Us (a:e≠i):ee (f.set i Y) e=ee f e:=by simp[ee,U.set,a]
def U.af (a:f e=some (.cells g)):f.read e=some g:=by simp[U.read,a]
def U.BB (a:f e=some (.ro g)):f.read e=some g:=by simp[U.read,a]
def U.aI (a:f e=some (.cells g)):ee f e=some g:=by simp[ee,a]
theorem U.gH (a:(f.set i Y) e=none):e≠i/\f e=none:=by grind[U.set]
def U.BC {b a:br} (c:i≠e):((f.set e b).set i a).set e Y=((f.set e Y).set i a):=by rw[U.dZ _ c,U.set_set]
def U.BD {c a b:br} (d:i≠e) (h:v≠e):(((f.set e c).set i a).set v b).set e Y=(((f.set e Y).set i a).set v b):=by rw[U.dZ _ h,BC d]
def U.BE {d a b c:br} (h:i≠e) (k:v≠e) (o:O≠e):((((f.set e d).set i a).set v b).set O c).set e Y=((((f.set e Y).set i a).set v b).set O c):=by rw[U.dZ _ o,BD h k]
def U.BG {h a b c d:br} (k:i≠e) (o:v≠e) (p:O≠e) (r:b8≠e):(((((f.set e h).set i a).set v b).set O c).set b8 d).set e Y=(((((f.set e Y).set i a).set v b).set O c).set b8 d):=by rw[U.dZ _ r,BE k o p]
def U.BH {k a b c d h:br} (o:i≠e) (p:v≠e) (r:O≠e) (x:b8≠e) (y:j0≠e):((((((f.set e k).set i a).set v b).set O c).set b8 d).set j0 h).set e Y=((((((f.set e Y).set i a).set v b).set O c).set b8 d).set j0 h):=by rw[U.dZ _ y,BG o p r x]
def U.BI {a:Nat}{p b c d h k o:br} (r:i≠e) (x:v≠e) (y:O≠e) (z:b8≠e) (C:j0≠e) (D:a≠e):(((((((f.set e p).set i b).set v c).set O d).set b8 h).set j0 k).set a o).set e Y=(((((((f.set e Y).set i b).set v c).set O d).set b8 h).set j0 k).set a o):=by rw[U.dZ _ D,BH r x y z C]
def U.BJ {a b:Nat}{x c d h k o p r:br} (y:i≠e) (z:v≠e) (C:O≠e) (D:b8≠e) (E:j0≠e) (F:a≠e) (G:b≠e):((((((((f.set e x).set i c).set v d).set O h).set b8 k).set j0 o).set a p).set b r).set e Y=((((((((f.set e Y).set i c).set v d).set O h).set b8 k).set j0 o).set a p).set b r):=by rw[U.dZ _ G,BI y z C D E F]
def U.Ut {a b c:Nat}{z d h k o p r x y:br} (C:i≠e) (D:v≠e) (E:O≠e) (F:b8≠e) (G:j0≠e) (L:a≠e) (P:b≠e) (S:c≠e):(((((((((f.set e z).set i d).set v h).set O k).set b8 o).set j0 p).set a r).set b x).set c y).set e Y=(((((((((f.set e Y).set i d).set v h).set O k).set b8 o).set j0 p).set a r).set b x).set c y):=by rw[U.dZ _ S,BJ C D E F G L P]
def aN {b:cA j5} (c: ∀a,f a=none->j5 a):iY f (bZ j5 b):=c
def cr {h:cA (bS K (.loop h6) e8 j f)} (a:Fr->U->Prop) (b:Fr->U->Nat) (k:a j f) (o: ∀j f,a j f->bS K h6 (eR (λc d=>a c d/\b c d<b j f) e8) j f):
  cu (bS K (.loop h6) e8 j f) h:=⟨a,b,k,o⟩
theorem ai {c:cA s} (d:AC K.p b5 g f a7) (h: ∀a b,a7 a b->s a b):nZ K b5 g f (bO s c):=(d.mono h).p
theorem U.a1:f.sub f:=λ_ _ a=>a
theorem U.ae (a:t.sub f) (c:t e=none):t.sub (f.set e Y):=λd h b=>by
 rw[U.tI];split;simp_all
 .exact a _ _ b
theorem U.kZ (b:t.sub f):(t.set e Y).sub (f.set e Y):=λd h a=>by
 rw[U.tI]at a|-;split;simp_all
 .rename_i c;rw[if_neg c]at a;exact b _ _ a
end
theorem wrap_i64 (c: -9223372036854775808<=b1) (d:b1<9223372036854775808):IntKind.i64.wrap b1=b1:=by have a:((2:Int)^IntKind.i64.bits)=18446744073709551616:=rfl;have b:((2:Int)^(IntKind.i64.bits - 1))=9223372036854775808:=rfl;simp only[IntKind.wrap,a,b,IntKind.signed,a6s,decide_eq_true_eq];omega
theorem kv:IntKind.u64.wrap b1=b1%18446744073709551616:=by have a:((2:Int)^IntKind.u64.bits)=18446744073709551616:=rfl;rfl
def wI:IntKind.u32.wrap b1=b1%4294967296:=by have a:((2:Int)^IntKind.u32.bits)=4294967296:=rfl;rfl
def tJ:IntKind.u8.wrap b1=b1%256:=by have a:((2:Int)^IntKind.u8.bits)=256:=rfl;rfl
theorem wrap_u64 (a:0<=b1) (b:b1<18446744073709551616):IntKind.u64.wrap b1=b1:=by rw[kv];omega
def wrap_u32 (a:0<=b1) (b:b1<4294967296):IntKind.u32.wrap b1=b1:=by rw[wI];omega
theorem wrap_u8 (a:0<=b1) (b:b1<256):IntKind.u8.wrap b1=b1:=by rw[tJ];omega
def Uu (a:UInt8):IntKind.u32.wrap (a.toNat:Int)=(a.toUInt32.toNat:Int):=by have:=a.toNat_lt;rw[wrap_u32 a9w a9w];simp
def Uv (a:UInt8):IntKind.u64.wrap (a.toNat:Int)=(a.toUInt64.toNat:Int):=by have:=a.toNat_lt;rw[wrap_u64 a9w a9w];simp
def Uw (a:UInt32):IntKind.u8.wrap (a.toNat:Int)=(a.toUInt8.toNat:Int):=by rw[tJ];simp
def Ux (a:UInt64):IntKind.u8.wrap (a.toNat:Int)=(a.toUInt8.toNat:Int):=by rw[tJ];simp
section
variable (a b:Int)
def Uy:bn .add (.int .i64 a) (.int .i64 b)=some (.int .i64 (IntKind.i64.wrap (a+b))):=rfl
def Uz:bn .sub (.int .i64 a) (.int .i64 b)=some (.int .i64 (IntKind.i64.wrap (a - b))):=rfl
def UA:bn .mul (.int .i64 a) (.int .i64 b)=some (.int .i64 (IntKind.i64.wrap (a*b))):=rfl
def UB (c:b≠0):bn .quo (.int .i64 a) (.int .i64 b)=some (.int .i64 (IntKind.i64.wrap (a.tdiv b))):=by simp[bn,ft,hF,c]
def UC (c:b≠0):bn .rem (.int .i64 a) (.int .i64 b)=some (.int .i64 (a.tmod b)):=by simp[bn,ft,hF,c]
variable (k:IntKind)
def UD:bn .eql (.int k a) (.int k b)=some (.bool (decide (a=b))):=by simp[bn,ft,hF]
def UE:bn .neq (.int k a) (.int k b)=some (.bool (decide (a≠b))):=by simp[bn,ft,hF]
def UF:bn .lss (.int k a) (.int k b)=some (.bool (decide (a<b))):=by simp[bn,ft,hF]
def UG:bn .leq (.int k a) (.int k b)=some (.bool (decide (a<=b))):=by simp[bn,ft,hF]
def UH:bn .gtr (.int k a) (.int k b)=some (.bool (decide (b<a))):=by simp[bn,ft,hF]
def UI:bn .geq (.int k a) (.int k b)=some (.bool (decide (b<=a))):=by simp[bn,ft,hF]
def UJ (c:Bool):nQ .not (.bool c)=some (.bool !c):=rfl
end
def UK (a b:Int):bn .add (.int .u64 a) (.int .u64 b)=some (.int .u64 (IntKind.u64.wrap (a+b))):=rfl
def UL (a b:Int):bn .sub (.int .u64 a) (.int .u64 b)=some (.int .u64 (IntKind.u64.wrap (a - b))):=rfl
def UM (a b:Int):bn .mul (.int .u64 a) (.int .u64 b)=some (.int .u64 (IntKind.u64.wrap (a*b))):=rfl
theorem rY (c:Nat) (d:IntKind) (b:Int) (k:0<=b) (o:b<64):bn .shr (.int .u64 c) (.int d b)=some (.int .u64 (c>>>b.toNat:Nat)):=by
 obtain⟨a,rfl⟩: ∃a:Nat,b=a:=⟨b.toNat,a9w⟩;have h:min a IntKind.u64.bits=a:=by simp[IntKind.bits];omega
 have p:(2)^a=((2^a:Nat):Int):=a9x;simp only[bn,ft,if_true,nP,if_neg (show¬(a:Int)<0 by omega),a5x,h,a5S];grind
def hK (a:Nat):IntKind.u8.wrap (a:Int)=((UInt8.ofNat a).toNat:Int):=by rw[tJ];simp
variable{w:List UInt8}
theorem UN (a:0<=b1) (b:b1.toNat<w.length):cL 1 (.J (w.map ak) M) (.v (.int e2 b1))=some (.bV [.v (.int .u8 (w.getD b1.toNat 0).toNat)]):=by
 rw[hJ a,a5u,a4T b];have:w.getD b1.toNat 0=w[b1.toNat]:=by simp_all
 rw[this];rfl
def UO (a:Decidable True): @decide True a=true:=a9x
def UP (a:Decidable False): @decide False a=false:=a9x
def BK:aX true e g= .agg (g.take e):=rfl
def BL:R.cells (.J g M)= [.J g M]:=rfl
def BM:R.cells (.v e5)= [.v e5]:=rfl
def BN:R.cells (.ptr e i)= [.ptr e i]:=rfl
def BO:R.cells (.bV g)= [.bV g]:=rfl
def BP:R.cells (.iface b2 n)= [.iface b2 n]:=rfl
def hL:R.cells (.agg g)=g:=rfl
theorem rZ (a:g.length=B.length):putAt B 0 g=g:=by simp[putAt,a]
def UQ:aX false 1 (n::g)=n:=rfl
section
variable (x y:UInt32)
def UR:bn .add (.int .u32 x.toNat) (.int .u32 y.toNat)=some (.int .u32 (x+y).toNat):=by rfl
def BQ:bn .sub (.int .u32 x.toNat) (.int .u32 y.toNat)=some (.int .u32 (x - y).toNat):=by have:=x.toNat_lt;have:=y.toNat_lt;simp only[bn,ft,hF,wI,UInt32.toNat_sub];simp;omega
def BR:bn .mul (.int .u32 x.toNat) (.int .u32 y.toNat)=some (.int .u32 (x*y).toNat):=by rfl
theorem qo (a:Nat) (b:a<4294967296):IntKind.u32.wrap (a:Int)=a:=wrap_u32 a9w a9w
def ofInt_u32:BitVec.ofInt 32 (x.toNat:Int)=x.toBitVec:=by simp
def US:bn .and (.int .u32 x.toNat) (.int .u32 y.toNat)=some (.int .u32 (x&&&y).toNat):=by have a:bn .and (.int .u32 x.toNat) (.int .u32 y.toNat)=some (.int .u32 (IntKind.u32.wrap (BitVec.ofInt 32 (x.toNat)&&&BitVec.ofInt 32 (y.toNat)).toNat)):=rfl;rw[a,ofInt_u32,ofInt_u32,qo _ (a8U _)];rfl
def UT:bn .or (.int .u32 x.toNat) (.int .u32 y.toNat)=some (.int .u32 (x|||y).toNat):=by have a:bn .or (.int .u32 x.toNat) (.int .u32 y.toNat)=some (.int .u32 (IntKind.u32.wrap (BitVec.ofInt 32 (x.toNat)|||BitVec.ofInt 32 (y.toNat)).toNat)):=rfl;rw[a,ofInt_u32,ofInt_u32,qo _ (a8U _)];rfl
def UU:bn .xor (.int .u32 x.toNat) (.int .u32 y.toNat)=some (.int .u32 (x^^^y).toNat):=by have a:bn .xor (.int .u32 x.toNat) (.int .u32 y.toNat)=some (.int .u32 (IntKind.u32.wrap (BitVec.ofInt 32 (x.toNat)^^^BitVec.ofInt 32 (y.toNat)).toNat)):=rfl;rw[a,ofInt_u32,ofInt_u32,qo _ (a8U _)];rfl
def UW:nQ .xor (.int .u32 x.toNat)=some (.int .u32 (~~~x).toNat):=by
 have a:nQ .xor (.int .u32 x.toNat)=some (.int .u32 (IntKind.u32.wrap (BitVec.ofInt 32 4294967295^^^BitVec.ofInt 32 (x.toNat)).toNat)):=rfl;rw[a,ofInt_u32,qo _ (a8U _)];have:(BitVec.ofInt 32 4294967295^^^x.toBitVec)= ~~~x.toBitVec:=by rw[BitVec.not_def];rfl
 rw[this];rfl
theorem UX (c:IntKind) (a:Int) (h:0<=a) (k:a<32):bn .shl (.int .u32 x.toNat) (.int c a)=some (.int .u32 (x<<<UInt32.ofNat a.toNat).toNat):=by
 obtain⟨b,rfl⟩: ∃b:Nat,a=b:=⟨a.toNat,a9w⟩;have hm:b<32:=a9w;have d:min b IntKind.u32.bits=b:=by simp[IntKind.bits];omega
 simp only[bn,ft,if_true,nP,if_neg (show¬(b:Int)<0 by omega),a5x,d,wI,UInt32.toNat_shiftLeft,UInt32.toNat_ofNat',a7j];grind
theorem UY (c:IntKind) (a:Int) (h:0<=a) (k:a<32):bn .shr (.int .u32 x.toNat) (.int c a)=some (.int .u32 (x>>>UInt32.ofNat a.toNat).toNat):=by
 obtain⟨b,rfl⟩: ∃b:Nat,a=b:=⟨a.toNat,a9w⟩;have hm:b<32:=a9w;have d:min b IntKind.u32.bits=b:=by simp[IntKind.bits];omega
 simp only[bn,ft,if_true,nP,if_neg (show¬(b:Int)<0 by omega),a5x,d,UInt32.toNat_shiftRight,UInt32.toNat_ofNat',a5S];grind
end
def aS (a:Nat) (b:List R):Prop:= ∀c∈b,c.cells.length=a
def UZ:aS e []=True:=by simp[aS]
def BS:aS e (n::g)=(n.cells.length=e/\aS e g):=by simp[aS]
theorem V0:aS e (g++B)=(aS e g/\aS e B):=by grind[aS]
theorem tK:aS 1 (w.map ak)=True:=by simp[aS,ak,R.cells]
def bh (a b:U) (h:Nat) (c:List R) (k:Own):Prop:=
 a.sub b/\match k with
  | .buf d o=>a d=none/\b d=some (.buf h c.length o)
  | .any=>False
  | _=>c= []
theorem U.ar (c:f.sub t) (d:t.sub e4):f.sub e4:=λa b h=>d a b (c a b h)
def U.bI (b:f.sub t) (a:t e=none):f e=none:=by
 cases bW:f e with
 |none=>rfl
 |some c=>rw[b e c bW]at a;cases a
theorem bh.nil (a:t.sub f) {b:Nat}:bh t f b [] .nil:=⟨a,rfl⟩
def bh.zero (a:t.sub f) {b:Nat}:bh t f b [] .zero:=⟨a,rfl⟩
def bh.sub {a:Nat}{b:List R}{c:Own} (d:bh t f a b c):t.sub f:=d.1
theorem bh.base {o:Own} (b:bh t f e g o) (c:e4.sub t):bh e4 f e g o:=by
 refine⟨U.ar c b.1,?_⟩;have a:=b.2;cases o with
 |buf d h=>exact⟨U.bI c a.1,a.2⟩
 | _=>exact a
def bh.mono (b:bh t f e g M) (c:f.sub e4):bh t e4 e g M:=by
 refine⟨U.ar b.1 c,?_⟩;have a:=b.2;cases M with
 |buf d h=>exact⟨a.1,c _ _ a.2⟩
 | _=>exact a
theorem bh.set {c a:Nat}{d:List R}{b:Own}{ob p:br} (h:bh t f c d b) (k:t a=some p):bh (t.set a ob) (f.set a ob) c d b:=by
 refine⟨U.kZ h.1,?_⟩;have o:=h.2;cases b with
 |buf r x=>
  have y:r≠a:=by rintro rfl;rw[o.1]at k;cases k
  grind[U.ao]
 | _=>exact o
theorem bh.new {ob:br} (a:bh t f i g M) (b:f e=none):bh (t.set e ob) (f.set e ob) i g M:=by
 refine⟨U.kZ a.1,?_⟩;have c:=a.2;cases M with
 |buf d h=>
  have k:d≠e:=by rintro rfl;rw[c.2]at b;cases b
  grind[U.ao]
 | _=>exact c
def lV (d x:Nat) (c:U) (y z:R) (k:R->U->Prop):Prop:=
 match y,z with
 | .J xs r,.J a _=>(∀o∈xs,o.cells.length=d)/\(∀o∈a,o.cells.length=d)/\(xs.length+a.length)*x<=140737488355328/\xs.length+a.length<=9223372036854775807/\
   match r with
   | .buf p C=>c p=some (.buf d xs.length C)/\ ∀b h,(b=p\/c b=none)->k (.J (xs++a) (.buf b h)) ((c.del p).set b (.buf d (xs.length+a.length) h))
   | .any=>False
   | _=>xs= []/\(if a= []then k (.J [] r) c else∀b h,c b=none->k (.J a (.buf b h)) (c.set b (.buf d a.length h)))
 | _,_=>False
def V1:G K (.app e i Z e9) j f s=lV e i f (al j Z) (al j e9) (bO s ()):=rfl
theorem ea {C:cA s} (a:bh t f e g M) (D:aS e g) (E:aS e B) (F:(g.length+B.length)*i<=140737488355328) (G:g.length+B.length<=9223372036854775807)
  (c: ∀p r,bh t r e (g++B) p->s (.J (g++B) p) r):lV e i f (.J g M) (.J B e6) (bO s C):=by
 have d:=a.2;refine⟨D,E,F,G,?_⟩;cases M with
 |any=>trivial
 |nil=>
  obtain rfl:g= []:=d;refine⟨rfl,?_⟩;split
  .rename_i h;subst h;exact c _ _ ⟨a.1,rfl⟩
  .intro k x b;refine c _ _ ⟨U.ae a.1 (U.bI a.1 b),U.bI a.1 b,?_⟩;rw[U.ag];simp
 |zero=>
  obtain rfl:g= []:=d;refine⟨rfl,?_⟩;split
  .rename_i h;subst h;exact c _ _ ⟨a.1,rfl⟩
  .intro k x b;refine c _ _ ⟨U.ae a.1 (U.bI a.1 b),U.bI a.1 b,?_⟩;rw[U.ag];simp
 |buf L T=>
  refine⟨d.2,λk x b=>c _ _ ?_⟩;have y:t k=none:=by rcases b with rfl|b;exact d.1;exact U.bI a.1 b
  refine⟨U.ae (λz P o=> ?_) y,y,?_⟩
  .have S:z≠L:=by rintro rfl;rw[d.1]at o;cases o
   rw[U.eI _ S];exact a.1 z P o
  .rw[U.ag,a4V]
def jH (d:Nat) (b:U) (a:List R) (h:R->U->Prop):Prop:=
 (∀k∈a,k.cells.length=d)/\(if a.length=0 then h (.J [] .zero) b else∀c,b c=none->h (.J a (.buf c a.length)) (b.set c (.buf d a.length a.length)))
def V2 {a:List Operand}:G K (.kj e a) j f s=jH e f (a.map (al j)) (bO s ()):=by simp only[G,jH,bO,a5f]
def db {k:cA s} (a:t.sub f) (o:aS e g) (b: ∀c d,bh t d e g c->s (.J g c) d):jH e f g (bO s k):=by
 refine⟨o,?_⟩;split
 .rename_i p;obtain rfl:=a4Z p;exact b _ _ ⟨a,rfl⟩
 .intro r h;exact b _ _ ⟨U.ae a (U.bI a h),U.bI a h,by rw[U.ag]⟩
def cF (a:Option R) (b:Nat):Option Int:=
 match a with
 |none=>some b
 |some c=>intOf c
def fX (a:Own) (b c:Option R):Own:=
 match b,c with
 |none,none=>a
 | _,_=> .any
def dI (c:Nat) (a:R) (d h:Option R):Option R:=
 match a with
 | .J xs p=>match cF d 0,cF h xs.length with
  |some a,some b=>if 0<=a/\a<=b/\b<=xs.length/\xs.all (λr=>decide (r.cells.length=c))then some (.J ((xs.take b.toNat).drop a.toNat) (fX p d h))else none
  | _,_=>none
 | .bA k off len cap o=>match cF d 0,cF h len with
  |some a,some b=>if o=c/\0<=a/\a<=b/\b<=len/\a<len then some (.bA k (off+a.toNat*c) (b.toNat - a.toNat) (cap - a.toNat) c)else none
  | _,_=>none
 | .an k len cap o=>match cF d 0,cF h len with
  |some a,some b=>if o=c/\0<=a/\a<=b/\b<=len/\(d.isSome=true->a<len)then some (qc d.isSome k a.toNat b.toNat cap c)else none
  | _,_=>none
 | _=>none
def wJ (a:Option Operand) (b:Nat):cZ j a b=cF (a.map (al j)) b:=by
 cases a with
 |none=>rfl
 |some a=>simp only[cZ,cF,a5U,intOf];rfl
def V3 (a b:Option Operand):vM M a b=fX M (a.map (al j)) (b.map (al j)):=by cases a<;>cases b<;>rfl
theorem V4 {a d:Option Operand}:G K (.oT e Z a d) j f s=dD (dI e (al j Z) (a.map (al j)) (d.map (al j))) (bZ (λo=>s o f) ()):=by
 have p:a.isSome=(a.map (al j)).isSome:=a9x;simp only[G,dI,wJ,V3 (j:=j) a d,p];generalize al j Z=r;generalize a.map (al j)=h;generalize d.map (al j)=k;cases r<;>try rfl
 .rename_i x D;simp only[];generalize cF h 0=b;generalize cF k x.length=c;cases b<;>cases c<;>try rfl
  simp only[ku,jE,a5l,decide_eq_true_eq];grind
 .rename_i y E len z C;simp only[];generalize cF h 0=b;generalize cF k len=c;cases b<;>cases c<;>try rfl
  simp only[ku,jE];grind
 .rename_i y len z C;simp only[];generalize cF h 0=b;generalize cF k len=c;cases b<;>cases c<;>try rfl
  simp only[ku,jE];grind
def V5 (a:0<=b1) (b:b1<=v):dI e (.an i v O e) none (some (.v (.int e2 b1)))=some (.an i b1.toNat O e):=by simp[dI,cF,intOf,a,b,qc]
def V6 (a:aS e g):dI e (.J g M) none none=some (.J g M):=by
 have:(g.all λb=>decide (b.cells.length=e))=true:=by simpa[aS] using a
 simp[dI,cF,fX,this]
theorem qp (a:0<=b1) (b:b1<=g.length) (c:aS e g):dI e (.J g M) (some (.v (.int e2 b1))) none=some (.J (g.drop b1.toNat) .any):=by
 have:(g.all λd=>decide (d.cells.length=e))=true:=by simpa[aS] using c
 simp[dI,cF,fX,intOf,this,a,b]
theorem o0 (a:0<=b1) (b:b1<=g.length) (c:aS e g):dI e (.J g M) none (some (.v (.int e2 b1)))=some (.J (g.take b1.toNat) .any):=by grind[decide,aS,dI,cF,fX,intOf]
theorem BT {b:IntKind}{a:Int} (c:0<=b1) (d:b1<=a) (h:a<=g.length) (k:aS e g):dI e (.J g M) (some (.v (.int e2 b1))) (some (.v (.int b a)))=some (.J ((g.take a.toNat).drop b1.toNat) .any):=by grind[decide,aS,dI,cF,fX,intOf]
def tL (b:Bool) (a:List (Nat×c8)) (c d:R) (h:R->Prop):Prop:=
 match c,d with
 | .agg cs,.agg cJ=>dm a cs/\dm a cJ/\h (.v (.bool (xor b (peq (.agg cs) (.agg cJ)))))
 | _,_=>False
variable{j4:List (Nat × c8)}
def V7:G K (.eqv I j4 Z e9) j f s=tL I j4 (al j Z) (al j e9) (bZ (λa=>s a f) ()):=rfl
theorem V8 {a:R->Prop}:tL I j4 (.agg g) (.agg B) a=gS (dm j4 g/\dm j4 B) (cu (a (.v (.bool (xor I (peq (.agg g) (.agg B)))))) ()):=by simp only[tL,gS,cu];grind
def V9:(w.map ak).drop e=(w.drop e).map ak:=a9x
def Va:(w.map ak).take e=(w.take e).map ak:=a9x
def bh.Vb (a:t.sub f):bh t f 1 (([]:List UInt8).map ak) .nil:=⟨a,rfl⟩
theorem mS {a:List UInt8}{d:cA s} (h:bh t f 1 (w.map ak) M) (k:w.length+a.length<=140737488355328)
  (o: ∀b c,bh t c 1 ((w++a).map ak) b->s (.J ((w++a).map ak) b) c):lV 1 1 f (.J (w.map ak) M) (.J (a.map ak) e6) (bO s d):=by
 grind[ea,tK]
def wK {a:UInt8}{d:cA s} (h:bh t f 1 (w.map ak) M) (k:w.length+1<=140737488355328)
  (o: ∀b c,bh t c 1 ((w++ [a]).map ak) b->s (.J ((w++ [a]).map ak) b) c):lV 1 1 f (.J (w.map ak) M) (.J [ak a] e6) (bO s d):=
 mS (a:= [a]) h k o
def s0 {a:UInt8}{d:cA s} (h:t.sub f) (k: ∀b c,bh t c 1 [ak a] b->s (.J [ak a] b) c):jH 1 f [.v (.int .u8 a.toNat)] (bO s d):=
 db (g:= [a].map ak) h (by rw[tK];trivial) k
def wL (a:e<w.length):(w.map ak)[e]? =some (.v (.int .u8 (w.getD e 0).toNat)):=by
 rw[a5u,a4T a];have:w.getD e 0=w[e]:=by simp[a]
 rw[this];rfl
def BU {b c:Fr->U->Prop} (d: ∀j f,b j f->c j f): ∀(h:List c7) (j:Fr) (f:U),iU K h b j f->iU K h c j f
 | [],j,f,a=>d j f a
 | _::k,j,f,a=>rI (λj f a=>BU d k j f a) a
def BV {b:Nat->c7}{c d:Fr->U->Prop} (h: ∀j f,c j f->d j f): ∀(k:List di) (j:Fr) (f:U),can K b c k j f->can K b d k j f
 | [],j,f,a=>h j f a
 | _::o,j,f,a=>⟨a.1,rI (λj f a=>⟨a.1,BV h o j f a.2⟩) a.2⟩
theorem jb: ∀(o:dH) {h k:gh->Fr->U->Prop} (_: ∀c j f,h c j f->k c j f) (j:Fr) (f:U),bS K o h j f->bS K o k j f
 | .skip,_,_,b,j,f,a=>b _ j f a
 | .ret,_,_,b,j,f,a=>b _ j f a
 | .exit _,_,_,b,j,f,a=>b _ j f a
 | .plain ops,_,_,b,j,f,a=>BU (b _) ops j f a
 | .draw _ y,_,_,b,j,f,a=>BV (b _) y j f a
 | .seq d p,h,k,b,j,f,a=>jb d (λc j f a=>by
   cases c with
   |norm=>exact jb p b j f a
   |exit x=>exact b _ j f a
   |ret=>exact b _ j f a) j f a
 | .block x d,h,k,b,j,f,a=>jb d (λc j f a=>by
   cases c with
   |norm=>exact b _ j f a
   |exit G=>simp only[kY]at a|-;grind
   |ret=>exact b _ j f a) j f a
 | .cond o d p,h,k,b,j,f,a=>by
   simp only[wD,Bs,kt]at a|-;split at a
   .exact⟨λr=>jb d b j f (a.1 r),λr=>jb p b j f (a.2 r)⟩
   .trivial
 | .loop d,h,k,b,j,f,a=>by
   obtain⟨z,C,D,E⟩:=a;exact⟨z,C,D,λj f F=>jb d (λc j f a=>by
    cases c with
    |norm=>exact a
    |exit x=>exact b _ j f a
    |ret=>exact b _ j f a) j f (E j f F)⟩
def BW {b c:dH}{k:cA (bS K b (eR (bS K h6 e8) e8) j f)}{o:cA (bS K c (eR (bS K h6 e8) e8) j f)} (d:Fr->U->Prop)
  (p:I=true->bS K b (eR d e8) j f) (r:I=false->bS K c (eR d e8) j f) (x: ∀j f,d j f->bS K h6 e8 j f):
  kt (.v (.bool I)) (cu (bS K b (eR (bS K h6 e8) e8) j f) k) (cu (bS K c (eR (bS K h6 e8) e8) j f) o):=by
 have hm: ∀h j f,eR d e8 h j f->eR (bS K h6 e8) e8 h j f:=λh j f a=>by
  cases h with
  |norm=>exact x j f a
  |exit y=>exact a
  |ret=>exact a
 exact⟨λa=>jb b hm j f (p a),λa=>jb c hm j f (r a)⟩
def s3 (b c:R):Option R:=
 match b,c with
 | .v (.string d),.v (.int _ a)=>if 0<=a then(match d.data[a.toNat]? with|some h=>some (.v (.int .u8 h.toNat))|none=>none)else none
 | _,_=>none
def Vc:G K (.lG Z e9) j f s=dD (s3 (al j Z) (al j e9)) (bZ (λc=>s c f) ()):=by
 simp only[G,s3];generalize al j Z=d;generalize al j e9=h;cases d<;>first
  |rfl
  |(rename_i v;cases v<;>first
    |rfl
    |(cases h<;>first
      |rfl
      |(rename_i k o;cases o<;>first
        |rfl
        |(
          rename_i r a;simp only[];by_cases b:0<=a
          .simp only[b,true_and,if_true];generalize k.data[a.toNat]? =p;cases p<;>rfl
          .simp[b,dD]))))
def p5 (a b:Nat) (c:U) (d:R):Option R:=
 match d with
 | .ptr h off=>match c h with
  |some (.ro cs)=>if off+b*a<=cs.length then some (.J (dS a b (cs.drop off)) .any)else none
  | _=>none
 | _=>none
def Vd:G K (.jx e i Z none none) j f s=dD (p5 e i f (al j Z)) (bZ (λa=>s a f) ()):=by
 simp only[G,p5,cZ];generalize al j Z=b;cases b<;>first
  |rfl
  |(
    rename_i c k;simp only[];generalize f c=d;cases d with
    |none=>simp[dD]
    |some h=>cases h with
     |ro cs=>simp only[ku,jE];simp
     | _=>simp[dD])
def Ve (a:f i=some (.ro g)) (b:g.length=e):p5 1 e f (.ptr i 0)=some (.J g .any):=by simp[p5,a,b,dS,a4U]
theorem wM (a:e<64):bn .shl (.int .i64 b1) (.int e2 (e:Int))=some (.int .i64 (IntKind.i64.wrap (b1*2^e))):=by
 have b:min e IntKind.i64.bits=e:=by simp[IntKind.bits];omega
 simp_all [bn,ft,nP]
def BX (a b:Option R):Option R:=
 match a,b with
 |some a,some b=>some (.aK [a,b])
 | _,_=>none
def Vf:BX (some n) (some b3)=some (.aK [n,b3]):=rfl
def Vg {a b:Nat×Option (Bool×Nat)}:iW j f [a,b]=BX (gi j f a) (gi j f b):=by simp only[iW,fv];cases gi j f a<;>cases gi j f b<;>rfl
def BY (a b c:Option R):Option R:=
 match a,b,c with
 |some a,some b,some c=>some (.aK [a,b,c])
 | _,_,_=>none
def Vh {a:R}:BY (some n) (some b3) (some a)=some (.aK [n,b3,a]):=rfl
def Vi {a b c:Nat×Option (Bool×Nat)}:iW j f [a,b,c]=BY (gi j f a) (gi j f b) (gi j f c):=by simp only[iW,fv];cases gi j f a<;>cases gi j f b<;>cases gi j f c<;>rfl
def Vj:((0:Nat):Int)=0:=rfl
def Vk:((1:Nat):Int)=1:=rfl
def Vl:((e:Int).tmod (i:Int))=((e%i:Nat):Int):=rfl
def BZ:((e:Int).tmod 64)=((e%64:Nat):Int):=Vl (i:=64)
def s4:=
 a4R @SO<|
 a4R @SP<|
 a4R @SQ<|
 a4R @SR<|
 a4R @SS<|
 a4R @SU<|
 a4R @SV<|
 a4R @wD<|
 a4R @SX<|
 a4R @jE<|
 a4R @SN<|
 a4R @SY<|
 a4R @SZ<|
 a4R @T0<|
 a4R @T1<|
 a4R @T2<|
 a4R @T4<|
 a4R @T3<|
 a4R @T5<|
 a4R @T6<|
 a4R @T7<|
 a4R @Te<|
 a4R @Tg<|
 a4R @Th<|
 a4R @Tk<|
 a4R @Ti<|
 a4R @Tj<|
 a4R @Tl<|
 a4R @Tm<|
 a4R @Tq<|
 a4R @Tr<|
 a4R @To<|
 a4R @Tp<|
 a4R @Tx<|
 a4R @TA<|
 a4R @TB<|
 a4R @TC<|
 a4R @TD<|
 a4R @TG<|
 a4R @TI<|
 a4R @TL<|
 a4R @TO<|
 a4R @TQ<|
 a4R @TR<|
 a4R @TU<|
 a4R @TX<|
 a4R @U1<|
 a4R @U2<|
 a4R @U4<|
 a4R @U6<|
 a4R @U7<|
 a4R @U9<|
 a4R @V1<|
 a4R @V2<|
 a4R @V4<|
 a4R @Vc<|
 a4R @Vd<|
 a4R @V7<|
 a4R @Uf<|
 a4R @Ts<|
 a4R @Tt<|
 a4R @Ug<|
 a4R @TV<|
 a4R @TW<|
 a4R @Ui<|
 @Uj
def s5:=
 a4R @Bt<|
 a4R @Bu<|
 a4R @T8<|
 a4R @T9<|
 a4R @Ta<|
 a4R @Tb<|
 a4R @Tc<|
 a4R @Tn<|
 a4R @eq_self.{1}<|
 a4R @Tf<|
 a4R @a5B.{0}<|
 a4R @a5F.{0}<|
 a4R @V8<|
 a4R @Option.map_none.{0,0}<|
 a4R @V6<|
 a4R @qp<|
 a4R @o0<|
 a4R @BT<|
 a4R @V9<|
 a4R @Va<|
 a4R @Tu<|
 a4R @Tv<|
 a4R @Tw<|
 a4R @rR<|
 a4R @rQ<|
 a4R @Ty<|
 a4R @Tz<|
 a4R @TE<|
 a4R @TF<|
 a4R @Bw<|
 a4R @TH<|
 a4R @TJ<|
 a4R @TK<|
 a4R @TM<|
 a4R @TN<|
 a4R @rV<|
 a4R @TP<|
 a4R @UN<|
 a4R @tG<|
 a4R @iZ<|
 a4R @TS<|
 a4R @TT<|
 a4R @TZ<|
 a4R @U0<|
 a4R @rW<|
 a4R @U3<|
 a4R @U5<|
 a4R @U8<|
 a4R @Ub<|
 a4R @Uc<|
 a4R @Ud<|
 a4R @Ue<|
 a4R @a5U.{0,0}<|
 a4R @Ul<|
 a4R @Um<|
 a4R @Uk<|
 a4R @Uo<|
 a4R @Un<|
 a4R @rZ<|
 a4R @a5r.{0,0}<|
 a4R @a6I.{0,0}<|
 a4R @Uy<|
 a4R @Uz<|
 a4R @UA<|
 a4R @UB<|
 a4R @UC<|
 a4R @UD<|
 a4R @UE<|
 a4R @UF<|
 a4R @UG<|
 a4R @UH<|
 a4R @UI<|
 a4R @UJ<|
 a4R @UR<|
 a4R @BQ<|
 a4R @BR<|
 a4R @US<|
 a4R @UT<|
 a4R @UU<|
 a4R @UW<|
 a4R @UX<|
 a4R @UY<|
 a4R @wrap_i64<|
 a4R @Uu<|
 a4R @Uv<|
 a4R @Uw<|
 a4R @Ux<|
 a4R @UK<|
 a4R @UL<|
 a4R @UM<|
 a4R @rY<|
 a4R @wrap_u64<|
 a4R @UQ<|
 a4R @BK<|
 a4R @a5f.{0,0}<|
 a4R @a4Y.{0}<|
 a4R @a5d.{0}<|
 a4R @U.BA<|
 a4R @U.Up<|
 a4R @U.Uq<|
 a4R @U.Ur<|
 a4R @U.Us<|
 a4R @U.set_set<|
 a4R @U.BC<|
 a4R @U.BD<|
 a4R @U.BE<|
 a4R @U.BG<|
 a4R @U.BH<|
 a4R @U.BI<|
 a4R @U.BJ<|
 a4R @U.Ut<|
 a4R @BL<|
 a4R @BM<|
 a4R @BN<|
 a4R @BO<|
 a4R @BP<|
 a4R @hL<|
 a4R @a6Z.{0}<|
 a4R @and_self<|
 a4R @a5t<|
 a4R @a5K<|
 a4R @a7N<|
 a4R @a5x<|
 a4R @true_and<|
 a4R @and_true<|
 a4R @a6T<|
 a4R @a5z<|
 a4R @UO<|
 @UP
def fY:=
 a4R @Vj<|
 a4R @Vk<|
 a4R @Vg<|
 a4R @Vf<|
 a4R @Vi<|
 @Vh
def bk:=
 a4R @a4Y.{0}<|
 a4R @a5d.{0}<|
 a4R @a5f.{0,0}<|
 a4R @a4V.{0}<|
 a4R @a6M.{0}<|
 a4R @List.length_range<|
 a4R @a4W.{0}<|
 a4R @a5k.{0}<|
 a4R @BL<|
 a4R @BM<|
 a4R @BN<|
 a4R @BO<|
 a4R @BP<|
 a4R @hL<|
 a4R @tK<|
 a4R @UZ<|
 a4R @BS<|
 a4R @V0<|
 a4R @and_true<|
 a4R @true_and<|
 a4R @a5t<|
 a4R @eq_self.{1}<|
 @and_self
def bb (a:List UInt8):R:= .v (.string ⟨a.toArray⟩)
theorem toList_mk (a:List UInt8):(⟨a.toArray⟩:ByteArray).toList=a:=a9x
theorem C0 (a b:List UInt8):bn .eql (.string ⟨a.toArray⟩) (.string ⟨b.toArray⟩)=some (.bool (decide (a=b))):=by grind[bn,q2,toList_mk]
theorem C1 (a b:List UInt8):bn .neq (.string ⟨a.toArray⟩) (.string ⟨b.toArray⟩)=some (.bool (decide (a≠b))):=by grind[bn,q2,toList_mk]
def o1 (a:List UInt8):(⟨a.toArray⟩:ByteArray).size=a.length:=by rfl
variable{u:bl}{l h7:World}
section
def Vm:rS K ⟨some e,e3,some (i,I)⟩ j f=hI (j i) I (cu (G K e3 j f (λa _=>a=j e)) ()) (cu ((.aK []:R)=j e) ()):=rfl
def Vn {a:Option Nat}:Def K ⟨a,e3,some (e,I)⟩ j=hI (j e) I (cu (G K e3 j U.emp (λ_ _=>True)) ()) (cu True ()):=rfl
def mT (a:R):Option R:=
 match a with
 | .J xs _=>match bytesOf xs with
  |some b=>some (.v (.string ⟨b.toArray⟩))
  |none=>none
 | _=>none
def C2:mT (.J (w.map ak) M)=some (.v (.string ⟨w.toArray⟩)):=by simp[mT,rz]
def Vo:G K (.q9 Z) j f s=dD (mT (al j Z)) (bZ (λa=>s a f) ()):=by simp only[G,mT];generalize al j Z=b;cases b<;>first|rfl|(rename_i c h;simp only[];generalize bytesOf c=d;cases d<;>rfl)
def qq (d:Bool) (a b:R):Option R:=
 match a,b with
 | .v (.int c a),.v (.int h b)=>if c=h then some (.v (.int c (if d then max a b else min a b)))else none
 | _,_=>none
def Vp {a:Int}:qq true (.v (.int e2 b1)) (.v (.int e2 a))=some (.v (.int e2 (max b1 a))):=by simp[qq]
def Vq {a:Int}:qq false (.v (.int e2 b1)) (.v (.int e2 a))=some (.v (.int e2 (min b1 a))):=by simp[qq]
def Vr:G K (.lI I e2 Z e9) j f s=dD (qq I (al j Z) (al j e9)) (bZ (λa=>s a f) ()):=by
 simp only[G,qq];generalize al j Z=b;generalize al j e9=c;cases b<;>first
  |rfl
  |(rename_i v;cases v<;>first
    |rfl
    |(cases c<;>first
      |rfl
      |(rename_i d;cases d<;>first|rfl|(simp only[ku,jE]))))
def s6 (a:R):Option R:=
 match a with
 | .v (.string b)=>some (.v (.int .i64 b.size))
 | _=>none
def wN:s6 (.v (.string ⟨w.toArray⟩))=some (.v (.int .i64 w.length)):=by rfl
def Vs:G K (.q7 Z) j f s=dD (s6 (al j Z)) (bZ (λa=>s a f) ()):=by simp only[G,s6];generalize al j Z=b;cases b<;>first|rfl|(rename_i v;cases v<;>rfl)
def qs (a:R) (d h:Option R):Option R:=
 match a with
 | .v (.string b)=>match cF d 0,cF h b.size with
  |some a,some c=>if 0<=a/\a<=c/\c<=b.size then some (.v (.string (b.extract a.toNat c.toNat)))else none
  | _,_=>none
 | _=>none
def wO (a:List UInt8) (b c:Nat):(⟨a.toArray⟩:ByteArray).extract b c=⟨((a.take c).drop b).toArray⟩:=by apply ByteArray.ext;simp only[ByteArray.data_extract];simp[a6m]
def Vt (a:0<=b1) (b:b1<=w.length):qs (.v (.string ⟨w.toArray⟩)) (some (.v (.int e2 b1))) none=some (.v (.string ⟨(w.drop b1.toNat).toArray⟩)):=by simp[qs,cF,intOf,o1,a,b,wO]
def Vu (a:0<=b1) (b:b1<=w.length):qs (.v (.string ⟨w.toArray⟩)) none (some (.v (.int e2 b1)))=some (.v (.string ⟨(w.take b1.toNat).toArray⟩)):=by simp[qs,cF,intOf,o1,a,b,wO]
def Vv {b:IntKind}{a:Int} (c:0<=b1) (d:b1<=a) (h:a<=w.length):qs (.v (.string ⟨w.toArray⟩)) (some (.v (.int e2 b1))) (some (.v (.int b a)))=some (.v (.string ⟨((w.take a.toNat).drop b1.toNat).toArray⟩)):=by simp[qs,cF,intOf,o1,c,d,h,wO]
theorem C3 (a:0<=b1) (b:b1<w.length):s3 (.v (.string ⟨w.toArray⟩)) (.v (.int e2 b1))=some (.v (.int .u8 (w.getD b1.toNat 0).toNat)):=by grind[List.getD,s3]
def C4 (c:Nat) (h:U) (r x:R) (p:R->U->Prop):Prop:=
 match r,x with
 | .bA d off a _ k,.J b _=>k=c/\(∀o∈b,o.cells.length=c)/\match h d with
  |some (.cells cs)=>off+a*c<=cs.length/\p (.v (.int .i64 (min b.length a))) (h.set d (.cells (putAt cs off (flat (b.take a)))))
  | _=>False
 | .an d a _ k,.J b _=>k=c/\(∀o∈b,o.cells.length=c)/\match h d with
  |some (.cells cs)=>a*c<=cs.length/\p (.v (.int .i64 (min b.length a))) (h.set d (.cells (putAt cs 0 (flat (b.take a)))))
  | _=>False
 | _,_=>False
def Vw:G K (.mB e Z e9) j f s=C4 e f (al j Z) (al j e9) (bO s ()):=rfl
def C5 {a:cA s} (b:aS e g) (c:f v=some (.cells B)) (d:O+i*e<=B.length)
  (h:s (.v (.int .i64 (min g.length i))) (f.set v (.cells (putAt B O (flat (g.take i)))))):C4 e f (.bA v O i b8 e) (.J g M) (bO s a):=by
 refine⟨rfl,b,?_⟩;rw[c];trivial
def tM (c b:Nat) (k:U) (a:R) (o p:Option R):Option R:=
 match a with
 | .ptr h off=>match cF o 0,cF p b with
  |some a,some d=>match k.read h with
   |some cs=>if 0<=a/\a<=d/\d<=b/\off+b*c<=cs.length/\a<b then some (.bA h (off+a.toNat*c) (d.toNat - a.toNat) (b - a.toNat) c)else none
   |none=>none
  | _,_=>none
 | _=>none
def wP (a:f.read v=some g) (b:O+e*i<=g.length) (c:0<e):tM i e f (.ptr v O) none none=some (.bA v O e e i):=by simp[tM,cF,a,b,c]
theorem Vx {a b:Option Operand}:G K (.kk i e Z a b false) j f s=dD (tM i e f (al j Z) (a.map (al j)) (b.map (al j))) (bZ (λc=>s c f) ()):=by
 simp only[G,tM,wJ];generalize al j Z=d;generalize a.map (al j)=h;generalize b.map (al j)=k;cases d<;>try rfl
 rename_i o y;simp only[];generalize cF h 0=p;generalize cF k e=r;generalize f.read o=x;cases p<;>cases r<;>cases x<;>first
  |rfl
  |(simp[dD];done)
  |(
    simp only[ku,jE,a5Y,if_false];grind)
def o2 (d:Nat) (b:U) (a:List R) (h:R->U->Prop):Prop:=
 (∀k∈a,k.cells.length=d)/\(if a.length=0 then h (.J [] .zero) b else∀c,b c=none->h (.an c a.length a.length d) (b.set c (.cells (flat a))))
def Vy {a:List Operand}:G K (.km e a) j f s=o2 e f (a.map (al j)) (bO s ()):=by simp only[G,o2,bO,a5f]
def o3 {a:cA s}:o2 e f [] (bO s a)=s (.J [] .zero) f:=by simp[o2,bO]
def eK {b:cA s} (c:aS e g) (d:g≠ []) (h: ∀a,f a=none->s (.an a g.length g.length e) (f.set a (.cells (flat g)))):o2 e f g (bO s b):=by refine⟨c,?_⟩;rw[if_neg (λk=>d (a4Z k))];exact h
def C6 (d h:Nat) (k:List R) (c:U) (o p:R) (r:R->U->Prop):Prop:=
 match o,p with
 | .v (.int _ a),.v (.int _ x)=>a=x/\0<=a/\a<=9223372036854775807/\a*h<=281474976710656/\ ∀b,c b=none->r (.an b a.toNat a.toNat d) (c.set b (.cells (List.replicate a.toNat k).flatten))
 | _,_=>False
def Vz:G K (.kl e i g Z e9) j f s=C6 e i g f (al j Z) (al j e9) (bO s ()):=rfl
theorem wQ {b:IntKind}{c:cA s} (d:e*v<=281474976710656) (h:e<=9223372036854775807) (k: ∀a,f a=none->s (.an a e e i) (f.set a (.cells (List.replicate e g).flatten))):
  C6 i v g f (.v (.int e2 (e:Int))) (.v (.int b (e:Int))) (bO s c):=⟨rfl,a9w,a9w,a9w,λa o=>by
 grind[bO,Int.toNat_natCast]⟩
def jI (c z:Nat) (d:U) (E F:R) (x:R->U->Prop):Prop:=
  match mK d c F with
  |some (b,y)=>match E with
    | .J xs D=>xs= []/\(D= .nil\/D= .zero)/\b*z<=140737488355328/\b<=9223372036854775807/\
      (if b=0 then x (.J [] D) d else∀h k p,d h=none->b<=k->k<=maxLen->p.length=(k - b)*c->x (.an h b k c) (d.set h (.cells (y++p))))
    | .an r a k C=>match d r with
      |some (.cells cs)=>C=c/\cs.length=k*c/\(a+b)*z<=140737488355328/\a+b<=9223372036854775807/\
        (if a+b<=k then x (.an r (a+b) k c) (d.set r (.cells (putAt cs (a*c) y)))
         else∀h o p,d h=none->a+b<=o->o<=maxLen->p.length=(o -(a+b))*c->x (.an h (a+b) o c) (d.set h (.cells (cs.take (a*c)++y++p))))
      |some (.fi cs)=>C=c/\cs.length=k*c/\(a+b)*z<=140737488355328/\a+b<=9223372036854775807/\
        (if a+b<=k then x (.an r (a+b) k c) (d.set r (.fi (putAt cs (a*c) y)))
         else∀h o p,d h=none->a+b<=o->o<=maxLen->p.length=(o -(a+b))*c->x (.an h (a+b) o c) (d.set h (.cells (cs.take (a*c)++y++p))))
      | _=>False
    | .bA r off a k C=>match d r with
      |some (.cells cs)=>C=c/\off+k*c<=cs.length/\(a+b)*z<=140737488355328/\a+b<=9223372036854775807/\
        (if a+b<=k then x (.bA r off (a+b) k c) (d.set r (.cells (putAt cs (off+a*c) y)))
         else∀h o p,d h=none->a+b<=o->o<=maxLen->p.length=(o -(a+b))*c->x (.an h (a+b) o c) (d.set h (.cells ((cs.drop off).take (a*c)++y++p))))
      | _=>False
    | _=>False
  |none=>False
def VA:G K (.lJ e i Z e9) j f s=jI e i f (al j Z) (al j e9) (bO s ()):=rfl
def av (p r:U) (a:Nat) (d:List R) (h:R):Prop:=
 p.sub r/\((d= []/\(h= .J [] .nil\/h= .J [] .zero))\/ ∃k b c o,h= .an k b c a/\p k=none/\r k=some (.cells o)/\o.length=c*a/\o.take (b*a)=d/\d.length=b*a/\b<=c/\c<=maxLen)
theorem av.nil {a b:U}{c:Nat} (d:a.sub b):av a b c [] (.J [] .nil):=⟨d,.inl ⟨rfl,.inl rfl⟩⟩
def av.zero {a b:U}{c:Nat} (d:a.sub b):av a b c [] (.J [] .zero):=⟨d,.inl ⟨rfl,.inr rfl⟩⟩
def av.mono {a:R} (d:av f t e g a) (c:t.sub e4):av f e4 e g a:=by
 obtain⟨h,b⟩:=d;refine⟨U.ar h c,?_⟩;rcases b with b|⟨k,o,p,r,x,y,z,C⟩
 .exact .inl b
 .exact .inr ⟨k,o,p,r,x,y,c _ _ z,C⟩
theorem av.base (c:av f e4 e g n) (b:t.sub f):av t e4 e g n:=by
 obtain⟨d,a⟩:=c;refine⟨U.ar b d,?_⟩;rcases a with a|⟨h,k,o,p,r,x,y⟩
 .exact .inl a
 .exact .inr ⟨h,k,o,p,r,U.bI b x,y⟩
def av.new {ob:br} (h:av t f i g n) (k:f e=none):av (t.set e ob) (f.set e ob) i g n:=by
 obtain⟨o,a⟩:=h;refine⟨U.kZ o,?_⟩;rcases a with a|⟨c,p,r,x,y,z,b,C⟩
 .exact .inl a
 .have d:c≠e:=by rintro rfl;rw[k]at b;cases b
  exact .inr ⟨c,p,r,x,y,by rw[U.ao _ _ d];exact z,by rw[U.ao _ _ d];exact b,C⟩
theorem av.src (b:av t f e g n): ∃a,g.length=a*e/\bN f e n=some (a,g)/\ez n=some (.v (.int .i64 a)):=by
 obtain⟨h,c⟩:=b;rcases c with ⟨rfl,rfl|rfl⟩|⟨k,a,o,p,rfl,r,x,y,z,d,C,D⟩
 .exact⟨0,a9x,rfl,rfl⟩
 .exact⟨0,a9x,rfl,rfl⟩
 .refine⟨a,d,?_,rfl⟩;simp_all [a5i,bN,U.af]
theorem fj {l:cA s} (m:av t f e B n) (G:0<e) (q:bN f e b3=some (i,g)) (h:g.length=i*e) (u:(B.length+g.length)*v<=140737488355328*e) (w:B.length+g.length<=9223372036854775807)
  (r: ∀L P,av t P e (B++g) L->s L P):jI e v f n b3 (bO s l):=by
 obtain⟨b,A⟩:=m;unfold jI;rw[vN q];simp only[bO];have cZ: ∀a,B.length=a*e->(a+i)*v<=140737488355328/\a+i<=9223372036854775807:=by
  intro a H;have x:B.length+g.length=(a+i)*e:=by rw[H,h,a6d]
  rw[x]at u w;constructor
  .have:(a+i)*v*e<=140737488355328*e:=by grind
   exact Nat.le_of_mul_le_mul_right this G
  .have:(a+i)*1<=(a+i)*e:=a9m _ G;omega
 rcases A with ⟨rfl,Y⟩|⟨I,a,c,y,rfl,S,K,z,T,V,Z,M⟩
 .obtain⟨C,W⟩:=cZ 0 a9x;have j9: ∀k,(k= .nil\/k= .zero)->(([]:List R)= []/\(k= .nil\/k= .zero)/\i*v<=140737488355328/\i<=9223372036854775807/\
   (if i=0 then s (.J [] k) f else∀d c o,f d=none->i<=c->c<=maxLen->o.length=(c - i)*e->s (.an d i c e) (f.set d (.cells (g++o))))):=by
   intro k N;refine⟨rfl,N,by simpa using C,a9w,?_⟩;split
   .rename_i hm;subst hm;have:g= []:=a4Z (by simpa using h);subst this;refine r _ _ ⟨b,.inl ⟨rfl,?_⟩⟩;simp_all
   .intro d c o p D E F;refine r _ _ ⟨U.ae b (U.bI b p),.inr ⟨d,i,c,g++o,rfl,U.bI b p,U.ag _ _ _,?_,?_,by trivial,D,E⟩⟩
    .rw[a4V,h,F,<-a6d];congr 1;omega
    .rw[<-h,a7B];rfl
  grind
 .obtain⟨C,W⟩:=cZ a V;simp only[K];refine⟨trivial,z,C,W,?_⟩;have O:(y.take (a*e)).length=a*e:=by rw[T,V]
  split
  .rename_i j;have Q:a*e+g.length<=y.length:=by rw[h,z,<-a6d];exact a5i _ j
   refine r _ _ ⟨U.ae b S,.inr ⟨I,a+i,c,_,rfl,S,U.ag _ _ _,?_,?_,by grind,j,M⟩⟩
   .rw[eJ _ _ _ Q,z]
   .have x:(a+i)*e=(y.take (a*e)++g).length:=by grind
    rw[putAt,x,a7B,T]
  .intro d X o p D E F;refine r _ _ ⟨U.ae b (U.bI b p),.inr ⟨d,a+i,X,_,rfl,U.bI b p,U.ag _ _ _,?_,?_,by grind,D,E⟩⟩
   .rw[a4V,a4V,O,h,F,<-a6d,<-a6d];congr 1;omega
   .have x:(a+i)*e=(y.take (a*e)++g).length:=by grind
    grind
theorem C7:bN f 1 (.J (w.map ak) M)=some (w.length,w.map ak):=by grind[ak,decide,R.cells,bN,rC]
def wR (a:U) (b:R):Option R:=
 match bN a 1 b with
 |some (_,xs)=>match bytesOf xs with
  |some c=>some (.v (.string ⟨c.toArray⟩))
  |none=>none
 |none=>none
def VB (a:bN f 1 n=some (e,w.map ak)):wR f n=some (.v (.string ⟨w.toArray⟩)):=by simp[wR,a,rz]
def s7 (a:R):Option R:=
 match a with
 | .v (.string b)=>some (.J (b.data.toList.map ak) .any)
 | _=>none
def VC:s7 (.v (.string ⟨w.toArray⟩))=some (.J (w.map ak) .any):=by rfl
def VD:G K (.qa Z) j f s=dD (s7 (al j Z)) (bZ (λa=>s a f) ()):=by simp only[G,s7];generalize al j Z=b;cases b<;>first|rfl|(rename_i v;cases v<;>rfl)
theorem aY.frozen {v:Value} (h:Holds u f l) (k:f O=some (.ro g)) (o:e*i<=g.length) (p:aY u v (.an O e b8 i)):aY u v (.J (dS i e g) .any):=by
 obtain⟨r,x,T,L,P,c,S⟩:=h.dQ O _ k;have V:=c.1;cases p with
 |an O e b8 i hk y=>
  obtain⟨z,C,d⟩:=vV hk o r;by_cases D:e=0
  .subst D;have:=a4Z d;rw[this];exact .dg _ _ _ (λE=>by cases E) trivial
  .refine .J O 0 e b8 i (λa=>x.getD a Go.undef) _ .any hk d.symm y z ?_ ?_ ?_ trivial;grind;grind
   .intro a F b;rw[C]at b;have G:a<e*i:=by grind
    rw[a5T G]at b;exact c.2 a F b
end
def s8:=
 a4R @Vy<|
 a4R @VA<|
 a4R @Vz<|
 a4R @VD<|
 a4R @Vo<|
 a4R @Vr<|
 a4R @Vs<|
 a4R @Vw<|
 a4R @Vx<|
 a4R @Vm<|
 @Vn
def s9:=
 a4R @VC<|
 a4R @jG<|
 a4R @TY<|
 a4R @V5<|
 a4R @C2<|
 a4R @Vp<|
 a4R @Vq<|
 a4R @wN<|
 a4R @Vt<|
 a4R @Vu<|
 a4R @Vv<|
 a4R @wP<|
 a4R @C1<|
 a4R @C0<|
 a4R @C3<|
 a4R @ite_true.{1}<|
 a4R @ite_false.{1}<|
 a4R @a5O<|
 a4R @a5N<|
 a4R @a7C<|
 a4R @Bool.true_xor<|
 a4R @a6s<|
 a4R @a7k<|
 a4R @decide_true<|
 @decide_false
section
def VE {a b:List Operand}:G K (.bF b5 a b) j f s=mR (.bF b5 (a.map (al j)) (b.map (al j))) (bZ (λc=>s c f) ()):=rfl
def wS (a:Ctx) (b:R) (c:List R) (d:U) (h:R->U->Prop):Prop:=
 match b with
 | .bF fn cJ cs=>gf a.p fn=true/\hE a.p fn (cJ++c++cs) d h (up a.k)
 | _=>False
def VF {a:List Operand}:G K (.iR Z a) j f s=wS K (al j Z) (a.map (al j)) f (bO s ()):=rfl
def fH {c:cA s} (d:gf K.p b5=true) (h:AC K.p b5 (g++e0++B) f a7) (k: ∀a b,a7 a b->s a b):wS K (.bF b5 g B) e0 f (bO s c):=⟨d,(h.mono k).p⟩
def VG:G K (.qb b2 Z) j f s=mR (.iface b2 (al j Z)) (bZ (λa=>s a f) ()):=rfl
def p6 (d:TypeId) (a:Bool) (b:R) (h:R):Option R:=
 match h with
 | .iface k c=>if k=d then some (if a then .aK [c,.v (.bool true)]else c)else if a=true then some (.aK [b,.v (.bool false)])else none
 | .v .nilIface=>if a=true then some (.aK [b,.v (.bool false)])else none
 | _=>none
def VH:p6 b2 true b3 (.iface b2 n)=some (.aK [n,.v (.bool true)]):=by simp[p6]
def VI {a:TypeId} (b:a≠b2):p6 b2 true n (.iface a b3)=some (.aK [n,.v (.bool false)]):=by simp[p6,b]
def VJ:p6 b2 true n (.v .nilIface)=some (.aK [n,.v (.bool false)]):=by rfl
def VK:p6 b2 false b3 (.iface b2 n)=some n:=by simp[p6]
def C8 (a:Bool) (b:R):Option R:=
 match b with
 | .iface _ _=>some (.v (.bool a))
 | .v .nilIface=>some (.v (.bool (!a)))
 | _=>none
def VL:C8 I (.iface b2 n)=some (.v (.bool I)):=rfl
def VM:C8 I (.v .nilIface)=some (.v (.bool (!I))):=rfl
def C9 (a:Bool) (b:R):Option R:=
 match b with
 | .bF _ _ _=>some (.v (.bool a))
 | .v .nilFunc=>some (.v (.bool (!a)))
 | _=>none
def VN:C9 I (.bF e g B)=some (.v (.bool I)):=rfl
def VO:C9 I (.v .nilFunc)=some (.v (.bool (!I))):=rfl
def VP (a:Ctx) (b:R) (c:U):Prop:=
 match b with
 | .iface d h=>up a.k (.iface d h) c
 | _=>False
def VQ:G K (.mD Z) j f s=VP K (al j Z) f:=rfl
def wT (b:R) (c:U) (d:Nat->ByteArray->Prop):Prop:=
 match b with
 | .v (.string h)=> ∀a,c a=none->d a h
 | _=>False
def VR:G K (.kn Z) j f s=wT (al j Z) f (bO (λa b=>s (.ptr a 0) (f.set a (.it b 0))) ()):=rfl
def Ca {a:Nat->ByteArray->Prop}{b:cA a}:wT (.v (.string ⟨w.toArray⟩)) f (bO a b)=iY f (bZ (λc=>a c ⟨w.toArray⟩) ()):=rfl
def wU (h:R) (b:U) (c:R->U->Prop):Prop:=
 match h with
 | .ptr d off=>off=0/\match b d with
  |some (.it a pos)=>if pos<a.size then c (.aK [.v (.bool true),.v (.int .i64 pos),.v (.int .i32 (Utf8.decode a pos).1)]) (b.set d (.it a (pos+(Utf8.decode a pos).2)))else c (.aK [.v (.bool false)]) b
  | _=>False
 | _=>False
def VS:G K (.mE Z) j f s=wU (al j Z) f (bO s ()):=rfl
def VT {a:cA s} (b:f i=some (.it ⟨w.toArray⟩ e)) (c:e<w.length)
  (d:s (.aK [.v (.bool true),.v (.int .i64 e),.v (.int .i32 (Utf8.decode ⟨w.toArray⟩ e).1)]) (f.set i (.it ⟨w.toArray⟩ (e+(Utf8.decode ⟨w.toArray⟩ e).2)))):wU (.ptr i 0) f (bO s a):=by
 refine⟨rfl,?_⟩;rw[b];simp only[o1,if_pos c];exact d
def VU {a:cA s} (b:f e=some (.it ⟨w.toArray⟩ i)) (c: ¬i<w.length) (d:s (.aK [.v (.bool false)]) f):wU (.ptr e 0) f (bO s a):=by refine⟨rfl,?_⟩;rw[b];simp only[o1,if_neg c];exact d
def wV (a:R):Option R:=
 match a with
 | .J [] .nil=>some (.v (.pointer none))
 | .an b _ cap _=>if 0<cap then some (.ptr b 0)else none
 | _=>none
def VV:wV (.J [] .nil)=some (.v (.pointer none)):=rfl
def VW (a:0<i):wV (.an e v i O)=some (.ptr e 0):=by simp[wV,a]
def VX:bS K .refuse e8 j f=False:=rfl
def U.VY:(f.set e (.oO b2 g)).read e=some g:=by simp[U.read,U.set]
def VZ:(R.bF e g B).cells= [.bF e g B]:=rfl
def W0:rT (.bF e g B)=some (.bF e g B):=rfl
def sa (a:Bool) (b:U) (h k:R):Option R:=
 match h,k with
  | .ptr _ _,.v (.pointer none)=>some (.v (.bool a))
  | .v (.pointer none),.ptr _ _=>some (.v (.bool a))
  | .v (.pointer none),.v (.pointer none)=>some (.v (.bool (!a)))
  | .ptr c o,.ptr d p=>if vO b c=true/\vO b d=true then some (.v (.bool (xor a (decide (c=d/\o=p)))))else none
  | _,_=>none
def W1 (a:vO f e=true):sa I f (.ptr e i) (.ptr e i)=some (.v (.bool (!I))):=by simp[sa,a]
def W2:sa I f (.ptr e i) (.v (.pointer none))=some (.v (.bool I)):=rfl
def W3:sa I f (.v (.pointer none)) (.ptr e i)=some (.v (.bool I)):=rfl
def W4:sa I f (.v (.pointer none)) (.v (.pointer none))=some (.v (.bool (!I))):=rfl
end
def W5:(true==true)=true:=rfl
def W6:(true==false)=false:=rfl
def W7:(false==true)=false:=rfl
def W8:(false==false)=true:=rfl
def Cb:=
 a4R @VE<|
 a4R @VF<|
 a4R @VG<|
 a4R @VQ<|
 a4R @VR<|
 a4R @VS<|
 @VX
def Cc:=
 a4R @W5<|
 a4R @W6<|
 a4R @W7<|
 a4R @W8<|
 a4R @VH<|
 a4R @VI<|
 a4R @VJ<|
 a4R @VK<|
 a4R @VL<|
 a4R @VM<|
 a4R @VN<|
 a4R @VO<|
 a4R @Ca<|
 a4R @VV<|
 a4R @VW<|
 a4R @U.VY<|
 a4R @VZ<|
 a4R @W0<|
 a4R @W1<|
 a4R @W2<|
 a4R @W3<|
 @W4
noncomputable def jJ (b:R->Option R) (c v:R):R->Option R:=λa=> @ite _ (a=c) (Classical.propDecidable _) (some v) (b a)
def tN {a:R->Option R}{v:R}:jJ a n v n=some v:=by simp[jJ]
def qt {a:R->Option R}{v:R} (b:n≠b3):jJ a b3 v n=a n:=by simp[jJ,b]
def wW (b:R): ∀(a:List (R×R×Nat)) (c:Nat),dC a b c=(dC a b 0).map λd=>(d.1+c,d.2)
 | [],_=>rfl
 |h::a,c=>by
  unfold dC;split
  .simp
  .rw[wW b a (c+1),wW b a (0+1)];cases dC a b 0<;>simp[a8F,Nat.add_left_comm,a8v]
theorem la (b:R×R×Nat) (d:List (R×R×Nat)) (a:R):dC (b::d) a 0= @ite _ (a=b.1) (Classical.propDecidable _) (some (0,b.2.1)) ((dC d a 0).map λh=>(h.1+1,h.2)):=by
 conv=>lhs;unfold dC
 rw[wW a d (0+1)];by_cases c:a=b.1
 .rw[if_pos ((q3 _ _).2 c),if_pos c]
 .rw[if_neg (λk=>c ((q3 _ _).1 k)),if_neg c]
theorem Cd (b v:R) (o:Nat) (a:R): ∀c:List (R×R×Nat),dC c b 0=none->(dC (c++ [(b,v,o)]) a 0).map (·.2)=jJ (λa=>(dC c a 0).map (·.2)) b v a
 | [],_=>by
  grind[la,jJ,dC]
 |p::c,h=>by
  rw[la]at h;split at h
  .cases h
  .next r=>
   have x:dC c b 0=none:=by simp_all
   have ih:=Cd b v o a c x;rw[a6h,la];by_cases d:a=p.1
   .have k:a≠b:=λy=>r (by rw[<-y];exact d);rw[if_pos d,qt k];rw[la,if_pos d]
   .rw[if_neg d];by_cases k:a=b;simp_all [tN]
    .rw[qt k]at ih|-;rw[la,if_neg d,a8r,a8r];exact ih
theorem Ce (c v k:R) (b:R): ∀(d:List (R×R×Nat)) (o:Nat),dC d c 0=some (o,v)->(dC (d.modify o λh=>(h.1,k,h.2.2)) b 0).map (·.2)=jJ (λb=>(dC d b 0).map (·.2)) c k b
 | [],_,a=>by trivial
 |h::d,o,a=>by
  rw[la]at a;split at a
  .next p=>
   simp only[a5e,a6e]at a;obtain⟨rfl,_⟩:=a;rw[a8Y,la];by_cases a:b=c
   .subst a;rw[tN];simp[p]
   simp_all [qt,la]
  .next p=>
   cases r:dC d c 0 with
   |none=>rw[r]at a;cases a
   |some y=>
    rw[r]at a;simp only[a5U,a5e,a6e]at a;obtain⟨rfl,rfl⟩:=a;have ih:=Ce c y.2 k b d y.1 r;rw[a8Z,la];by_cases a:b=h.1
    .have x:b≠c:=λz=>p (by rw[<-z];exact a);rw[if_pos a,qt x];rw[la,if_pos a]
    .rw[if_neg a];by_cases x:b=c;simp_all [tN]
     .rw[qt x]at ih|-;rw[la,if_neg a,a8r,a8r];exact ih
structure lb (rs:List (Nat×c8)) (us:List (R×R×Nat)) (a:Nat) (b:R->Option R):Prop where
 val: ∀k,(dC us k 0).map (·.2)=b k
 keys:ry rs us
 born:(us.map (·.2.2)).Nodup
 lt: ∀c∈us,c.2.2<a
def lb.new:lb j4 [] 0 λ_=>none:=⟨λ_=>rfl,λb a=>by simp at a,a9x,λb a=>by simp at a⟩
theorem W9 (a:List (R×R×Nat)) (c:Nat) (v:R):(a.modify c λb=>(b.1,v,b.2.2)).map (·.2.2)=a.map (·.2.2):=by
 induction a generalizing c with
 |nil=>simp
 |cons b a ih=>grind
theorem mem_modify {b:List (R×R×Nat)}{v:R}{a:R×R×Nat} (d:a∈b.modify e λa=>(a.1,v,a.2.2)): ∃c∈b,a.1=c.1/\a.2.2=c.2.2:=by
 induction b generalizing e with
 |nil=>simp at d
 |cons c b ih=>grind
theorem lb.set {a:List (R×R×Nat)}{p:R->Option R} (b:lb j4 a i p) {v:R} (r:dC a n 0=some (e,v)):lb j4 (a.modify e λc=>(c.1,b3,c.2.2)) i (jJ p n b3) where
 val:=λx=>by
  rw[Ce n v b3 x a e r];simp only[jJ];rw[b.val]
 keys:=λc d=>by
  obtain⟨h,k,o,_⟩:=mem_modify d;rw[o];exact b.keys h k
 born:=by rw[W9];exact b.born
 lt:=λc d=>by
  obtain⟨h,k,_,o⟩:=mem_modify d;rw[o];exact b.lt h k
theorem lb.push {d:List (R×R×Nat)}{h:R->Option R} (b:lb j4 d e h) {v:R} (x:dm j4 g) (o:dC d (.agg g) 0=none):lb j4 (d++ [(.agg g,v,e)]) (e+1) (jJ h (.agg g) v) where
 val:=λp=>by
  rw[Cd _ v e p d o];simp only[jJ];rw[b.val]
 keys:=λc a=>by
  rcases a5j.1 a with a|a
  .exact b.keys c a
  simp_all
 born:=by rw[a5V,List.nodup_append];refine⟨b.born,a9x,?_⟩;intro y r z k;obtain⟨c,a,rfl⟩:=a5o.1 r;simp at k;subst k;exact Nat.ne_of_lt (b.lt c a)
 lt:=λc a=>by
  rcases a5j.1 a with a|a
  .exact Nat.lt_succ_of_lt (b.lt c a)
  simp_all
def qu (c:U) (d:Nat) (h:List (Nat×c8)) (k:R->Option R):Prop:= ∃a b,c d=some (.mp a b)/\lb h a b k
def a4J (h:U) (k:Nat) (o:List (Nat×c8)) (p:R->Option R) (r:R) (x:Nat):Prop:=
 ∃a b,h k=some (.mp a b)/\ ∀v,∃c,Hd a (x:Int)=some c/\lb o (a.modify c λd=>(d.1,v,d.2.2)) b (jJ p r v)
section
def Wa:G K .ko j f s=iY f (bZ (λa=>s (.gQ a) (f.set a (.mp [] 0))) ()):=rfl
def tO (a:Bool) (b:List (Nat×c8)) (c:R) (h:U) (k o:R) (d:R->Prop):Prop:=
 match k,o with
 | .gQ p,.agg cs=>match h p with
  |some (.mp us _)=>dm b cs/\ry b us/\(match dC us (.agg cs) 0 with
   |some (_,v)=>d (if a then .aK [v,.v (.bool true)]else v)
   |none=>d (if a then .aK [c,.v (.bool false)]else c))
  | _=>False
 | _,_=>False
def Wb:G K (.lK I j4 n Z e9) j f s=tO I j4 n f (al j Z) (al j e9) (bZ (λa=>s a f) ()):=by simp only[G,tO];generalize al j Z=b;generalize al j e9=c;rfl
def Cf {c:R->Option R}{a:R->Prop}{k:cA a} (o:qu f e j4 c) (p:dm j4 g)
  (r: ∀v,c (.agg g)=some v->a (if I then .aK [v,.v (.bool true)]else v)) (x:c (.agg g)=none->a (if I then .aK [n,.v (.bool false)]else n)):tO I j4 n f (.gQ e) (.agg g) (bZ a k):=by
 obtain⟨y,C,z,d⟩:=o;simp only[tO,z];refine⟨p,d.keys,?_⟩;have b:=d.val (.agg g);cases h:dC y (.agg g) 0 with
 |none=>rw[h]at b;exact x b.symm
 |some D=>rw[h]at b;exact r _ b.symm
def tP (a:List (Nat×c8)) (b:U) (d h v:R) (k:U->Prop):Prop:=
 match d,h with
 | .gQ c,.agg cs=>match b c with
  |some (.mp us clock)=>dm a cs/\ry a us/\k (b.set c (.mp (kR us (.agg cs) v clock).1 (kR us (.agg cs) v clock).2))
  | _=>False
 | _,_=>False
def Wc {v:Operand}:G K (.lL j4 Z e9 v) j f s=tP j4 f (al j Z) (al j e9) (al j v) (bZ (λa=>s (.aK []) a) ()):=by simp only[G,tP];generalize al j Z=b;generalize al j e9=c;rfl
def Wd {v:R}{c:R->Option R}{a:U->Prop}{o:cA a} (p:qu f e j4 c) (d:dm j4 g)
  (r: ∀h,qu (f.set e h) e j4 (jJ c (.agg g) v)->a (f.set e h)):tP j4 f (.gQ e) (.agg g) v (bZ a o):=by
 obtain⟨x,z,y,b⟩:=p;simp only[tP,y];refine⟨d,b.keys,r _ ⟨_,_,U.ag _ _ _,?_⟩⟩;unfold kR;cases k:dC x (.agg g) 0 with
 |none=>exact b.push d k
 |some C=>exact b.set k
end
theorem wX {a b:List UInt8}:ja .neq (bb a) (bb b)=some (.v (.bool (!decide (a=b)))):=by grind[bb,rW,C1]
def qv {a b:List UInt8}:ja .eql (bb a) (bb b)=some (.v (.bool (decide (a=b)))):=by simp only[bb,rW,C0 a b];rfl
def We:wR f (.J (w.map ak) M)=some (bb w):=VB C7
def p7 {a:List UInt8}{b:Own}:mT (.J (a.map ak) b)=some (bb a):=C2
def mU (k:(∀a,R.J a .nil∈g->a= [])->AC m b5 g f s):AC m b5 g f s:=λb o p c r=>by
 refine k (λa x=> ?_) b o p c r;obtain⟨d,y,z⟩:=a5G x;have h:=c.2 d _ (by rw[a4T y,z]);generalize b.getD d undef=v at h;cases h with
 |dg=>rfl
 |J C off len cap D E a F hk hlen G L P hH S T=>trivial
def Wf:=
 a4R @Wa<|
 a4R @Wb<|
 @Wc
def Wg:=
 a4R @wX<|
 a4R @qv<|
 a4R @We<|
 @p7
def qw:=a4R s4 (a4R s8 (a4R Cb Wf))
def Wh:=a4R s5<|a4R fY<|a4R s9<|a4R Cc Wg
attribute [go_sem ↓] qw
attribute [go_sem] Wh a6A ne_eq not_true_eq_false not_false_eq_true a6F a6R al ofConst cS
def aj (a:N) (b:h2) (c:N->b4=h2:=by intro d;simp -dsimp -implicitDefEqProofs (disch:=first|omega|assumption|(simp only[bk,Nat.reduceAdd];try omega)) only[go_sem,simprocAttr,-List.reduceReplicate,d];rfl):b4:=(c a).mpr b
def bT (a:b4) (b:N=b4:=by simp -dsimp -implicitDefEqProofs (disch:=first|omega|assumption|(simp only[bk,Nat.reduceAdd];try omega)) only[go_sem,simprocAttr,-List.reduceReplicate];rfl):N:=b.mpr a
def aE (a:N) (b:h2) (c:N->b4=h2:=by intro d;simp -dsimp -implicitDefEqProofs (disch:=first|omega|assumption|(simp only[bk,Nat.reduceAdd];try omega)) only[go_sem,simprocAttr,d];rfl):b4:=(c a).mpr b
def eA (a:b4) (b:N=b4:=by simp -dsimp -implicitDefEqProofs (disch:=first|omega|assumption|(simp only[bk,Nat.reduceAdd];try omega)) only[go_sem,simprocAttr];rfl):N:=b.mpr a
def cm (a:N) (b:N->b4=True:=by intro c;simp -dsimp -implicitDefEqProofs (disch:=first|omega|assumption|(simp only[bk,Nat.reduceAdd];try omega)) only[go_sem,simprocAttr,-List.reduceReplicate,c]):b4:=of_eq_true (b a)
def mV (a:N=True:=by simp -dsimp -implicitDefEqProofs (disch:=first|omega|assumption|(simp only[bk,Nat.reduceAdd];try omega)) only[go_sem,simprocAttr,-List.reduceReplicate]):N:=of_eq_true a
def gT (a:N) (b:N->b4=True:=by intro c;simp -dsimp -implicitDefEqProofs (disch:=first|omega|assumption|(simp only[bk,Nat.reduceAdd];try omega)) only[go_sem,simprocAttr,c]):b4:=of_eq_true (b a)
def qx (a:N=True:=by simp -dsimp -implicitDefEqProofs (disch:=first|omega|assumption|(simp only[bk,Nat.reduceAdd];try omega)) only[go_sem,simprocAttr]):N:=of_eq_true a
def c2 (a:N) (b:b4):N/\b4:=⟨a,b⟩
def aH (a:N) (b:b4) (c:h2):N/\b4/\h2:=⟨a,b,c⟩
def aJ (a:N) (b:b4) (c:h2) (d:h8):N/\b4/\h2/\h8:=⟨a,b,c,d⟩
def bm (a:N) (b:b4) (c:h2) (d:h8) (h:j1):N/\b4/\h2/\h8/\j1:=⟨a,b,c,d,h⟩
def bs {a:Prop} (b:N) (c:b4) (d:h2) (h:h8) (k:j1) (o:a):N/\b4/\h2/\h8/\j1/\a:=⟨b,c,d,h,k,o⟩
def c6 {a b:Prop} (c:N) (d:b4) (h:h2) (k:h8) (o:j1) (p:a) (r:b):N/\b4/\h2/\h8/\j1/\a/\b:=⟨c,d,h,k,o,p,r⟩
def bt {a b c:Prop} (d:N) (h:b4) (k:h2) (o:h8) (p:j1) (r:a) (x:b) (y:c):N/\b4/\h2/\h8/\j1/\a/\b/\c:=⟨d,h,k,o,p,r,x,y⟩
def cU {a b c d:Prop} (h:N) (k:b4) (o:h2) (p:h8) (r:j1) (x:a) (y:b) (z:c) (C:d):N/\b4/\h2/\h8/\j1/\a/\b/\c/\d:=⟨h,k,o,p,r,x,y,z,C⟩
def cf {a b c d h:Prop} (k:N) (o:b4) (p:h2) (r:h8) (x:j1) (y:a) (z:b) (C:c) (D:d) (E:h):N/\b4/\h2/\h8/\j1/\a/\b/\c/\d/\h:=⟨k,o,p,r,x,y,z,C,D,E⟩
def gj {a b c d h k:Prop} (o:N) (p:b4) (r:h2) (x:h8) (y:j1) (z:a) (C:b) (D:c) (E:d) (F:h) (G:k):N/\b4/\h2/\h8/\j1/\a/\b/\c/\d/\h/\k:=⟨o,p,r,x,y,z,C,D,E,F,G⟩
def gU {a b c d h k o:Prop} (p:N) (r:b4) (x:h2) (y:h8) (z:j1) (C:a) (D:b) (E:c) (F:d) (G:h) (L:k) (P:o):N/\b4/\h2/\h8/\j1/\a/\b/\c/\d/\h/\k/\o:=⟨p,r,x,y,z,C,D,E,F,G,L,P⟩
def lf {a b c d h k o p:Prop} (r:N) (x:b4) (y:h2) (z:h8) (C:j1) (D:a) (E:b) (F:c) (G:d) (L:h) (P:k) (S:o) (T:p):N/\b4/\h2/\h8/\j1/\a/\b/\c/\d/\h/\k/\o/\p:=⟨r,x,y,z,C,D,E,F,G,L,P,S,T⟩
def gk {a b c d h k o p r:Prop} (x:N) (y:b4) (z:h2) (C:h8) (D:j1) (E:a) (F:b) (G:c) (L:d) (P:h) (S:k) (T:o) (V:p) (W:r):N/\b4/\h2/\h8/\j1/\a/\b/\c/\d/\h/\k/\o/\p/\r:=⟨x,y,z,C,D,E,F,G,L,P,S,T,V,W⟩
def p8 {a b c d h k o p r x:Prop} (y:N) (z:b4) (C:h2) (D:h8) (E:j1) (F:a) (G:b) (L:c) (P:d) (S:h) (T:k) (V:o) (W:p) (e:r) (f:x):N/\b4/\h2/\h8/\j1/\a/\b/\c/\d/\h/\k/\o/\p/\r/\x:=⟨y,z,C,D,E,F,G,L,P,S,T,V,W,e,f⟩
def lW {a b c d h k o p r x y:Prop} (z:N) (C:b4) (D:h2) (E:h8) (F:j1) (G:a) (L:b) (P:c) (S:d) (T:h) (V:k) (W:o) (e:p) (f:r) (g:x) (i:y):N/\b4/\h2/\h8/\j1/\a/\b/\c/\d/\h/\k/\o/\p/\r/\x/\y:=⟨z,C,D,E,F,G,L,P,S,T,V,W,e,f,g,i⟩
def mW {a b c d h k o p r x y z:Prop} (C:N) (D:b4) (E:h2) (F:h8) (G:j1) (L:a) (P:b) (S:c) (T:d) (V:h) (W:k) (e:o) (f:p) (g:r) (i:x) (j:y) (l:z):N/\b4/\h2/\h8/\j1/\a/\b/\c/\d/\h/\k/\o/\p/\r/\x/\y/\z:=⟨C,D,E,F,G,L,P,S,T,V,W,e,f,g,i,j,l⟩
def wY {a b c d h k o p r x y z C:Prop} (D:N) (E:b4) (F:h2) (G:h8) (L:j1) (P:a) (S:b) (T:c) (V:d) (W:h) (e:k) (f:o) (g:p) (i:r) (j:x) (l:y) (m:z) (n:C):N/\b4/\h2/\h8/\j1/\a/\b/\c/\d/\h/\k/\o/\p/\r/\x/\y/\z/\C:=⟨D,E,F,G,L,P,S,T,V,W,e,f,g,i,j,l,m,n⟩
def Cg {a b c d h k o p r x y z C D:Prop} (E:N) (F:b4) (G:h2) (L:h8) (P:j1) (S:a) (T:b) (V:c) (W:d) (e:h) (f:k) (g:o) (i:p) (j:r) (l:x) (m:y) (n:z) (q:C) (s:D):N/\b4/\h2/\h8/\j1/\a/\b/\c/\d/\h/\k/\o/\p/\r/\x/\y/\z/\C/\D:=⟨E,F,G,L,P,S,T,V,W,e,f,g,i,j,l,m,n,q,s⟩
def o4 {a b c d h k o p r x y z C D E:Prop} (F:N) (G:b4) (L:h2) (P:h8) (S:j1) (T:a) (V:b) (W:c) (e:d) (f:h) (g:k) (i:o) (j:p) (l:r) (m:x) (n:y) (q:z) (s:C) (t:D) (u:E):N/\b4/\h2/\h8/\j1/\a/\b/\c/\d/\h/\k/\o/\p/\r/\x/\y/\z/\C/\D/\E:=⟨F,G,L,P,S,T,V,W,e,f,g,i,j,l,m,n,q,s,t,u⟩
section
def Wi:G K (.mF Z) j f s=dD (rA (al j Z)) (bZ (λa=>s a f) ()):=by simp only[G];rfl
def Wj:rA (.an i v e O)=some (.v (.int .i64 e)):=rfl
def Wk:rA (.J [] .nil)=some (.v (.int .i64 0)):=rfl
def cg (d:Nat) (x:R) (h k o:Option R):Option R:=
 match x with
 | .an p len cap r=>match cF h 0,cF k len,cF o cap with
  |some a,some c,some b=>if r=d/\0<=a/\a<=c/\c<=b/\b<=cap then
    some (if h.isSome=true then(if a<b then .bA p (a.toNat*d) (c.toNat - a.toNat) (b.toNat - a.toNat) d else .J [] .zero)else .an p c.toNat b.toNat d)
   else none
  | _,_,_=>none
 | .bA p off len cap r=>match cF h 0,cF k len,cF o cap with
  |some a,some c,some b=>if r=d/\0<=a/\a<=c/\c<=b/\b<=cap then
    some (if a<b then .bA p (off+a.toNat*d) (c.toNat - a.toNat) (b.toNat - a.toNat) d else .J [] .zero)
   else none
  | _,_,_=>none
 | .J [] .nil=>match cF h 0,cF k 0,cF o 0 with
  |some a,some c,some b=>if a=0/\c=0/\b=0 then some (.J [] .nil)else none
  | _,_,_=>none
 | .J [] .zero=>match cF h 0,cF k 0,cF o 0 with
  |some a,some c,some b=>if a=0/\c=0/\b=0 then some (.J [] .zero)else none
  | _,_,_=>none
 | _=>none
def Wl {a b c:Option Operand}:rB j e n a b c=cg e n (a.map (al j)) (b.map (al j)) (c.map (al j)):=by simp only[rB,cg,wJ,Option.isSome_map];rfl
def Wm {a b c:Option Operand}:G K (.lM e Z a b c) j f s=dD (cg e (al j Z) (a.map (al j)) (b.map (al j)) (c.map (al j))) (bZ (λd=>s d f) ()):=by simp only[G,Wl];rfl
theorem hM (a:v<=i):cg e (.an O b8 i e) none (some (.v (.int e2 (v:Int)))) none=some (.an O v i e):=by grind[cg,cF,intOf]
theorem gl (a:e<=v) (b:v<=O) (c:e<O):cg i (.an b8 v O i) (some (.v (.int e2 (e:Int)))) none none=some (.bA b8 (e*i) (v - e) (O - e) i):=by grind[cg,cF,intOf]
def tQ (a:e=v):cg i (.an O e v i) (some (.v (.int e2 (e:Int)))) none none=some (.J [] .zero):=by subst a;simp[cg,cF,intOf]
theorem Ch {a:IntKind} (b:e<=O) (c:O<=v) (d:e<v):cg i (.an b8 j0 v i) (some (.v (.int e2 (e:Int)))) (some (.v (.int a (O:Int)))) none=some (.bA b8 (e*i) (O - e) (v - e) i):=by grind[cg,cF,intOf]
def Wn:cg e (.J [] .zero) (some (.v (.int e2 0))) none none=some (.J [] .zero):=by rfl
def Wo:cg e (.J [] .nil) (some (.v (.int e2 0))) none none=some (.J [] .nil):=by rfl
def wZ:cg e (.J [] .nil) none (some (.v (.int e2 0))) none=some (.J [] .nil):=by rfl
def Ci (a:Option U) (b:U->Prop):Prop:=
 match a with
 |some c=>b c
 |none=>False
def Wp {a:U->Prop}{b:cA a}:Ci (some f) (bZ a b)=a f:=rfl
def Cj (a:Option (R×U)) (b:R->U->Prop):Prop:=
 match a with
 |some (c,d)=>b c d
 |none=>False
def Wq {a:cA s}:Cj (some (n,f)) (bO s a)=s n f:=rfl
def Wr:G K (.mG e g Z) j f s=Ci (kT e g (al j Z) f) (bZ (λa=>s (.aK []) a) ()):=by simp only[G];rfl
def Ws:G K (.mH e Z e9) j f s=Cj (lN e (al j Z) (al j e9) f) (bO s ()):=by simp only[G];rfl
def Wt:G K (.mJ Z e9) j f s=dD (kU (al j Z) (al j e9) f) (bZ (λa=>s a f) ()):=by simp only[G];rfl
def x0 (a:f i=some (.cells g)) (b:v+O*e<=g.length):kT e B (.bA i v O b8 e) f=some (f.set i (.cells (putAt g v (List.replicate O B).flatten))):=by simp[kT,a,b]
def Wu:kT e g (.J [] M) f=some f:=rfl
def hq (a:bN f e n=some (b8,B)) (b:f v=some (.cells g)) (c:O+i*e<=g.length):lN e (.bA v O i j0 e) n f=some (.v (.int .i64 (min b8 i:Nat)),f.set v (.cells (putAt g O (B.take (i*e))))):=by simp[lN,a,b,c]
def x1 (a:cK n=some e) (b:cK b3=some i) (c:e≠i) (d:kq f e=true) (h:kq f i=true):kU n b3 f=some (.v (.bool false)):=by simp[kU,a,b,c,d,h]
def qy (a:f e=some (.cells g)) (b:g≠ []):kq f e=true:=by
 cases g with
 |nil=>trivial
 |cons c g=>simp[kq,a]
def sb (c p:Nat) (r:List R) (k:U) (y z:R) (x:R->U->Prop):Prop:=
 match y,z with
  | .an C d cap D,.v (.int .i64 a)=>match k.read C with
   |some cs=>D=c/\cs.length=cap*c/\0<=a/\cap<d+a.toNat/\(d+a.toNat)*p<=140737488355328/\d+a.toNat<=9223372036854775807/\
    ∀h b o,k h=none->d+a.toNat<=b->b<=maxLen->o.length=(b -(d+a.toNat))*c->x (.an h (d+a.toNat) b c) (k.set h (.cells (cs.take (d*c)++(List.replicate a.toNat r).flatten++o)))
   |none=>False
  | .J xs E,.v (.int .i64 a)=>xs= []/\E= .nil/\0<a/\a.toNat*p<=140737488355328/\a<=9223372036854775807/\
    ∀h b o,k h=none->a.toNat<=b->b<=maxLen->o.length=(b - a.toNat)*c->x (.an h a.toNat b c) (k.set h (.cells ((List.replicate a.toNat r).flatten++o)))
  | _,_=>False
def Wv:G K (.mI e i g Z e9) j f s=sb e i g f (al j Z) (al j e9) (bO s ()):=rfl
def x2 {d:cA s} (h:f j0=some (.cells g)) (k:g.length=O*v) (o:O<e+i) (p:(e+i)*b8<=140737488355328) (r:e+i<=9223372036854775807)
  (x: ∀b a c,f b=none->e+i<=a->a<=maxLen->c.length=(a -(e+i))*v->s (.an b (e+i) a v) (f.set b (.cells (g.take (e*v)++(List.replicate i B).flatten++c)))):sb v b8 B f (.an j0 e O v) (.v (.int .i64 (i:Int))) (bO s d):=by
 simp only[sb,U.af h,a5x];exact⟨trivial,k,a9w,o,p,r,x⟩
def Ck {d:cA s} (o:0<e) (h:e*v<=140737488355328) (p:e<=9223372036854775807)
  (k: ∀b a c,f b=none->e<=a->a<=maxLen->c.length=(a - e)*i->s (.an b e a i) (f.set b (.cells ((List.replicate e g).flatten++c)))):sb i v g f (.J [] .nil) (.v (.int .i64 (e:Int))) (bO s d):=by
 simp only[sb,a5x];exact⟨trivial,trivial,a9w,h,a9w,k⟩
def View (c:U) (h:R) (k:U) (o:R):Prop:= ∀(a:bl) (b:World) (v:Value),Holds a c b->aY a v h-> ∃d,Step a c b d k b/\aY d v o
def AC.view (k:AC m b5 g f s) (o: ∀a b,s a b-> ∃c d,View b a d c/\a7 c d):AC m b5 g f a7:=
 λp r x y z=>(k p r x y z).mono λ_ _ C=>by
  obtain⟨v,a,D,b,E,h,F,G⟩:=C;obtain⟨c,d,L,P⟩:=o a b G;obtain⟨S,T,V⟩:=L D _ v h.holds F;exact⟨v,c,S,d,E,h.trans T,V,P⟩
theorem View.refl {a:U}{b:R}:View a b a b:=λc k v d h=>⟨c,.refl d,h⟩
theorem View.J {s:U}{a:List R}{o:Own}:View s (.J a o) s (.J a .any):=λb E v c d=>by
 refine⟨b,.refl c,?_⟩;cases d with
 |dg h cap dn bW k=>exact .dg h cap .any bW trivial
 |J p off len cap r x a dn hk hlen y z C hH D k=>exact .J p off len cap r x a .any hk hlen y z C hH D trivial
theorem View.an {b:U}{c n cap k:Nat}{a:List R} (h:b c=some (.cells a)) (o:n*k<=a.length):View b (.an c n cap k) (b.set c (.ro a)) (.J (dS k n a) .any):=λy z v p r=>by
 obtain⟨x,d⟩:=Step.freeze p h;exact⟨x,d,aY.frozen d.holds (U.ag _ _ _) o (r.mono d.le)⟩
theorem jK:dS 1 e g=g.take e:=by rfl
theorem Ww (c:i<=v):dS e i (g.take (v*e))=dS e i g:=by
 unfold dS;by_cases hk:e=1;grind
 .simp only[hk,if_false];refine a6z λa b=> ?_;have b:a<i:=by simpa using b
  have d:a*e+e<=v*e:=by have:(a+1)*e<=v*e:=a5i _ a9w;grind
  rw[a6m,a6i,a6D a9w]
theorem View.dJ (o:av t f e g n): ∃a d,g.length=a*e/\t.sub d/\View f n d (.J (dS e a g) .any):=by
 obtain⟨b,p⟩:=o;rcases p with ⟨rfl,rfl|rfl⟩|⟨h,a,F,r,rfl,x,y,G,z,C,L,P⟩
 .refine⟨0,f,a9x,b,?_⟩;grind[dS,View.J]
 .refine⟨0,f,a9x,b,?_⟩;grind[dS,View.J]
 .refine⟨a,f.set h (.ro r),C,λk D c=> ?_,?_⟩
  .have E:k≠h:=by rintro rfl;rw[x]at c;cases c
   rw[U.ao _ _ E];exact b k D c
  .rw[<-z,Ww (a5z a)];exact View.an y (by grind)
theorem View.trans {a b c:U}{d h k:R} (r:View a d b h) (x:View b h c k):View a d c k:=λy o v z C=>by
 obtain⟨D,p,E⟩:=r y o v z C;obtain⟨F,G,L⟩:=x D o v p.holds E;exact⟨F,p.trans G,L⟩
theorem View.aK {c d:U}{b h:R}{a k:List R} (x:View c b d h):View c (.aK (a++b::k)) d (.aK (a++h::k)):=λy z v C D=>by
 cases D with
 |aK E cs F o=>
  have G:=o a.length b a9x;obtain⟨L,p,S⟩:=x y z _ C G;refine⟨L,p,.aK E _ (by simpa using F) λr P T=> ?_⟩;by_cases V:r=a.length;simp_all
  .refine(o r P ?_).mono p.le;grind
theorem View.agg {d h:U}{b c:R}{a k:List R} (S:c.one=true) (x:View d b h c):View d (.agg (a++b::k)) h (.agg (a++c::k)):=λy z v C D=>by
 cases D with
 |agg E cs T F o=>
  have G:=o a.length b a9x;obtain⟨L,p,V⟩:=x y z _ C G;refine⟨L,p,.agg E _ (λW e=> ?_) (by simpa using F) λr P f=> ?_⟩;grind;by_cases g:r=a.length;simp_all
  .refine(o r P ?_).mono p.le;grind
end
def eL:=
 a4R @Wi<|
 a4R @Wm<|
 a4R @Wr<|
 a4R @Ws<|
 a4R @Wt<|
 a4R @Wv<|
 a4R @Wp<|
 a4R @Wq<|
 a4R @Wj<|
 a4R @Wk<|
 @wZ
def dA (a:N) (b:h2) (c:N->b4=h2:=by intro d;simp -dsimp -implicitDefEqProofs (disch:=first|omega|assumption|(simp only[bk,Nat.reduceAdd];try omega)) only[go_sem,simprocAttr,-List.reduceReplicate,↓eL,d];rfl):b4:=(c a).mpr b
def Cl (a:b4) (b:N=b4:=by simp -dsimp -implicitDefEqProofs (disch:=first|omega|assumption|(simp only[bk,Nat.reduceAdd];try omega)) only[go_sem,simprocAttr,-List.reduceReplicate,↓eL];rfl):N:=b.mpr a
def wr:dH->List Nat
 | .plain ops| .draw ops _=>ops.filterMap (·.dst)
 | .seq a b| .cond _ a b=>wr a++wr b
 | .block _ a| .loop a=>wr a
 | _=> []
def hr (b:List Nat) (c d:Fr):Prop:= ∀a,a∉b->d a=c a
theorem hr.trans {a:List Nat}{b c d:Fr} (o:hr a b c) (p:hr a c d):hr a b d:=λh k=>(p h k).trans (o h k)
def hr.put {c:List Nat}{b:Option Nat} (d: ∀a,b=some a->a∈c):hr c j (dk j b n):=λa h=>tz j b n a λk=>h (d a k)
section
def Cm {a:List Nat}{k:Fr->U->Prop}{o:Fr}: ∀(b:List c7),(∀c∈b,∀p,c.dst=some p->p∈a)-> ∀(j:Fr) (f:U),hr a o j->iU K b k j f->iU K b (λr d=>k r d/\hr a o r) j f
 | [],_,j,f,ct,h=>⟨h,ct⟩
 |c::y,x,j,f,ct,h=>mO (λE d z=>Cm y (λC D=>x C (a6o _ D)) _ d (ct.trans (hr.put (x c (a6O ..)))) z) h
def Cn {b:List Nat}{c:Nat->c7}{h:Fr->U->Prop}{k:Fr} (o: ∀z p,(c z).dst=some p->p∈b): ∀(r:List di) (j:Fr) (f:U),hr b k j->can K c h r j f->can K c (λx d=>h x d/\hr b k x) r j f
 | [],j,f,ct,a=>⟨a,ct⟩
 |C::D,j,f,ct,a=>⟨a.1,mO (λE d y=>⟨y.1,Cn o D _ d (ct.trans (hr.put (o C.i))) y.2⟩) a.2⟩
theorem o5 {r:List Nat}: ∀(x:dH),(∀b∈wr x,b∈r)-> ∀ {o:gh->Fr->U->Prop}{d:Fr} (j:Fr) (f:U),hr r d j->bS K x o j f->bS K x (λh C E=>o h C E/\hr r d C) j f
 | .skip,_,_,_,j,f,ct,a=>⟨a,ct⟩
 | .ret,_,_,_,j,f,ct,a=>⟨a,ct⟩
 | .exit _,_,_,_,j,f,ct,a=>⟨a,ct⟩
 | .plain ops,hw,_,_,j,f,ct,a=>Cm ops (λF G b p=>hw b (a8t.2 ⟨F,G,p⟩)) j f ct a
 | .draw ops L,hw,_,_,j,f,ct,a=>Cn (λy b p=>by
   refine hw b (a8t.2 ?_);grind[nth,List.mem_of_getElem?]) L j f ct a
 | .seq c z,hw,o,d,j,f,ct,a=>jb c (λh j f a=>by
   cases h with
   |norm=>exact o5 z (λb k=>hw b (a7a _ k)) j f a.2 a.1
   |exit y=>exact a
   |ret=>exact a) j f (o5 c (λb k=>hw b (a7f _ k)) j f ct a)
 | .block y c,hw,o,d,j,f,ct,a=>jb c (λh j f a=>by
   cases h with
   |norm=>exact a
   |exit e=>obtain⟨P,g⟩:=a;simp only[kY]at P|-;split<;>(simp_all)
   |ret=>exact a) j f (o5 c hw j f ct a)
 | .cond x c z,hw,o,d,j,f,ct,a=>by
   simp only[wD,Bs,kt]at a|-;split at a
   .exact⟨λp=>o5 c (λb k=>hw b (a7f _ k)) j f ct (a.1 p),λp=>o5 z (λb k=>hw b (a7a _ k)) j f ct (a.2 p)⟩
   .trivial
 | .loop c,hw,o,d,j,f,ct,a=>by
   obtain⟨S,T,V,W⟩:=a;refine⟨λj f=>S j f/\hr r d j,T,⟨V,ct⟩,λj f D=>jb c (λh j f a=> ?_) j f (o5 c hw j f D.2 (W j f D.1))⟩;cases h with
   |norm=>exact⟨⟨a.1.1,a.2⟩,a.1.2⟩
   |exit y=>exact a
   |ret=>exact a
def gI (a:Fr):List (Nat×R)->Prop
 | []=>True
 |b::c=>a b.1=b.2/\gI a c
def Wx:gI j []=True:=rfl
def Wy {v:R}:gI j [(e,v)]=(j e=v):=by simp[gI]
def Wz {v:R}{a:Nat×R}{b:List (Nat×R)}:gI j ((e,v)::a::b)=(j e=v/\gI j (a::b)):=rfl
def gV (a:Fr):List (Nat×R)->Fr
 | []=>a
 |b::c=>dk (gV a c) (some b.1) b.2
def WA:gV j []=j:=rfl
def WB {v:R}{a:List (Nat×R)}:gV j ((e,v)::a)=dk (gV j a) (some e) v:=rfl
theorem sc {a:Fr}: ∀ {b:List (Nat×R)},gI a b->gV a b=a
 | [],_=>rfl
 |d::o,c=>by
  rw[gV,sc c.2];funext h;by_cases k:h=d.1
  .subst k;rw[<-c.1];simp[dk,lF]
  grind[tz,Option.some.inj]
def keeps (a:Fr):List Nat->List (Nat×R)
 | []=> []
 |b::c=>(b,a b)::keeps a c
def WC:keeps j []= []:=rfl
def WD {a:List Nat}:keeps j (e::a)=(e,j e)::keeps j a:=rfl
def x3 {b c:Fr}: ∀ {d:List Nat},(∀a∈d,c a=b a)->gI c (keeps b d)
 | [],_=>trivial
 |a::p,h=>⟨h a (a6O ..),x3 λk o=>h k (a6o _ o)⟩
theorem Co: ∀ {a:Nat},j5 a-> ∃a,j5 a/\ ∀b,j5 b->a<=b:=by
 intro a
 induction a using Nat.strongRecOn with
 |ind a ih=>grind
theorem ch (D:List Nat) (y:b0->List (Nat×R)) (E:b0->U->Prop) (h:b0->Nat) (L:b0)
  (m:E L f/\gI j (y L)) (P: ∀x c,E x c-> ∀d,bS K h6 (eR (λn q=> ∃a,E a q/\gI n (y a)/\h a<h x) e8) (gV (gV d (keeps j D)) (y x)) c)
  (I:D.all (λS=> !(wr h6).contains S)=true:=by kernel_rfl):cu (bS K (.loop h6) e8 j f) ():=by
 classical
 let p:=λ(d) (c) (a)=>E a c/\gI d (y a)
 let z:=λ(d) (c)=>if C: ∃k,(∃a,p d c a/\h a=k)/\ ∀o,(∃a,p d c a/\h a=o)->k<=o then C.choose else 0;refine⟨λd c=>(∃a,p d c a)/\hr (wr h6) j d,z,⟨⟨L,m⟩,λ_ _=>rfl⟩,λb r T=> ?_⟩;have C: ∃k,(∃a,p b r a/\h a=k)/\ ∀o,(∃a,p b r a/\h a=o)->k<=o:=by obtain⟨a,s⟩:=T.1;exact Co ⟨a,s,rfl⟩
 obtain⟨⟨x,i,hm⟩,M⟩:=C.choose_spec;have t:gI b (keeps j D):=x3 λS N=>T.2 S λO=>by
  simp_all
 have u:gV (gV b (keeps j D)) (y x)=b:=by rw[sc t,sc i.2]
 have l:=P x r i.1 b;rw[u]at l;refine jb h6 (λv F G V=> ?_) b r (o5 h6 (λ_ P=>P) b r T.2 l);cases v with
 |norm=>obtain⟨⟨a,W,e,w⟩,A⟩:=V;refine⟨⟨⟨a,W,e⟩,A⟩,?_⟩;have g: ∃k,(∃a,p F G a/\h a=k)/\ ∀o,(∃a,p F G a/\h a=o)->k<=o:=Co ⟨a,⟨W,e⟩,rfl⟩;show z F G<z b r;have B:z F G=g.choose:=dif_pos g;have H:z b r=C.choose:=dif_pos C;rw[B,H];exact Nat.lt_of_le_of_lt (g.choose_spec.2 _ ⟨a,⟨W,e⟩,rfl⟩) (by rw[<-hm];exact w)
 |exit Q=>exact V.1
 |ret=>exact V.1
end
theorem gJ (d:List Nat) (b:b0->List (Nat×R)) (c:b0->Prop) (h:b0->Nat) (k:b0)
  (x:c k) (y:gI j (b k)) (z: ∀a,c a-> ∀o,bS K h6 (eR (λC D=> ∃p,D=f/\c p/\gI C (b p)/\h p<h a) e8) (gV (gV o (keeps j d)) (b a)) f)
  (E:d.all (λF=> !(wr h6).contains F)=true:=by kernel_rfl):cu (bS K (.loop h6) e8 j f) ():=
 ch d b (λa r=>r=f/\c a) h k ⟨⟨rfl,x⟩,y⟩ (λa r G o=>by
  obtain⟨rfl,L⟩:=G;refine jb h6 (λP S T V=> ?_) _ _ (z a L o);grind) E
def tR:=
 a4R @Wx<|
 a4R @Wy<|
 a4R @Wz<|
 a4R @WA<|
 a4R @WB<|
 a4R @WC<|
 @WD
def U.tS (a:f e=none) (b:t.sub f):t e=none:=U.bI b a
def U.WE (c:f e=none):f.sub (t.set e Y)=f.sub t:=propext ⟨λa d h b=>by
 have k:d≠e:=by rintro rfl;rw[c]at b;cases b
 have:=a d h b;rwa[U.ao _ _ k]at this,λa=>U.ae a c⟩
def U.sub_self:f.sub f=True:=eq_true U.a1
def WG:(∃b,b.sub t/\f.sub b)=f.sub t:=propext ⟨λ⟨_,a,h⟩ c d k=>a c d (h c d k),λa=>⟨f,a,U.a1⟩⟩
def WH:(∃b,b.sub t/\b=f)=f.sub t:=propext ⟨λ⟨_,a,c⟩=>by subst c;exact a,λa=>⟨f,a,rfl⟩⟩
def WI:s6 (bb w)=some (.v (.int .i64 w.length)):=wN
def WJ (a:e<w.length):s3 (bb w) (.v (.int e2 (e:Int)))=some (.v (.int .u8 (w.getD e 0).toNat)):=by have:=C3 (w:=w) (e2:=e2) (b1:=(e)) a9w a9w;trivial
def o6:cL e (.J g M) (.v (.int e2 (i:Int)))=ey e g[i]? :=by rfl
def WK:ey 1 (some (.v e5))=some (.bV [.v e5]):=rfl
def WL:ey 1 (some (bb w))=some (.bV [bb w]):=rfl
def WM:ey 1 (some (.J g M))=some (.bV [.J g M]):=rfl
def WN:ey 1 (some (.ptr e i))=some (.bV [.ptr e i]):=rfl
def WO [Decidable N]:(!decide N)=decide (¬N):=decide_not.symm
def WQ:(xor false I)=I:=a7C I
def WR:(∃b,b.sub t/\f.sub b/\N)=(f.sub t/\N):=propext ⟨λ⟨_,a,h,k⟩=>⟨λc d o=>a c d (h c d o),k⟩,λa=>⟨f,a.1,U.a1,a.2⟩⟩
def WS:(∃b,b.sub t/\b=f/\N)=(f.sub t/\N):=propext ⟨λ⟨_,a,c,d⟩=>by subst c;trivial,λa=>⟨f,a.1,rfl,a.2⟩⟩
def WT {a:b0}{b:List b0}:List.take (e+1) (a::b)=a::List.take e b:=rfl
def WU {a:List b0}:List.take 0 a= []:=rfl
def WV:List.take e ([]:List b0)= []:=a9i
def WW {a:List b0}:List.drop 0 a=a:=rfl
def WX:putAt (b3::g) 0 (n::B)=n::putAt g 0 B:=by rfl
def WY:putAt g 0 []=g:=by rfl
def WZ:putAt (n::g) (e+1) B=n::putAt g e B:=by simp[putAt,Nat.add_right_comm]
def X0 {b:b0}{a:List b0}:(b::a).length=a.length+1:=rfl
def X1:([]:List b0).length=0:=rfl
def X2:(bb w).cells= [bb w]:=rfl
def X3:(R.J g M).cells= [.J g M]:=rfl
def X4:(R.ptr e i).cells= [.ptr e i]:=rfl
def X5 {v:Value}:(R.v v).cells= [.v v]:=rfl
theorem p9 (a:e<=g.length) (b:aS i g):dI i (.J g M) (some (.v (.int e2 (e:Int)))) none=some (.J (g.drop e) .any):=by grind[qp,Int.toNat_natCast]
def X6 (a:e<g.length) (b:aS i g):dI i (.J g M) (some (.v (.int e2 ((e:Int)+1)))) none=some (.J (g.drop (e+1)) .any):=p9 (e:=e+1) a b
theorem X7 (a:e<=g.length) (b:aS i g):dI i (.J g M) none (some (.v (.int e2 (e:Int))))=some (.J (g.take e) .any):=by grind[o0,Int.toNat_natCast]
theorem X8 {a:IntKind} (b:i<=e) (c:e<=g.length) (d:aS v g):dI v (.J g M) (some (.v (.int e2 (i:Int)))) (some (.v (.int a (e:Int))))=some (.J ((g.take e).drop i) .any):=by grind[BT,Int.toNat_natCast]
def X9:(∃ _:Unit,True)=True:=eq_true ⟨(),trivial⟩
def Xa {a:cA s}:jH e f [] (bO s a)=s (.J [] .zero) f:=by simp[jH,bO]
def Xb:cL e (.J g M) (.v (.int e2 0))=ey e g[0]? :=o6 (i:=0)
def Xc:cL e (.J g M) (.v (.int e2 1))=ey e g[1]? :=o6 (i:=1)
def tT:=
 a4R @Xb<|
 a4R @Xc<|
 a4R @X9<|
 a4R @p9<|
 a4R @X6<|
 a4R @X7<|
 a4R @X8<|
 a4R @X2<|
 a4R @X3<|
 a4R @X4<|
 a4R @X5<|
 a4R @U.ag<|
 a4R @U.ao<|
 a4R @WX<|
 a4R @WY<|
 a4R @WZ<|
 a4R @X0<|
 a4R @X1<|
 a4R @WT<|
 a4R @WU<|
 a4R @WV<|
 a4R @WW<|
 a4R @U.WE<|
 a4R @U.sub_self<|
 a4R @WG<|
 a4R @WH<|
 a4R @WR<|
 a4R @WS<|
 a4R @true_and<|
 a4R @and_true<|
 a4R @WI<|
 a4R @WJ<|
 a4R @o6<|
 a4R @WK<|
 a4R @WL<|
 a4R @WM<|
 a4R @WN<|
 a4R @hL<|
 a4R @hL<|
 a4R @BK<|
 a4R @decide_true<|
 a4R @decide_false<|
 a4R @a5N<|
 a4R @a5O<|
 a4R @a6s<|
 a4R @a7k<|
 a4R @a9j<|
 a4R @Bool.and_false<|
 a4R @WQ<|
 a4R @Bool.true_xor<|
 a4R @WO<|
 @Decidable.not_not
theorem sd {a:Nat->Bool} (b:e<i) (c:a e=false):(List.range i).all a=false:=List.all_eq_false.2 ⟨e,a6l.2 b,by simp[c]⟩
theorem se {a:Nat->Bool} (b: ∀c<e,a c=true):(List.range e).all a=true:=a5l.2 λd h=>b d (a6l.1 h)
def upto (b: ∀a<e,j5 a) (c:j5 e): ∀a<e+1,j5 a:=λa d=>(Nat.lt_or_eq_of_le (Nat.le_of_lt_succ d)).elim (b a) λh=>h▸c
def Xd:R.v (.int e2 ((e:Int)+1))= .v (.int e2 ((e+1:Nat):Int)):=rfl
theorem qz {a:Bool} (b:(I=true)=(a=true):=by apply propext;(try dsimp only);(try simp (disch:=omega) only[if_pos,if_neg,a4X,a6E,a6B,Bool.not_eq_eq_eq_not,a5N,a5O,decide_eq_true_eq,decide_eq_false_iff_not,a5Y,false_iff,iff_false,true_iff,iff_true,true_and,and_true,false_and,and_false,false_or,or_false,true_or,or_true,iff_self, *])<;>omega):I=a:=by simp_all
theorem aO {a:Bool} (b:I=a:=by exact qz):R.v (.bool I)= .v (.bool a):=b▸rfl
theorem aP {a:Bool} (b:I=a):R.v (.bool I)= .v (.bool a):=by rw[b]
def U.tU (a:f.sub t) (b:f e=some Y):t e=some Y:=a _ _ b
def U.tV (a:bh f t i g M) (b:f e=some Y):t e=some Y:=a.sub _ _ b
def iv (c d:U):Prop:= ∀a b,c a=some (.cells b)->d a=some (.cells b)
def U.qA (a:f.sub t):iv f t:=λc d b=>a _ _ b
theorem iv.trans (a:iv f t) (b:iv t e4):iv f e4:=λd h c=>b _ _ (a _ _ c)
def U.tW (a:iv f t) (b:f e=some (.cells g)):t e=some (.cells g):=a _ _ b
def U.tX {a:br} (b:f e=some Y) (c:f i=none):(f.set i a) e=some Y:=U.ae U.a1 c _ _ b
def U.gW (b:f i=none) (a:f e=some Y):e≠i:=by rintro rfl;rw[b]at a;cases a
def a0 (a:f e=some Y:=by first|assumption|exact U.ag _ _ _):f e=some Y:=a
def a3 (a:f e=some Y:=by first|exact a0|exact U.tX a2 a9z|exact U.tU a9z a2|exact U.tV a9z a2|exact U.x4 a9z a2|exact U.tW a9z a2):f e=some Y:=a
def a4 (a:f e=some Y:=by first|exact a0|exact U.tX a3 a9z|exact U.tU a9z a3|exact U.tV a9z a3|exact U.x4 a9z a3|exact U.tW a9z a3):f e=some Y:=a
def a5 (a:f e=some Y:=by first|exact a0|exact U.tX a4 a9z|exact U.tU a9z a4|exact U.tV a9z a4|exact U.x4 a9z a4|exact U.tW a9z a4):f e=some Y:=a
def du (a:f e=some Y:=by first|exact a0|exact U.tX a5 a9z|exact U.tU a9z a5|exact U.tV a9z a5|exact U.x4 a9z a5|exact U.tW a9z a5):f e=some Y:=a
def fi (c: ∀a b,f a=some (.cells b)->t a=some (.cells b):=by intro _ _ _;exact du):iv f t:=c
def qB (c: ∀a b,f a=some b->t a=some b:=by intro _ _ _;exact du):f.sub t:=c
section
def eB (a:N=b4:=by simp -dsimp -implicitDefEqProofs (disch:=first|omega|assumption|exact U.tS a9z a9z|(simp only[bk,Nat.reduceAdd];try omega)) only[go_sem,simprocAttr,-List.reduceReplicate,↓eL,tT,tR, *]<;>rfl):N=b4:=a
def hN (a:N=b4:=by first|exact eB|rfl):N=b4:=a
def aa (a:b4) (b:N=b4:=by exact hN):N:=b.mpr a
def aR (a:N=True:=by simp -dsimp -implicitDefEqProofs (disch:=first|omega|assumption|exact U.tS a9z a9z|(simp only[bk,Nat.reduceAdd];try omega)) only[go_sem,simprocAttr,-List.reduceReplicate,↓eL,tT,tR, *]):N:=of_eq_true a
def aM (b:m.follows .mixedOrders=true) {a:List (Nat×Option (Bool×Nat))} (c:dt m v e=some ⟨i,O,h6,a⟩) (d:N) (h:g.length<=i:=by simp)
  (k:bS (Ctx.of m) h6 (p4 a s) (lR g) f=N:=by exact eB):AC m e g f s:=bd b c h (k.mpr d)
def bo {c:Nat->Prop} (d: ∀a,f a=none->c a) (h: ∀a,f a=none->j5 a=c a:=by intro a b;exact eB):iY f (bZ j5 ()):=λa b=>(h a b).mpr (d a b)
def U.set_nil (a:(f.set i Y) e=none):f e=none/\e≠i/\i≠e:=⟨(U.gH a).2,(U.gH a).1,(U.gH a).1.symm⟩
def cV {d:Nat->Prop} (o: ∀a,f a=none->a≠e->e≠a->d a) (h: ∀a,f a=none->a≠e->e≠a->j5 a=d a:=by intro a b c h;exact eB):iY (f.set e Y) (bZ j5 ()):=λa b=>by
 obtain⟨b,c,k⟩:=U.set_nil b;exact(h a b c k).mpr (o a b c k)
def hs {k:Nat->Prop}{r:br} (x: ∀a,f a=none->a≠e->e≠a->a≠i->i≠a->k a) (o: ∀a,f a=none->a≠e->e≠a->a≠i->i≠a->j5 a=k a:=by intro a b c o d h;exact eB):iY ((f.set e Y).set i r) (bZ j5 ()):=λa b=>by
 obtain⟨b,d,h⟩:=U.set_nil b;obtain⟨b,c,p⟩:=U.set_nil b;exact(o a b c p d h).mpr (x a b c p d h)
def cl (c:AC m b5 g f a7) (d: ∀a b,a7 a b->s a b) (h:N=nZ K b5 g f (bO s ()):=by exact hN) (k:K.p=m:=by rfl):N:=by subst k;exact h.mpr (ai c d)
def bc (a:AC K.p b5 g f λb c=>c=f/\b=n) (d:N) (h:s n f=N:=by exact eB):nZ K b5 g f (bO s ()):=ai a λ_ _ a=>by rw[a.1,a.2];exact h.mpr d
theorem lX (c:AC m b5 g f λa b=>b=f/\a=n) (d:b4) (h:N=nZ K b5 g f (bO s ()):=by exact hN) (k:s n f=b4:=by exact hN) (o:K.p=m:=by rfl):N:=by grind[ai]
theorem gs {c:U->Prop} (b:AC K.p b5 g f λd a=>f.sub a/\d=n) (h: ∀a,f.sub a->c a) (k: ∀a,f.sub a->s n a=c a:=by intro a b;exact eB):nZ K b5 g f (bO s ()):=ai b λ_ a b=>by simp_all
def mX (a:N=b4:=by first|(simp only[decide_eq_true_eq,decide_eq_false_iff_not,a6B,Bool.not_eq_false',a5N,a5O,Decidable.not_not]<;>rfl)|rfl):N=b4:=a
def Xe {c:Prop} (k:(I=true)=N:=by exact mX) (o:(I=false)=b4:=by exact mX) (d:N->h2=j1:=by intro;first|exact eB|rfl) (h:b4->h8=c:=by intro;first|exact eB|rfl):kt (.v (.bool I)) (cu h2 ()) (cu h8 ())=((N->j1)/\(b4->c)):=by subst k o;exact propext ⟨λb=>⟨λa=>(d a).mp (b.1 a),λa=>(h a).mp (b.2 a)⟩,λb=>⟨λa=>(d a).mpr (b.1 a),λa=>(h a).mpr (b.2 a)⟩⟩
def Xf {c:Bool}{d:Prop} (o:(I=c)=N:=by exact mX) (p:(I= !c)=b4:=by exact mX) (h:N->h2=j1:=by intro;first|exact eB|rfl) (k:b4->h8=d:=by intro;first|exact eB|rfl):hI (.v (.bool I)) c (cu h2 ()) (cu h8 ())=((N->j1)/\(b4->d)):=by rw[Td];subst o p;exact propext ⟨λb=>⟨λa=>(h a).mp (b.1 a),λa=>(k a).mp (b.2 a)⟩,λb=>⟨λa=>(h a).mpr (b.1 a),λa=>(k a).mpr (b.2 a)⟩⟩
def aG (a:h8->b4) (b:j1->h2) (c:N=((h8->b4)/\(j1->h2)):=by first|exact Xe|exact Xf):N:=c.mpr ⟨a,b⟩
def Cp (a:N:=by first|assumption|(simp only[decide_eq_true_eq,decide_eq_false_iff_not,a6B,Bool.not_eq_false',Decidable.not_not]<;>omega)):N:=a
def Xg (a:I=true:=by exact Cp) (b:N=b4:=by exact eB):kt (.v (.bool I)) (cu N ()) (cu h2 ())=b4:=by subst a;exact Bt.trans b
def Xh (a:I=false:=by exact Cp) (b:N=b4:=by exact eB):kt (.v (.bool I)) (cu h2 ()) (cu N ())=b4:=by subst a;exact Bu.trans b
def iw (a:b4) (b:N=b4:=by first|exact Xg|exact Xh|exact a4K|exact a4L):N:=b.mpr a
end
theorem eS {a:List b0}{b:b0} (c:e<a.length):a.take (e+1)=a.take e++ [a.getD e b]:=by simp_all
abbrev eC (a b:U) (c:List UInt8) (d:R):Prop:=av a b 1 (c.map ak) d
def kx (b:U) (c:R) (a:List UInt8):Prop:=bN b 1 c=some (a.length,a.map ak)
theorem kx.J {s:U}{a:List UInt8}{o:Own}:kx s (.J (a.map ak) o) a:=by have b:=C7 (f:=s) (w:=a) (M:=o);exact b
def eC.lY (b:eC t f w n):kx f n w:=by obtain⟨d,a,c,_⟩:=b.src;simp only[a5f,a5K]at a;subst a;exact c
def av.sub {a b:U}{c:Nat}{d:List R}{h:R} (k:av a b c d h):a.sub b:=k.1
section
def tY {d:List UInt8} (c:eC t f w n) (h:kx f b3 d) (k: ∀b a,eC t a (w++d) b->t.sub a->a7 b a) (p:w.length+d.length<=100000000000:=by(try simp only[a4V,a4Y,a5d,a5f, *])<;>omega)
  (o: ∀b a,eC t a (w++d) b->t.sub a->s b a=a7 b a:=by intro b f c r;exact eB):jI 1 1 f n b3 (bO s ()):=
 fj c a9w h a9x a9y a9y λb a c=>by rw[<-a5V]at c;exact(o b a c c.sub).mpr (k b a c c.sub)
def gK {c:List UInt8} (d:eC t e4 w n) (h:eC e4 f c b3) (k: ∀b a,eC t a (w++c) b->t.sub a->a7 b a) (o:w.length+c.length<=100000000000:=by(try simp only[a4V,a4Y,a5d,a5f, *])<;>omega)
  (p: ∀b a,eC t a (w++c) b->t.sub a->s b a=a7 b a:=by intro b f d r;exact eB):jI 1 1 f n b3 (bO s ()):=tY (d.mono h.sub) h.lY k o p
def pa (b:List UInt8) (o: ∀c a,eC f a b c->f.sub a->a7 c a) (z:g=b.map ak:=by first|rfl|simp) (p:g.length<=1000000000000:=by(try simp only[a4V,a4Y,a5d,a5f, *])<;>omega)
  (r: ∀c a,eC f a b c->f.sub a->s c a=a7 c a:=by intro c f d E;exact eB):o2 1 f g (bO s ()):=by
 have h:=λc a d=>(r c a d d.sub).mpr (o c a d d.sub);subst z;rw[a5f]at p;by_cases k:b= []
 .subst k;rw[a6I,o3];exact h _ _ (av.zero U.a1)
 .refine eK (by intro F C;obtain⟨_,_,rfl⟩:=a5o.1 C;rfl) (by simpa using k) λD x=>h _ _ ?_;have y:flat (b.map ak)=b.map ak:=by
   clear h o r k p
   induction b with
   |nil=>rfl
   |cons G b ih=>simp only[a5r,flat,a5v]at ih|-;rw[ih];rfl
  refine⟨U.ae U.a1 x,.inr ⟨D,b.length,b.length,_,a9x,x,U.ag _ _ _,?_,?_,a9x,a9w,by simp only[maxLen];omega⟩⟩
  .rw[y];simp
  .rw[y,a4U a9x]
def eo {d:R->U->Prop} (c:AC K.p b5 g f s) (h: ∀a b,s a b->d a b) (k: ∀a b,s a b->a7 a b=d a b:=by intro a f c;exact eB):nZ K b5 g f (bO a7 ()):=ai c λa b c=>(k a b c).mpr (h a b c)
end
section
def x5 {c:Nat->Prop}{x y:br} (z: ∀a,f a=none->a≠e->e≠a->a≠i->i≠a->a≠v->v≠a->c a) (C: ∀a,f a=none->a≠e->e≠a->a≠i->i≠a->a≠v->v≠a->j5 a=c a:=by intros;exact eB):iY (((f.set e Y).set i x).set v y) (bZ j5 ()):=λa b=>by
 obtain⟨b,d,h⟩:=U.set_nil b;obtain⟨b,k,o⟩:=U.set_nil b;obtain⟨b,p,r⟩:=U.set_nil b;exact(C a b p r k o d h).mpr (z a b p r k o d h)
def Xi {c:Nat->Prop}{z C D:br} (E: ∀a,f a=none->a≠e->e≠a->a≠i->i≠a->a≠v->v≠a->a≠O->O≠a->c a) (F: ∀a,f a=none->a≠e->e≠a->a≠i->i≠a->a≠v->v≠a->a≠O->O≠a->j5 a=c a:=by intros;exact eB):iY ((((f.set e Y).set i z).set v C).set O D) (bZ j5 ()):=λa b=>by
 obtain⟨b,d,h⟩:=U.set_nil b;obtain⟨b,k,o⟩:=U.set_nil b;obtain⟨b,p,r⟩:=U.set_nil b;obtain⟨b,x,y⟩:=U.set_nil b;exact(F a b x y p r k o d h).mpr (E a b x y p r k o d h)
def jL {v:R} (c: ∀a,f a=none->j5 a) (d:aS e (v::g):=by simp[aS,R.cells, *]) (h: ∀a,f a=none->s (.J (v::g) (.buf a (v::g).length)) (f.set a (.buf e (v::g).length (v::g).length))=j5 a:=by intros;exact eB):jH e f (v::g) (bO s ()):=by refine⟨d,?_⟩;rw[if_neg a9x];intro a b;exact(h a b).mpr (c a b)
def Xj {v:R} (h: ∀a,f a=none->a≠e->e≠a->j5 a) (k:aS i (v::g):=by simp[aS,R.cells, *]) (o: ∀a,f a=none->a≠e->e≠a->s (.J (v::g) (.buf a (v::g).length)) ((f.set e Y).set a (.buf i (v::g).length (v::g).length))=j5 a:=by intros;exact eB):jH i (f.set e Y) (v::g) (bO s ()):=by refine⟨k,?_⟩;rw[if_neg a9x];intro a b;obtain⟨b,c,d⟩:=U.set_nil b;exact(o a b c d).mpr (h a b c d)
def tZ {v:R}{c:br} (p: ∀a,f a=none->a≠e->e≠a->a≠i->i≠a->j5 a) (r:aS O (v::g):=by simp[aS,R.cells, *]) (x: ∀a,f a=none->a≠e->e≠a->a≠i->i≠a->s (.J (v::g) (.buf a (v::g).length)) (((f.set e Y).set i c).set a (.buf O (v::g).length (v::g).length))=j5 a:=by intros;exact eB):jH O ((f.set e Y).set i c) (v::g) (bO s ()):=by refine⟨r,?_⟩;rw[if_neg a9x];intro a b;obtain⟨b,d,h⟩:=U.set_nil b;obtain⟨b,k,o⟩:=U.set_nil b;exact(x a b k o d h).mpr (p a b k o d h)
def Xk {c:Nat}{v:R}{d h k o:br} (L: ∀a,f a=none->a≠e->e≠a->a≠i->i≠a->a≠O->O≠a->a≠b8->b8≠a->a≠j0->j0≠a->j5 a) (P:aS c (v::g):=by simp[aS,R.cells, *]) (S: ∀a,f a=none->a≠e->e≠a->a≠i->i≠a->a≠O->O≠a->a≠b8->b8≠a->a≠j0->j0≠a->s (.J (v::g) (.buf a (v::g).length)) ((((((f.set e Y).set i d).set O h).set b8 k).set j0 o).set a (.buf c (v::g).length (v::g).length))=j5 a:=by intros;exact eB):jH c (((((f.set e Y).set i d).set O h).set b8 k).set j0 o) (v::g) (bO s ()):=by refine⟨P,?_⟩;rw[if_neg a9x];intro a b;obtain⟨b,p,r⟩:=U.set_nil b;obtain⟨b,x,y⟩:=U.set_nil b;obtain⟨b,z,C⟩:=U.set_nil b;obtain⟨b,D,E⟩:=U.set_nil b;obtain⟨b,F,G⟩:=U.set_nil b;exact(S a b F G D E z C x y p r).mpr (L a b F G D E z C x y p r)
def Xl {d:Nat}{v:R}{c:Nat}{h k o p r:br} (V: ∀a,f a=none->a≠e->e≠a->a≠i->i≠a->a≠O->O≠a->a≠b8->b8≠a->a≠j0->j0≠a->a≠c->c≠a->j5 a) (W:aS d (v::g):=by simp[aS,R.cells, *]) (j: ∀a,f a=none->a≠e->e≠a->a≠i->i≠a->a≠O->O≠a->a≠b8->b8≠a->a≠j0->j0≠a->a≠c->c≠a->s (.J (v::g) (.buf a (v::g).length)) (((((((f.set e Y).set i h).set O k).set b8 o).set j0 p).set c r).set a (.buf d (v::g).length (v::g).length))=j5 a:=by intros;exact eB):jH d ((((((f.set e Y).set i h).set O k).set b8 o).set j0 p).set c r) (v::g) (bO s ()):=by refine⟨W,?_⟩;rw[if_neg a9x];intro a b;obtain⟨b,x,y⟩:=U.set_nil b;obtain⟨b,z,C⟩:=U.set_nil b;obtain⟨b,D,E⟩:=U.set_nil b;obtain⟨b,F,G⟩:=U.set_nil b;obtain⟨b,L,P⟩:=U.set_nil b;obtain⟨b,S,T⟩:=U.set_nil b;exact(j a b S T L P F G D E z C x y).mpr (V a b S T L P F G D E z C x y)
def lZ (a:AC K.p b5 (g++e0++B) f λb c=>c=f/\b=n) (d:N) (h:gf K.p b5=true:=by kernel_rfl) (k:s n f=N:=by exact eB):wS K (.bF b5 g B) e0 f (bO s ()):=
 fH h a λ_ _ a=>by rw[a.1,a.2];exact k.mpr d
end
section
theorem x6 {r:dH}{h:Fr}{k:List Nat}{x:b0->List (Nat×R)}{y:b0->U->Prop} (z: ∀c∈wr h6,c∈k) (D:hr k h j) (o:List Nat) (V:o.all (λc=> !k.contains c)=true)
  (E:bS K h6 (eR (λa b=> ∃C,y C b/\gI a (x C)) e8) j f) (F: ∀d b,y d b-> ∀a,bS K r e8 (gV (gV a (keeps h o)) (x d)) b):bS K h6 (eR (bS K r e8) e8) j f:=by
 refine jb h6 (λG a b p=> ?_) j f (o5 h6 z j f D E);cases G with
 |norm=>
  obtain⟨⟨d,L,P⟩,S⟩:=p;have T:gI a (keeps h o):=x3 λc W=>S c λz=>by
   simp_all
  have:=F d b L a;rw[sc T,sc P]at this;exact this
 |exit e=>exact p.1
 |ret=>exact p.1
def pb {h:dH} (b:List Nat) (k:b0->List (Nat×R)) (o:b0->U->Prop)
  (x:bS K h6 (eR (λc a=> ∃p,o p a/\gI c (k p)) e8) j f) (d: ∀r a,o r a-> ∀c,bS K h e8 (gV (gV c (keeps j b)) (k r)) a) (y:b.all (λz=> !(wr h6).contains z)=true:=by kernel_rfl):bS K (.seq h6 h) e8 j f:=
 x6 (k:=wr h6) (λ_ d=>d) (λ_ _=>rfl) b y x d
def o7 {h k:dH}{z:cA (bS K h (eR (bS K h6 e8) e8) j f)}{C:cA (bS K k (eR (bS K h6 e8) e8) j f)} (o:List Nat) (p:b0->List (Nat×R)) (r:b0->U->Prop)
  (D:I=true->bS K h (eR (λc a=> ∃d,r d a/\gI c (p d)) e8) j f) (E:I=false->bS K k (eR (λc a=> ∃d,r d a/\gI c (p d)) e8) j f) (b: ∀x a,r x a-> ∀c,bS K h6 e8 (gV (gV c (keeps j o)) (p x)) a) (y:o.all (λI=> !(wr h++wr k).contains I)=true:=by kernel_rfl):
  kt (.v (.bool I)) (cu (bS K h (eR (bS K h6 e8) e8) j f) z) (cu (bS K k (eR (bS K h6 e8) e8) j f) C):=
 ⟨λh6=>x6 (λ_ b=>a7f _ b) (λ_ _=>rfl) o y (D h6) b,λh6=>x6 (λ_ b=>a7a _ b) (λ_ _=>rfl) o y (E h6) b⟩
end
def Cq (a:N=b4:=by first|(simp -dsimp -implicitDefEqProofs (disch:=first|omega|assumption|exact U.tS a9z a9z|(simp only[bk,Nat.reduceAdd];try omega)) only[Xa,o3,go_sem,simprocAttr,-List.reduceReplicate,↓eL,tT,tR, *]<;>rfl)|rfl):N=b4:=a
def pc (a:e<=i:=by first|omega|((try simp only[a4V,a4Y,a5d,a5f,a4W,a5k, *])<;>omega)):e<=i:=a
def rd (a:f.sub t) (b:f e=some (.cells g)):t.read e=some g:=U.af (a _ _ b)
theorem Cr {v:R} (b:aS e g) (h:v.cells.length=e):aS e (g++ [v]):=λc d=>by
 rcases a5j.1 d with a|a
 .exact b c a
 grind
def Cs:aS e []:=λ_ a=>by cases a
theorem bh.o8 (r:bh t f e g M): ∃d:U,bh d f e g M/\d.sub f/\t.sub d/\ ∀a,(∀b o,M= .buf b o->b≠a)->d a=f a:=by
 obtain⟨k,h⟩:=r;cases M with
 |buf b o=>
  have p:(f.del b).sub f:=λa M c=>by
   grind[U.ir,U.eI]
  refine⟨f.del b,⟨p,U.ir _ _,h.2⟩,p,λa M c=> ?_,λa c=>U.eI _ (a5c (c _ _ rfl))⟩;have x:a≠b:=by rintro rfl;rw[h.1]at c;cases c
  rw[U.eI _ x];exact k _ _ c
 |any=>trivial
 |nil=>exact⟨f,⟨U.a1,h⟩,U.a1,k,λ_ _=>rfl⟩
 |zero=>exact⟨f,⟨U.a1,h⟩,U.a1,k,λ_ _=>rfl⟩
def sf {k:cA s} (d:bh t f e g M) (o:aS e g) (p:aS e B) (r:(g.length+B.length)*i<=140737488355328) (x:g.length+B.length<=9223372036854775807)
  (y: ∀b a,bh t a e (g++B) b->iv f a->s (.J (g++B) b) a):lV e i f (.J g M) (.J B e6) (bO s k):=by
 obtain⟨G,z,L,C,D⟩:=d.o8;refine ea z o p r x λb a h=>y b a (h.base C) λE P c=>h.sub _ _ ?_;rw[D E (λS T F=>by subst F;rintro rfl;rw[d.2.2]at c;cases c)];exact c
section
def hP {v:R}{k:Nat->R->U->Prop}{o:Nat->Own->U->Prop} (p:bh t f e g M) (y:aS e g) (z: ∀a c b,bh t b e (g++ [v]) c->iv f b->o a c b)
  (C:N=jH e f [v] (bO s ()):=by exact hN)
  (D: ∀a,f a=none->s (.J [v] (.buf a 1)) (f.set a (.buf e 1 1))=lV e i (f.set a (.buf e 1 1)) (.J g M) (.J [v] (.buf a 1)) (bO (k a) ()):=by intro a d;exact eB)
  (E: ∀a c b,bh t b e (g++ [v]) c->k a (.J (g++ [v]) c) b=o a c b:=by intro a c b p;exact hN)
  (r:v.cells.length=e:=by first|rfl|assumption|simp[R.cells, *]) (P:g.length<=1000000000:=by exact pc) (F:i<=10000:=by decide):N:=by
 rw[C];refine⟨λG h=>by rw[a5p.1 h];exact r,?_⟩;rw[if_neg a9x];intro a d;refine(D a d).mpr (sf (p.mono (U.ae U.a1 d)) y (λG h=>by rw[a5p.1 h];exact r) ?_ ?_ λc b x L=>(E a c b x).mpr (z a c b x ((U.qA (U.ae U.a1 d)).trans L)))
 .exact a5R (a8s (show g.length+1<=1000000001 by omega) F) a9A
 .simp;omega
def Xm:aS 1 (w.map ak):=λb a=>by obtain⟨_,_,rfl⟩:=a5o.1 a;rfl
def Xn {d:UInt8}{k:Nat->R->U->Prop}{o:Nat->Own->U->Prop} (p:bh t f 1 (w.map ak) M) (x: ∀a c b,bh t b 1 ((w++ [d]).map ak) c->iv f b->o a c b)
  (y:N=jH 1 f [ak d] (bO s ()):=by exact hN)
  (z: ∀a,f a=none->s (.J [ak d] (.buf a 1)) (f.set a (.buf 1 1 1))=lV 1 e (f.set a (.buf 1 1 1)) (.J (w.map ak) M) (.J [ak d] (.buf a 1)) (bO (k a) ()):=by intro a G;exact eB)
  (C: ∀a c b,bh t b 1 ((w++ [d]).map ak) c->k a (.J ((w++ [d]).map ak) c) b=o a c b:=by intro a c b p;exact hN)
  (D:w.length<=1000000000:=by exact pc) (E:e<=10000:=by decide):N:=by
 have r:w.map ak++ [ak d]=(w++ [d]).map ak:=by rw[a5V];rfl
 refine hP p Xm (λa c b h F=>x a c b (r▸h) F) y z (λa c b h=> ?_) rfl (by rw[a5f];exact D) E;rw[r]at h|-;exact C a c b h
def ky {c:Own->U->Prop} (d:bh t f e g M) (k:aS e g) (o:aS e B) (p: ∀b a,bh t a e (g++B) b->iv f a->c b a)
  (r:N=lV e i f (.J g M) (.J B e6) (bO s ()):=by exact hN) (x: ∀b a,bh t a e (g++B) b->s (.J (g++B) b) a=c b a:=by intro b a d;exact hN)
  (y:g.length+B.length<=1000000000:=by exact pc) (z:i<=10000:=by decide):N:=by
 rw[r];refine sf d k o (a5R (a8s y z) a9A) a9w λb a h C=>(x b a h).mpr (p b a h C)
def sg {c:Own->U->Prop} (h:aS e g) (k: ∀a b,bh f b e g a->c a b)
  (o:N=lV e i f (.J [] M) (.J g e6) (bO s ()):=by exact Cq) (p:M= .nil\/M= .zero:=by first|exact .inl rfl|exact .inr rfl) (r: ∀a b,bh f b e g a->s (.J g a) b=c a b:=by intro a b d;exact hN)
  (x:g.length<=1000000000:=by exact pc) (y:i<=10000:=by decide):N:=
 ky (t:=f) (c:=c) (by rcases p with rfl|rfl;exact bh.nil U.a1;exact bh.zero U.a1) Cs h (λa b d _=>k a b d) o r (by simpa using x) y
def qC (c:av t f e B n) (k:bN f e b3=some (v,g)) (o: ∀a b,av t b e (B++g) a->a7 a b)
  (p:N=jI e i f n b3 (bO s ()):=by exact hN) (r: ∀a b,av t b e (B++g) a->s a b=a7 a b:=by intro a b c;exact hN)
  (d:0<e:=by decide) (x:g.length=v*e:=by first|rfl|omega|simp) (y:B.length+g.length<=1000000000:=by exact pc) (z:i<=10000:=by decide):N:=by
 rw[p];refine fj c d k x (a5R (a8s y z) (a5R a9A (a8M _ d))) a9w λa b h=>(r a b h).mpr (o a b h)
def u0 (c:bN f e n=some (v,g)) (d: ∀a b,av f b e g a->a7 a b)
  (h:N=jI e i f (.J [] M) n (bO s ()):=by exact Cq) (k:M= .nil\/M= .zero:=by first|exact .inl rfl|exact .inr rfl) (o: ∀a b,av f b e g a->s a b=a7 a b:=by intro a b z;exact hN)
  (p:0<e:=by decide) (r:g.length=v*e:=by first|rfl|omega|simp) (x:g.length<=1000000000:=by exact pc) (y:i<=10000:=by decide):N:=
 qC (B:= []) (t:=f) (by rcases k with rfl|rfl;exact av.nil U.a1;exact av.zero U.a1) c d h o p r (by simpa using x) y
def Xo {v:R}{h k:Nat->R->U->Prop} (o:av t f 1 g n) (r: ∀a b c,av t c 1 (g++ [v]) b->h a b c) (x:N=o2 1 f [v] (bO s ()):=by exact hN)
  (y: ∀a,f a=none->s (.an a 1 1 1) (f.set a (.cells [v]))=jI 1 e (f.set a (.cells [v])) n (.an a 1 1 1) (bO (k a) ()):=by intro a d;exact eB)
  (z: ∀a b c,av t c 1 (g++ [v]) b->k a b c=h a b c:=by intro a b c o;exact hN) (p:v.cells= [v]:=by first|rfl|assumption) (C:g.length+1<=1000000000:=by exact pc) (D:e<=10000:=by decide):N:=by
 have E:flat [v]= [v]:=by simp[flat,p]
 rw[x];refine eK (λG F=>by rw[a5p.1 F,p];rfl) a9x λa d=> ?_;rw[E];refine(y a d).mpr (qC (o.mono (U.ae U.a1 d)) ?_ (r a) rfl (z a) a9A rfl C D);simp[bN,U.read,U.set]
end
end Go.bz
set_option maxRecDepth 100000
namespace Go.Proofs.YtlgnfcaolejgeaaGreat
open Go Go.bz
def rotl (a:UInt32) (b:Nat):UInt32:=a<<<UInt32.ofNat b|||a>>>UInt32.ofNat (32 - b)
def Xp (a:Nat) (b:0<a/\a<32):bn .and (.int .u64 (IntKind.u64.wrap (-((32 - a:Nat):Int)))) (.int .u64 31)=some (.int .u64 a):=by have c: ∀a:Fin 32,0<a.val->IntKind.u64.wrap (BitVec.ofInt IntKind.u64.bits (IntKind.u64.wrap (-((32 - a.val:Nat))))&&&BitVec.ofInt IntKind.u64.bits 31).toNat=(a.val):=a9A;have:=c ⟨a,b.2⟩ b.1;simp only[bn,ft,hF,this];rfl
theorem Xq (c:UInt32) (a:Nat) (d:0<a/\a<32) (b:U):AC Tryz.prog 323 [.v (.int .u32 c.toNat),.v (.int .i64 (-((32 - a:Nat):Int)))] b λh k=>k=b/\h= .v (.int .u32 (rotl c a).toNat):=by refine bd hm Sb a9x ?_;refine aE (Xp a d) ?_;refine⟨b,U.a1,rfl,?_⟩;grind[rotl]
def ma (b:UInt32) (d:Int) (a:Nat) (h:0<a/\a<32) (k:d= -((32 - a:Nat):Int)) (c:U):AC Tryz.prog 323 [.v (.int .u32 b.toNat),.v (.int .i64 d)] c λo p=>p=c/\o= .v (.int .u32 (rotl b a).toNat):=by subst k;exact Xq b a h c
def word (a:List UInt8) (b:Nat):UInt32:=(a.getD (4*b) 0).toUInt32<<<24|||(a.getD (4*b+1) 0).toUInt32<<<16|||(a.getD (4*b+2) 0).toUInt32<<<8|||(a.getD (4*b+3) 0).toUInt32
def Xr (a:UInt32):UInt32:=rotl a 25^^^rotl a 14^^^a>>>3
def Xs (a:UInt32):UInt32:=rotl a 15^^^rotl a 13^^^a>>>10
def more (a:List UInt32):List UInt32:=a++ [a.getD (a.length - 16) 0+Xr (a.getD (a.length - 15) 0)+a.getD (a.length - 7) 0+Xs (a.getD (a.length - 2) 0)]
def first (a:List UInt8) (b:Nat):List UInt32:=(List.range b).map (word a)
def grow:Nat->List UInt32->List UInt32
 |0,a=>a
 |b+1,a=>grow b (more a)
def sched (a:List UInt8):List UInt32:=grow 48 (first a 16)
def ef (a:List UInt32):List R:=a.map (λb=> .v (.int .u32 b.toNat))++List.replicate (64 - a.length) (.v (.int .u32 0))
def Xt:ef []=List.replicate 64 (.v (.int .u32 0)):=by rfl
variable{h5:List UInt32}
def sh (a:h5.length<=64):(ef h5).length=64:=by simp[ef];omega
variable{e i v O b8 j0:Nat}
theorem x7 (a:UInt32) (b:e=h5.length) (d:h5.length<64):putAt (ef h5) e [.v (.int .u32 a.toNat)]=ef (h5++ [a]):=by subst b;have c:64 - h5.length=(64 -(h5.length+1))+1:=a9w;simp only[putAt,ef,c,a7h];grind
theorem lg (a:e<h5.length):aX false 1 ((ef h5).drop e)= .v (.int .u32 (h5.getD e 0).toNat):=by grind[aX,ef,List.map_drop,List.drop_eq_getElem_cons,List.getD]
theorem Xu (c:List UInt8) (V:Own) (i:c.length=64) (D:U):AC Tryz.prog 321 [.J (c.map ak) V] D λj r=>r=D/\j= .agg ((sched c).map λP=> .v (.int .u32 P.toNat)):=by
 refine bd hm S7 a9x ?_;refine eA ?_;refine aN λF l=> ?_;refine eA ?_;refine aN λG S=> ?_;obtain⟨s,S⟩:=U.gH S;refine eA ?_;refine cr (λb r=> ∃a:Nat,a<=16/\b 0= .J (c.map ak) V/\b 2= .ptr F 0/\b 3= .ptr G 0/\b 10= .v (.int .i64 a)/\r=(D.set F (.cells (List.replicate 64 (.v (.int .u32 0))))).set G (.cells (ef (first c a))))
  (λb _=>match b 10 with| .v (.int _ T)=>(16 - T).toNat| _=>0) ⟨0,a9w,?_⟩ ?_
 .simp -dsimp -implicitDefEqProofs (disch:=first|omega|assumption|(simp only[bk,Nat.reduceAdd];try omega)) only[go_sem,↓reduceIte,Nat.reduceEqDiff,Nat.reduceAdd,Nat.reduceSub,Nat.reduceMul,Nat.reduceLeDiff,Nat.reduceLT,Int.reduceNeg,Int.reduceToNat,Int.reduceAdd,Int.reduceSub,Int.reduceMul,Int.reduceLT,Int.reduceLE,Int.reduceEq,Int.reduceNe,first,List.range_zero,Xt]
  all_goals (simp)
 .rintro b r ⟨a,m,W,d,h,e,rfl⟩;have f:(first c a).length=a:=by simp[first]
  by_cases k:(a:Int)<16
  .have o:(ef (first c a)).length=64:=sh a9w;have n:(4*(a:Int)).toNat=4*a:=a9w;have x:(4*(a:Int)+1).toNat=4*a+1:=a9w;have y:(4*(a:Int)+2).toNat=4*a+2:=a9w;have z:(4*(a:Int)+3).toNat=4*a+3:=a9w;have t:(a:Int).toNat+1<=64:=a9w;refine aE (gj @W @d @h @e @k @o @i @n @x @y @z) ?_;rw[x7 _ f.symm a9w];refine⟨⟨a+1,a9w,a9x,?_⟩,a9w⟩;simp only[first,a8R,a5V,a5r,a6I];rfl
  .obtain rfl:a=16:=a9w;refine aE (bm @W @d @h @e @k) ?_;refine cr (λb r=> ∃(p:List UInt32) (a:Nat),a<=48/\p.length=16+a/\grow (48 - a) p=sched c/\b 2= .ptr F 0/\b 3= .ptr G 0/\b 5= .v (.int .i64 ((16+a:Nat)))/\r=(D.set F (.cells (List.replicate 64 (.v (.int .u32 0))))).set G (.cells (ef p)))
    (λb _=>match b 5 with| .v (.int _ T)=>(64 - T).toNat| _=>0) ⟨first c 16,0,a9w,f,rfl,?_⟩ ?_
   .simp -dsimp -implicitDefEqProofs (disch:=first|omega|assumption|(simp only[bk,Nat.reduceAdd];try omega)) only[go_sem,↓reduceIte,Nat.reduceEqDiff,Nat.reduceAdd,Nat.reduceSub,Nat.reduceMul,Nat.reduceLeDiff,Nat.reduceLT,Int.reduceNeg,Int.reduceToNat,Int.reduceAdd,Int.reduceSub,Int.reduceMul,Int.reduceLT,Int.reduceLE,Int.reduceEq,Int.reduceNe,d,h,grow];rfl
   .rintro b r ⟨p,a,m,L,g,d,h,C,rfl⟩;by_cases k:((16+a:Nat):Int)<64
    .have o:(ef p).length=64:=sh a9w;have x:(((16+a:Nat):Int) - 15).toNat=a+1:=a9w;have y:(((16+a:Nat):Int) - 2).toNat=a+14:=a9w;have z:(((16+a:Nat):Int) - 16).toNat=a:=a9w;have E:(((16+a:Nat):Int) - 7).toNat=a+9:=a9w;refine aE (cf @d @h @C @k @x @y @z @E @o @lg) ?_;refine ai (ma _ _ 25 a9A a9A _) ?_;rintro _ _ ⟨rfl,rfl⟩;refine aE (cf @d @h @C @k @x @y @z @E @o @lg) ?_;refine ai (ma _ _ 14 a9A a9A _) ?_;rintro _ _ ⟨rfl,rfl⟩;refine aE (cf @d @h @C @k @x @y @z @E @o @lg) ?_;refine ai (ma _ _ 15 a9A a9A _) ?_;rintro _ _ ⟨rfl,rfl⟩;refine aE (cf @d @h @C @k @x @y @z @E @o @lg) ?_;refine ai (ma _ _ 13 a9A a9A _) ?_;rintro _ _ ⟨rfl,rfl⟩;refine aE (cf @d @h @C @k @x @y @z @E @o @lg) ?_;rw[x7 _ L.symm a9w];refine⟨⟨_,a+1,a9w,by simp[L];omega,?_,?_,rfl⟩,a9w⟩
     .rw[<-g,show 48 - a=(48 -(a+1))+1 by omega,grow,more,L];rw[show 16+a - 16=a by omega,show 16+a - 15=a+1 by omega,show 16+a - 7=a+9 by omega,show 16+a - 2=a+14 by omega];rfl
     .simp;omega
    .obtain rfl:a=48:=a9w;have o:(ef p).length=64:=sh a9w;have q:(ef p).take 64=p.map λP=> .v (.int .u32 P.toNat):=by grind[ef,List.take_of_length_le]
     have u:p=sched c:=g;refine aE (c6 @d @h @C @k @o @q @L) ?_;exact⟨D,U.ae (U.ae U.a1 l) S,rfl,by grind⟩
def wl (a:List UInt32):List R:=a.map λb=> .v (.int .u32 b.toNat)
theorem eM:(wl h5).length=h5.length:=by simp[wl]
theorem ht (a:e<h5.length):aX false 1 ((wl h5).drop e)= .v (.int .u32 (h5.getD e 0).toNat):=by simp only[aX,wl];simp_all
def pd (a:0<h5.length):aX false 1 (wl h5)= .v (.int .u32 (h5.getD 0 0).toNat):=ht (e:=0) a
def Ct (a:UInt32) (b:e<h5.length):putAt (wl h5) e [.v (.int .u32 a.toNat)]=wl (h5.set e a):=by simp only[putAt,wl,a4Y,a5d,<-a8w,<-a7M];rw[a6k,if_pos b];simp
def mY:List UInt32:= [
 0x428a2f98,0x71374491,0xb5c0fbcf,0xe9b5dba5,0x3956c25b,0x59f111f1,0x923f82a4,0xab1c5ed5,
 0xd807aa98,0x12835b01,0x243185be,0x550c7dc3,0x72be5d74,0x80deb1fe,0x9bdc06a7,0xc19bf174,
 0xe49b69c1,0xefbe4786,0x0fc19dc6,0x240ca1cc,0x2de92c6f,0x4a7484aa,0x5cb0a9dc,0x76f988da,
 0x983e5152,0xa831c66d,0xb00327c8,0xbf597fc7,0xc6e00bf3,0xd5a79147,0x06ca6351,0x14292967,
 0x27b70a85,0x2e1b2138,0x4d2c6dfc,0x53380d13,0x650a7354,0x766a0abb,0x81c2c92e,0x92722c85,
 0xa2bfe8a1,0xa81a664b,0xc24b8b70,0xc76c51a3,0xd192e819,0xd6990624,0xf40e3585,0x106aa070,
 0x19a4c116,0x1e376c08,0x2748774c,0x34b0bcb5,0x391c0cb3,0x4ed8aa4a,0x5b9cca4f,0x682e6ff3,
 0x748f82ee,0x78a5636f,0x84c87814,0x8cc70208,0x90befffa,0xa4506ceb,0xbef9a3f7,0xc67178f2]
def gm:List UInt32:= [0x6a09e667,0xbb67ae85,0x3c6ef372,0xa54ff53a,0x510e527f,0x9b05688c,0x1f83d9ab,0x5be0cd19]
def x8 (a:U):AC Tryz.prog 270 [] a λb c=>c=a/\b= .agg (wl gm):=by refine bd hm R4 a9x ?_;refine eA ?_;refine aN λh d=> ?_;simp -dsimp -implicitDefEqProofs (disch:=first|omega|assumption|(simp only[bk,Nat.reduceAdd];try omega)) only[go_sem,simprocAttr,putAt,List.take,List.drop,List.replicate,a6h,a5m];exact⟨a,U.ae U.a1 d,rfl,rfl⟩
def Xv (a:U):AC Tryz.prog 322 [] a λb c=>c=a/\b= .agg (wl mY):=by refine bd hm S9 a9x ?_;refine eA ?_;refine aN λh d=> ?_;simp -dsimp -implicitDefEqProofs (disch:=first|omega|assumption|(simp only[bk,Nat.reduceAdd];try omega)) only[go_sem,simprocAttr,putAt,List.take,List.drop,List.replicate,a6h,a5m];exact⟨a,U.ae U.a1 d,rfl,rfl⟩
def si (p r:UInt32):List UInt32->List UInt32
 | [a,c,d,x,b,h,k,y]=>
  let o:=y+(rotl b 26^^^rotl b 21^^^rotl b 7)+(b&&&h^^^ ~~~b&&&k)+p+r
  let z:=(rotl a 30^^^rotl a 19^^^rotl a 10)+(a&&&c^^^a&&&d^^^c&&&d)
  [o+z,a,c,d,x+o,b,h,k]
 |C=>C
def ix:List UInt32->List UInt32->List UInt32->List UInt32
 |a::bH,b::ws,v=>ix bH ws (si a b v)
 | _,_,v=>v
def comp (a:List UInt32) (b:List UInt8):List UInt32:=List.zipWith (·+ ·) (ix mY (sched b) a) a
def jM (a:Nat) (v b:List UInt32):List UInt32:=List.zipWith (·+ ·) (v.take a) (b.take a)++v.drop a
def Cu: ∀(a:Nat) (b:List UInt32),(grow a b).length=b.length+a
 |0,b=>rfl
 |a+1,b=>by rw[grow,Cu a,more];simp;omega
def Xw (a:List UInt8):(sched a).length=64:=by simp[sched,Cu,first]
def Xx (a:List UInt8) (c:Own) (d:a.length=64) (b:U):AC Tryz.prog 321 [.J (a.map ak) c] b λh k=>k=b/\h= .agg (wl (sched a)):=Xu a c d b
def Cv (v b:List UInt32) (c:v.length=8) (d:b.length=8) (a:Nat) (h:a<8):
  (jM a v b).length=8/\(jM a v b).set a ((jM a v b).getD a 0+b.getD a 0)=jM (a+1) v b:=by
 match v,c,b,d with
 | [k,o,p,r,x,y,z,C],_,[D,E,F,G,L,P,S,T],_=>rcases(by omega:a=0\/a=1\/a=2\/a=3\/a=4\/a=5\/a=6\/a=7)with rfl|rfl|rfl|rfl|rfl|rfl|rfl|rfl<;>exact⟨rfl,rfl⟩
def Xy (a b:UInt32) (v:List UInt32) (c:v.length=8):(si a b v).length=8:=by
 match v,c with
 | [d,h,k,o,p,r,x,a],_=>rfl
def Cw: ∀(a b v:List UInt32),v.length=8->(ix a b v).length=8
 | [],_,v,c=>by trivial
 | _:: _,[],v,c=>by trivial
 |d::a,h::b,v,c=>by rw[ix];exact Cw a b _ (Xy d h v c)
theorem Cx (b c v:List UInt32) (a:Nat) (d:a<b.length) (h:a<c.length):ix (b.drop a) (c.drop a) v=ix (b.drop (a+1)) (c.drop (a+1)) (si (b.getD a 0) (c.getD a 0) v):=by grind[List.drop_eq_getElem_cons,ix,List.getD]
theorem Xz (c x y:List UInt32) (I:List UInt8) (K:Own) (t:c.length=8) (N:x.length=64) (O:y.length=64)
  (Q: ∀o,AC Tryz.prog 322 [] o λT p=>p=o/\T= .agg (wl x))
  (X: ∀o,AC Tryz.prog 321 [.J (I.map ak) K] o λT p=>p=o/\T= .agg (wl y)) (o:U):
  AC Tryz.prog 271 [.agg (wl c),.J (I.map ak) K] o λT p=>p=o/\T= .agg (wl (List.zipWith (·+ ·) (ix x y c) c)):=by
 refine bd hm R6 a9x ?_;have z:(wl c).length=8:=by rw[eM,t]
 have C:(wl x).length=64:=by rw[eM,N]
 have D:(wl y).length=64:=by rw[eM,O]
 refine aE @z ?_;refine aN λW Y=> ?_;refine aE @z ?_;refine aN λe u=> ?_;obtain⟨k6,u⟩:=U.gH u;refine aE @z ?_;refine ai (X _) ?_;rintro _ _ ⟨rfl,rfl⟩;refine aE @z ?_;refine ai (Q _) ?_;rintro _ _ ⟨rfl,rfl⟩;refine aE @z ?_;refine aN λw V=> ?_;obtain⟨k7,V⟩:=U.gH V;obtain⟨k8,V⟩:=U.gH V;refine aE @z ?_;refine aN λA S=> ?_;obtain⟨k9,S⟩:=U.gH S;obtain⟨l0,S⟩:=U.gH S;obtain⟨l1,S⟩:=U.gH S;refine aE @z ?_;refine aN λf E=> ?_;obtain⟨l2,E⟩:=U.gH E;obtain⟨l3,E⟩:=U.gH E;obtain⟨l4,E⟩:=U.gH E;obtain⟨l5,E⟩:=U.gH E;refine aE (aJ @z @C @D @a4U.{0}) ?_;refine cr (λb p=> ∃(a:Nat) (v:List UInt32),a<=64/\v.length=8/\ix (x.drop a) (y.drop a) v=ix x y c/\b 2= .ptr W 0/\b 4= .ptr e 0/\b 5= .ptr w 0/\b 6= .ptr A 0/\b 7= .ptr f 0/\b 18= .v (.int .i64 a)/\
   p=(((((o.set W (.cells (wl c))).set e (.cells (List.replicate 8 (.v (.int .u32 0))))).set w (.cells (wl y))).set A (.cells (wl x))).set f (.cells (wl v))))
  (λb _=>match b 18 with| .v (.int _ B)=>(64 - B).toNat| _=>0) ⟨0,c,a9w,t,rfl,?_⟩ ?_
 .exact qx
  all_goals (trivial)
 .rintro b p ⟨a,v,Z,H,j9,d,h,F,G,k,L,rfl⟩;have P:(wl v).length=8:=by rw[eM,H]
  by_cases r:(a:Int)<64
  .obtain⟨g,i,j,l,m,n,q,s,rfl⟩: ∃g i j l m n q s,v= [g,i,j,l,m,n,q,s]:=by
    match v,H with
    | [g,i,j,l,m,n,q,s],_=>simp
   refine aE (gk @d @h @F @G @k @L @r @P @C @D @ht @pd @a5B.{0} @a5F.{0}) ?_;refine ai (ma _ _ 26 a9A a9A _) ?_;rintro _ _ ⟨rfl,rfl⟩;refine aE (gk @d @h @F @G @k @L @r @P @C @D @ht @pd @a5B.{0} @a5F.{0}) ?_;refine ai (ma _ _ 21 a9A a9A _) ?_;rintro _ _ ⟨rfl,rfl⟩;refine aE (gk @d @h @F @G @k @L @r @P @C @D @ht @pd @a5B.{0} @a5F.{0}) ?_;refine ai (ma _ _ 7 a9A a9A _) ?_;rintro _ _ ⟨rfl,rfl⟩;refine aE (gk @d @h @F @G @k @L @r @P @C @D @ht @pd @a5B.{0} @a5F.{0}) ?_;refine ai (ma _ _ 30 a9A a9A _) ?_;rintro _ _ ⟨rfl,rfl⟩;refine aE (gk @d @h @F @G @k @L @r @P @C @D @ht @pd @a5B.{0} @a5F.{0}) ?_;refine ai (ma _ _ 19 a9A a9A _) ?_;rintro _ _ ⟨rfl,rfl⟩;refine aE (gk @d @h @F @G @k @L @r @P @C @D @ht @pd @a5B.{0} @a5F.{0}) ?_;refine ai (ma _ _ 10 a9A a9A _) ?_;rintro _ _ ⟨rfl,rfl⟩;simp -dsimp -implicitDefEqProofs (disch:=first|omega|assumption|(simp only[bk,Nat.reduceAdd];try omega)) only[go_sem,↓reduceIte,Nat.reduceEqDiff,Nat.reduceAdd,Nat.reduceSub,Nat.reduceMul,Nat.reduceLeDiff,Nat.reduceLT,Int.reduceNeg,Int.reduceToNat,Int.reduceAdd,Int.reduceSub,Int.reduceMul,Int.reduceLT,Int.reduceLE,Int.reduceEq,Int.reduceNe,d,h,F,G,k,L,r,P,C,D,ht,pd,a5B,a5F,putAt,List.take,List.drop,List.replicate,a6h,a5m];refine⟨⟨a+1,si (x.getD a 0) (y.getD a 0) [g,i,j,l,m,n,q,s],a9w,rfl,?_,a9x,rfl⟩,a9w⟩;grind[Cx]
  .obtain rfl:a=64:=a9w;have k0:ix x y c=v:=by rw[<-j9,a6p a9w];rfl
   refine aE (cf @d @h @F @G @k @L @r @P @C @D) ?_;refine cr (λb p=> ∃a:Nat,a<=8/\b 2= .ptr W 0/\b 4= .ptr e 0/\b 7= .ptr f 0/\b 108= .v (.int .i64 a)/\
     p=(((((o.set W (.cells (wl c))).set e (.cells (List.replicate 8 (.v (.int .u32 0))))).set w (.cells (wl y))).set A (.cells (wl x))).set f (.cells (wl (jM a v c)))))
    (λb _=>match b 108 with| .v (.int _ B)=>(8 - B).toNat| _=>0) ⟨0,a9w,?_⟩ ?_
   .refine aE (aH @d @h @k) ?_;rfl
   .rintro b p ⟨a,Z,d,h,k,M,rfl⟩;by_cases r:(a:Int)<8
    .obtain⟨k1,k2⟩:=Cv v c H t a a9w;have k3:(wl (jM a v c)).length=8:=by rw[eM,k1]
     refine aE (cf @d @h @k @M @r @z @k3 @ht @Ct @k2) ?_;grind
    .obtain rfl:a=8:=a9w;have k4:jM 8 v c=List.zipWith (·+ ·) v c:=by grind[jM,List.take_of_length_le,List.drop_of_length_le]
     have k5:(wl (List.zipWith (·+ ·) v c)).length=8:=by rw[eM];simp;omega
     rw[k4];refine aE (c6 @d @h @k @M @r @k5 @a4U.{0}) ?_;refine⟨o,?_,rfl,by rw[k0]⟩;exact U.ae (U.ae (U.ae (U.ae (U.ae U.a1 Y) u) V) S) E
def Cy (b:List UInt32) (a:List UInt8) (c:Own) (h:b.length=8) (k:a.length=64) (d:U):
  AC Tryz.prog 271 [.agg (wl b),.J (a.map ak) c] d λo p=>p=d/\o= .agg (wl (comp b a)):=
 Xz b mY (sched a) a c h rfl (Xw a) Xv (Xx a c k) d
def x9 (a:List UInt32) (c:List UInt8) (b:a.length=8):(comp a c).length=8:=by simp[comp,Cw _ _ _ b,b]
def bytes (a:List UInt8) (b:Own):R:= .J (a.map ak) b
def cx (a:Nat):List UInt8:= [UInt8.ofNat (a>>>56),UInt8.ofNat (a>>>48),UInt8.ofNat (a>>>40),UInt8.ofNat (a>>>32),UInt8.ofNat (a>>>24),UInt8.ofNat (a>>>16),UInt8.ofNat (a>>>8),UInt8.ofNat (a>>>0)]
theorem Cz (b:Nat) (x:U):AC Tryz.prog 272 [.v (.int .u64 b)] x λC h=> ∃c,bh x h 1 ((cx b).map ak) c/\C= .J ((cx b).map ak) c:=by
 refine bd hm R8 a9x ?_;refine eA ?_;refine cr (λd h=> ∃(a:Nat) (c:Own),a<=8/\bh x h 1 (((cx b).take a).map ak) c/\d 0= .v (.int .u64 b)/\d 3= .J (((cx b).take a).map ak) c/\d 4= .v (.int .i64 (56 - 8*(a))))
  (λd _=>match d 4 with| .v (.int _ b)=>(b+8).toNat| _=>0) ⟨0,.nil,a9w,bh.Vb U.a1,?_⟩ ?_
 .refine eA ?_;rfl
 .rintro d h ⟨a,c,G,y,k,o,p⟩;by_cases r:(0)<=56 - 8*(a:Int)
  .refine aE (bm @k @o @p @r @hK) ?_;refine s0 U.a1 λL P D=> ?_;refine aE (aJ @k @o @p @r) ?_;refine wK (y.mono D.sub) (by simp[cx];omega) λE S F=> ?_;refine aE (aJ @k @o @p @r) ?_;refine⟨⟨a+1,E,a9w,?_,?_⟩,a9w⟩
   .have z:(cx b).take (a+1)=(cx b).take a++ [UInt8.ofNat (b>>>(56 - 8*(a:Int)).toNat)]:=by rcases(by omega:a=0\/a=1\/a=2\/a=3\/a=4\/a=5\/a=6\/a=7)with rfl|rfl|rfl|rfl|rfl|rfl|rfl|rfl<;>rfl
    rw[z];exact F
   .have z:(cx b).take (a+1)=(cx b).take a++ [UInt8.ofNat (b>>>(56 - 8*(a:Int)).toNat)]:=by rcases(by omega:a=0\/a=1\/a=2\/a=3\/a=4\/a=5\/a=6\/a=7)with rfl|rfl|rfl|rfl|rfl|rfl|rfl|rfl<;>rfl
    grind
  .obtain rfl:a=8:=a9w;refine aE (aJ @k @o @p @r) ?_;exact⟨h,U.a1,c,y,rfl⟩
def pe (b:List (List UInt8×Own)):List R:=b.map λa=> .J (a.1.map ak) a.2
def chunk (a:List UInt8):List UInt8:=cx a.length++a
def preB (a:UInt8) (b:List (List UInt8)):List UInt8:=a::b.flatMap chunk
def xa (a:UInt8): ∀b:List (List UInt8),b.length<(preB a b).length
 | []=>by simp[preB]
 |d::c=>by
  have:=xa a c;simp only[preB,a4Y,a5v,a4V,chunk,cx,a5d]at this|-;omega
def CA (b:UInt8) (c:List (List UInt8×Own)) (p:Own) (S:(preB b (c.map (·.1))).length<=70368744177664) (G:U):
  AC Tryz.prog 189 [.v (.int .u8 b.toNat),.J (pe c) p] G λT r=> ∃p,bh G r 1 ((preB b (c.map (·.1))).map ak) p/\T= .J ((preB b (c.map (·.1))).map ak) p:=by
 refine bd hm P4 a9x ?_;refine eA ?_;refine s0 U.a1 λV n W=> ?_;refine eA ?_;refine cr (λh r=> ∃(a k:List (List UInt8×Own)) (E:Own),c=a++k/\bh G r 1 ((preB b (a.map (·.1))).map ak) E/\h 5= .J ((preB b (a.map (·.1))).map ak) E/\h 10= .J (pe c) p/\h 11= .v (.int .i64 c.length)/\h 12= .v (.int .i64 a.length))
  (λh _=>match h 12 with| .v (.int _ e)=>(c.length - e).toNat| _=>0) ⟨[],c,V,rfl,W,?_⟩ ?_
 .refine eA ?_;exact⟨rfl,by simp[pe]⟩
 .rintro h r ⟨a,k,E,rfl,L,x,y,z,C⟩;cases k with
  |nil=>have o: ¬(a.length:Int)<((a++ []).length):=a9x;refine aE (bm @x @y @z @C @o) ?_;simp only[a5Z]at*;exact⟨r,U.a1,E,L,rfl⟩
  |cons f k=>
   obtain⟨d,D⟩:=f;have o:(a.length:Int)<((a++(d,D)::k).length):=a9y;have F:(pe (a++(d,D)::k))[a.length]? =some (.J (d.map ak) D):=by simp[pe]
   have q:(preB b (a.map (·.1))).length+8+d.length<=70368744177664:=by refine a5R ?_ S;simp[preB,chunk,cx];omega
   have g:=xa b (a.map (·.1));rw[a5f]at g;refine aE (c6 @x @y @z @C @o @F @hJ) ?_;refine ai (Cz d.length _) ?_;rintro _ s ⟨t,i,rfl⟩;refine aE (c6 @x @y @z @C @o @F @hJ) ?_;refine mS (L.mono i.sub) ?_ λu v j=> ?_
   .simp only[cx,a4Y,a5d];omega
   refine aE (c6 @x @y @z @C @o @F @hJ) ?_;refine mS j ?_ λl w P=> ?_
   .simp only[cx,a4V,a4Y,a5d];omega
   refine aE (c6 @x @y @z @C @o @F @hJ) ?_;have m:preB b (a.map (·.1))++cx d.length++d=preB b ((a++ [(d,D)]).map (·.1)):=by simp[preB,chunk]
   rw[m]at P|-;refine⟨⟨a++ [(d,D)],k,l,a9x,P,rfl,?_⟩,?_⟩
   .simp
   omega
def blocks:Nat->List UInt32->List UInt8->List UInt32
 |0,a,_=>a
 |b+1,a,aP=>blocks b (comp a (aP.take 64)) (aP.drop 64)
def pf: ∀(b:Nat) (a:List UInt32) (aP:List UInt8),a.length=8->(blocks b a aP).length=8
 |0,_,_,c=>c
 |b+1,a,aP,c=>by rw[blocks];exact pf b _ _ (x9 a _ c)
theorem u1: ∀(a:Nat) (b:List UInt32) (aP:List UInt8),blocks (a+1) b aP=comp (blocks a b aP) ((aP.drop (64*a)).take 64)
 |0,b,aP=>by rfl
 |a+1,b,aP=>by
  rw[blocks,u1 a,blocks,a5J];grind
theorem CB: ∀(a b:Nat) (c:List UInt32) (aP:List UInt8),blocks (a+b) c aP=blocks b (blocks a c aP) (aP.drop (64*a))
 |0,b,c,aP=>by simp[blocks]
 |a+1,b,c,aP=>by
  rw[show a+1+b=(a+b)+1 by omega,blocks,CB a b,blocks,a5J,show 64+64*a=64*(a+1) by omega]
theorem CC: ∀(a:Nat) (b:List UInt32) (aP c:List UInt8),64*a<=aP.length->blocks a b (aP++c)=blocks a b aP
 |0,_,_,_,_=>rfl
 |a+1,b,aP,c,d=>by
  rw[blocks,blocks,a6w a9w,a6x a9w];exact CC a _ _ _ a9y
variable{n b3:R}
section
variable {h:List UInt32}(hh:h.length=8)
include hh
def mb:(wl h++ [n,b3]).length=10:=by simp[wl,hh]
def qD:(wl h++ [n,b3]).drop 9= [b3]:=by rw[show(9)=(wl h).length+1 by rw[eM,hh],<-a5J,a7D];rfl
theorem qE:(wl h++ [n,b3]).drop 8= [n,b3]:=by grind[wl,eM,List.drop_left]
theorem qF:(wl h++ [n,b3]).take 8=wl h:=by grind[wl,eM,List.take_left]
theorem xb {a:R} :putAt (wl h++ [n,b3]) 9 [a]=wl h++ [n,a]:=by simp_all [eM,putAt,a8c,a4U]
theorem u2 {a:R} :putAt (wl h++ [n,b3]) 8 [a]=wl h++ [a,b3]:=by simp_all [eM,putAt,a6t]
theorem xc (a:h5.length=8):putAt (wl h++ [n,b3]) 0 (wl h5)=wl h5++ [n,b3]:=by grind[wl,eM,putAt,List.take_append,List.drop_append,List.drop_of_length_le]
end
variable{f t e4:U}{Y:br}
theorem U.pg (a:f e=some Y):f.set e Y=f:=by grind[U.set]
theorem U.CD {c:br} (d:(f.set e c).sub t):(f.set e Y).sub (t.set e Y):=λh k a=>by
 rw[U.tI]at a|-;split;simp_all
 .rename_i b;rw[if_neg b]at a;exact d h k (by rw[U.tI,if_neg b];exact a)
theorem XA (h:List UInt32) (a:h.length=8) (T: ∀o,AC Tryz.prog 270 [] o λV p=>p=o/\V= .agg (wl h)) (b:List UInt8) (W:Own) (s:b.length<=70368744177664) (o:U) (k:Nat) (e:o k=some (.cells (wl h++ [.J [] .nil,.v (.int .u64 0)]))):
  AC Tryz.prog 187 [.ptr k 0,.J (b.map ak) W] o λ_ p=> ∃r,p=o.set k (.cells (wl (blocks (b.length/64) h b)++ [.J ((b.drop (64*(b.length/64))).map ak) r,.v (.int .u64 b.length)])):=by
 refine bd hm P0 a9x ?_;have E:(wl h).length=8:=by rw[eM,a]
 rw[<-U.pg e];simp -dsimp -implicitDefEqProofs (disch:=first|omega|assumption|(simp only[bk,Nat.reduceAdd];try omega)) only[go_sem,simprocAttr,mb a,qD a,qE a,qF a,xb a,u2 a];refine ai (T _) ?_;rintro _ _ ⟨rfl,rfl⟩;simp -dsimp -implicitDefEqProofs (disch:=first|omega|assumption|(simp only[bk,Nat.reduceAdd];try omega)) only[go_sem,simprocAttr,mb a,qD a,qE a,qF a,xb a,u2 a,xc a a,E];refine db U.a1 (by simp[aS]) λt u F=> ?_;have G:=F.sub k _ (U.ag _ _ _);simp -dsimp -implicitDefEqProofs (disch:=first|omega|assumption|(simp only[bk,Nat.reduceAdd];try omega)) only[go_sem,simprocAttr,U.aI G,U.af G,mb a,qD a,qE a,qF a,xb a,u2 a,xc a a,E];refine ea F (by simp[aS]) (by simp[aS]) a9x a9x λv w f=> ?_;refine eA ?_;refine mS (w:= []) f a9y λg i L=> ?_;have j:=L.sub k _ (U.ag _ _ _);rw[<-U.pg j];simp -dsimp -implicitDefEqProofs (disch:=first|omega|assumption|(simp only[bk,Nat.reduceAdd];try omega)) only[go_sem,simprocAttr,a8G,a5m];refine cr (λx p=> ∃(c:Nat) (r:Own),64*c<=b.length/\x 0= .ptr k 0/\x 4= .J ((b.drop (64*c)).map ak) r/\p=i.set k (.cells (wl (blocks c h b)++ [.J [] .nil,.v (.int .u64 b.length)])))
  (λx _=>match x 4 with| .J xs _=>xs.length| _=>0) ⟨0,g,a9w,?_⟩ ?_
 .simp -dsimp -implicitDefEqProofs (disch:=first|omega|assumption|(simp only[bk,Nat.reduceAdd];try omega)) only[go_sem,simprocAttr,a8G];rfl
 .rintro x p ⟨c,r,A,C,D,rfl⟩;have d:=pf c h b a;generalize P:blocks c h b=z at*;have B:(wl z).length=8:=by rw[eM,d]
  by_cases y:(64)<=((b.drop (64*c)).length:Int)
  .have l:=y;rw[a5k]at l;simp -dsimp -implicitDefEqProofs (disch:=first|omega|assumption|(simp only[bk,Nat.reduceAdd];try omega)) only[go_sem,simprocAttr,C,D,y,mb d,qF d];have m:((b.drop (64*c)).take (64:Int).toNat).length=64:=a9y;refine ai (Cy z _ _ d m _) ?_;rintro _ _ ⟨rfl,rfl⟩;have S:=x9 z ((b.drop (64*c)).take 64) d;have n:(wl (comp z ((b.drop (64*c)).take 64))).length=8:=by rw[eM,S]
   simp -dsimp -implicitDefEqProofs (disch:=first|omega|assumption|(simp only[bk,Nat.reduceAdd];try omega)) only[go_sem,simprocAttr,C,D,y,mb d,xc d S,n];refine⟨⟨c+1,.any,a9w,?_,?_⟩,by simp only[a5k];omega⟩;grind[List.drop_drop]
   .rw[u1,P]
  .simp -dsimp -implicitDefEqProofs (disch:=first|omega|assumption|(simp only[bk,Nat.reduceAdd];try omega)) only[go_sem,simprocAttr,C,D,y,mb d,u2 d];rw[a5k]at y;have q:b.length/64=c:=a9w;refine⟨o.set k _,U.CD L.sub,r,?_⟩;rw[q,P]
def XB (a:List UInt8) (d:Own) (h:a.length<=70368744177664) (b:U) (c:Nat) (k:b c=some (.cells (wl gm++ [.J [] .nil,.v (.int .u64 0)]))):
  AC Tryz.prog 187 [.ptr c 0,.J (a.map ak) d] b λ_ o=> ∃p,o=b.set c (.cells (wl (blocks (a.length/64) gm a)++ [.J ((a.drop (64*(a.length/64))).map ak) p,.v (.int .u64 a.length)])):=
 XA gm rfl x8 a d h b c k
def eg (a:Nat):Nat:=(55+64 - a%64)%64
def jc (a:Nat) (b:List UInt8):List UInt8:=b++128::List.replicate (eg a) 0++cx (8*a)
def xd (a:UInt32):List UInt8:= [(a>>>24).toUInt8,(a>>>16).toUInt8,(a>>>8).toUInt8,a.toUInt8]
def eh (a:List UInt32):List UInt8:=a.flatMap xd
def cv (a:List UInt8):R:= .agg (a.map ak)
def hQ (a:List UInt8):List R:=a.map ak++List.replicate (32 - a.length) (.v (.int .u8 0))
variable{w:List UInt8}
def u3 (a:w.length<=32):(hQ w).length=32:=by simp[hQ];omega
def xe (a:UInt8) (b:e=w.length) (d:w.length<32):putAt (hQ w) e [.v (.int .u8 a.toNat)]=hQ (w++ [a]):=by subst b;have c:32 - w.length=(32 -(w.length+1))+1:=a9w;simp only[putAt,hQ,c,a7h];simp[a6t,ak]
def u4: ∀a:List UInt32,(eh a).length=4*a.length
 | []=>rfl
 |c::b=>by simp only[eh,a5v,a4V]at*;have:=u4 b;simp only[eh]at this;rw[this];simp[xd];omega
theorem XC (m:List UInt32) (a08:m.length=8) (k4: ∀F,AC Tryz.prog 270 [] F λn p=>p=F/\n= .agg (wl m)) (r:List UInt32) (x:r.length=8) (a:Nat) (k:List UInt8) (H:Own) (a09:a<=70368744177664) (I:k.length=a%64) (k5:a=0->r=m)
  (F:U) (S:Nat) (T:F S=some (.cells (wl r++ [.J (k.map ak) H,.v (.int .u64 a)]))):
  AC Tryz.prog 188 [.ptr S 0] F λn p=>p=F/\n=cv (eh (blocks ((jc a k).length/64) r (jc a k))):=by
 refine bd hm P2 a9x ?_;have K:(wl r).length=8:=by rw[eM,x]
 refine eA ?_;refine aN λG q=> ?_;have k6:S≠G:=by rintro rfl;rw[q]at T;cases T
 simp -dsimp -implicitDefEqProofs (disch:=first|omega|assumption|(simp only[bk,Nat.reduceAdd];try omega)) only[go_sem,↓reduceIte,Nat.reduceEqDiff,Nat.reduceAdd,Nat.reduceSub,Nat.reduceMul,Nat.reduceLeDiff,Nat.reduceLT,Int.reduceNeg,Int.reduceToNat,Int.reduceAdd,Int.reduceSub,Int.reduceMul,Int.reduceLT,Int.reduceLE,Int.reduceEq,Int.reduceNe,U.af T,mb x,qD x,qE x,qF x];refine aN λL f=> ?_;obtain⟨M,f⟩:=U.gH f;have k7:S≠L:=by rintro rfl;rw[f]at T;cases T
 simp -dsimp -implicitDefEqProofs (disch:=first|omega|assumption|(simp only[bk,Nat.reduceAdd];try omega)) only[go_sem,↓reduceIte,Nat.reduceEqDiff,Nat.reduceAdd,Nat.reduceSub,Nat.reduceMul,Nat.reduceLeDiff,Nat.reduceLT,Int.reduceNeg,Int.reduceToNat,Int.reduceAdd,Int.reduceSub,Int.reduceMul,Int.reduceLT,Int.reduceLE,Int.reduceEq,Int.reduceNe,U.af T,mb x,qD x,qE x,qF x,K];refine BW (λb p=>b 0= .ptr S 0/\b 2= .ptr G 0/\b 3= .ptr L 0/\p=(F.set G (.cells (List.replicate 32 (.v (.int .u8 0))))).set L (.cells (wl r))) ?_ ?_ ?_
 .intro N;have k8:a=0:=by simpa using N
  have k9:=k5 k8;subst k9;refine eA ?_;refine ai (k4 _) ?_;rintro _ _ ⟨rfl,rfl⟩;exact gT @K
 .intro _;exact qx
 .rintro b p ⟨z,c,d,rfl⟩;have O:((F.set G (.cells (List.replicate 32 (.v (.int .u8 0))))).set L (.cells (wl r))) S=some (.cells (wl r++ [.J (k.map ak) H,.v (.int .u64 a)])):=by rw[U.ao _ _ k7,U.ao _ _ k6];exact T
  generalize s:((F.set G (.cells (List.replicate 32 (.v (.int .u8 0))))).set L (.cells (wl r)))=l0 at*;refine aE (aH @z @c @d) ?_;refine db U.a1 (by simp[aS]) λa10 a11 Q=> ?_;have l1:=Q.sub _ _ O;simp -dsimp -implicitDefEqProofs (disch:=first|omega|assumption|(simp only[bk,Nat.reduceAdd];try omega)) only[go_sem,↓reduceIte,Nat.reduceEqDiff,Nat.reduceAdd,Nat.reduceSub,Nat.reduceMul,Nat.reduceLeDiff,Nat.reduceLT,Int.reduceNeg,Int.reduceToNat,Int.reduceAdd,Int.reduceSub,Int.reduceMul,Int.reduceLT,Int.reduceLE,Int.reduceEq,Int.reduceNe,z,c,d,U.af l1,mb x,qE x];refine mS (w:= []) Q a9y λa13 a14 l2=> ?_;refine aE (aH @z @c @d) ?_;refine s0 (a:=128) U.a1 λa15 a16 l3=> ?_;refine aE (aH @z @c @d) ?_;refine wK (l2.mono l3.sub) a9y λl4 a18 a19=> ?_;refine aE (aJ @z @c @d @a5m.{0}) ?_;refine cr (λb p=> ∃(E:Nat) (V:Own),E<=eg a/\b 0= .ptr S 0/\b 2= .ptr G 0/\b 3= .ptr L 0/\b 4= .J ((k++128::List.replicate E 0).map ak) V/\bh l0 p 1 ((k++128::List.replicate E 0).map ak) V)
   (λb _=>match b 4 with| .J xs _=>200 - xs.length| _=>0) ⟨0,l4,a9w,?_⟩ ?_
  .simp -dsimp -implicitDefEqProofs (disch:=first|omega|assumption|(simp only[bk,Nat.reduceAdd];try omega)) only[go_sem,↓reduceIte,Nat.reduceEqDiff,Nat.reduceAdd,Nat.reduceSub,Nat.reduceMul,Nat.reduceLeDiff,Nat.reduceLT,Int.reduceNeg,Int.reduceToNat,Int.reduceAdd,Int.reduceSub,Int.reduceMul,Int.reduceLT,Int.reduceLE,Int.reduceEq,Int.reduceNe,z,c,d];trivial
  .rintro b p ⟨E,V,a27,z,c,d,C,t⟩;have N:eg a<=63:=by unfold eg;omega
   have X:(k++128::List.replicate E 0).length=a%64+1+E:=by simp[I];omega
   by_cases P:E<eg a
   .have l5: ¬(((a%64+1+E)%64:Nat):Int)=56:=by unfold eg at P;omega
    refine aE (c6 @z @c @d @C @X @BZ @l5) ?_;refine s0 (a:=0) U.a1 λl6 l7 u=> ?_;refine aE (aJ @z @c @d @C) ?_;refine wK (t.mono u.sub) a9w λY v i=> ?_;have a29:k++128::List.replicate E 0++ [0]=k++128::List.replicate (E+1) 0:=by simp[a9g]
    refine aE (aJ @z @c @d @C) ?_;grind
   .obtain rfl:E=eg a:=a9w;have l8:(((a%64+1+eg a)%64:Nat):Int)=56:=by unfold eg;omega
    have l9:=t.sub _ _ O;simp -dsimp -implicitDefEqProofs (disch:=first|omega|assumption|(simp only[bk,Nat.reduceAdd];try omega)) only[go_sem,↓reduceIte,Nat.reduceEqDiff,Nat.reduceAdd,Nat.reduceSub,Nat.reduceMul,Nat.reduceLeDiff,Nat.reduceLT,Int.reduceNeg,Int.reduceToNat,Int.reduceAdd,Int.reduceSub,Int.reduceMul,Int.reduceLT,Int.reduceLE,Int.reduceEq,Int.reduceNe,z,c,d,C,X,BZ,l8,ne_eq,not_true_eq_false,U.af l9,mb x,qD x];have W:(8)*(a)=((8*a:Nat):Int):=a9x;rw[W];refine ai (Cz (8*a) _) ?_;rintro _ l7 ⟨l6,u,rfl⟩;refine aE (aJ @z @c @d @C) ?_;refine mS (t.mono u.sub) (by simp[cx];omega) λY v i=> ?_;refine aE (aJ @z @c @d @C) ?_;have n0:=i.sub _ _ (by rw[<-s];exact U.ag _ _ _);have Z:=i.sub _ _ (by rw[<-s,U.ao _ _ (a5c M)];exact U.ag _ _ _);have j9:=U.ar (by rw[<-s];exact U.ae (U.ae U.a1 q) f) i.sub;rw[<-U.pg n0];have n1:k++128::List.replicate (eg a) 0++cx (8*a)=jc a k:=rfl;have a30:(jc a k).length=64*((jc a k).length/64):=by
     have:(jc a k).length=a%64+1+eg a+8:=by simp[jc,I,cx];omega
     rw[this];unfold eg;omega
    rw[n1];generalize jc a k=y at*;refine cr (λb p=> ∃(o:Nat) (V:Own),64*o<=y.length/\b 2= .ptr G 0/\b 3= .ptr L 0/\b 4= .J ((y.drop (64*o)).map ak) V/\p=v.set L (.cells (wl (blocks o r y))))
     (λb _=>match b 4 with| .J xs _=>xs.length| _=>0) ⟨0,Y,a9w,?_⟩ ?_
    .refine aE (c2 @c @d) ?_;rfl
    .rintro b p ⟨o,V,a34,c,d,C,rfl⟩;have w:=pf o r y x;have j:(wl (blocks o r y)).length=8:=by rw[eM,w]
     by_cases P:(0)<((y.drop (64*o)).length:Int)
     .have n2:=P;rw[a5k]at n2;have a36:64<=(y.drop (64*o)).length:=by rw[a5k];omega
      refine aE (bs @c @d @C @P @j @a4U.{0}) ?_;have n3:((y.drop (64*o)).take 64).length=64:=a9y;refine ai (Cy _ _ _ w n3 _) ?_;rintro _ _ ⟨rfl,rfl⟩;have n4:=x9 (blocks o r y) ((y.drop (64*o)).take 64) w;have n5:(wl (comp (blocks o r y) ((y.drop (64*o)).take 64))).length=8:=by rw[eM,n4]
      refine aE (bm @c @d @C @j @n5) ?_;refine⟨⟨o+1,.any,a9w,?_,?_⟩,by simp only[a5k];omega⟩;grind[List.drop_drop]
      .rw[u1]
     .rw[a5k]at P;have n9:o=y.length/64:=a9w;refine aE (bm @c @d @C @a5k.{0} @P) ?_;rw[<-n9];generalize a38:blocks o r y=D at*;refine aN λA B=> ?_;obtain⟨a42,B⟩:=U.gH B;have k0:A≠G:=by grind
      refine aE (bm @c @d @C @j @a4U.{0}) ?_;refine cr (λb p=> ∃h:Nat,h<=8/\b 2= .ptr G 0/\b 5= .ptr A 0/\b 50= .agg (wl D)/\b 51= .v (.int .i64 h)/\p=(v.set L (.cells (wl D))).set A (.cells (hQ (eh (D.take h)))))
       (λb _=>match b 51 with| .v (.int _ a)=>(8 - a).toNat| _=>0) ⟨0,a9w,?_⟩ ?_
      .refine aE (aH @c @d @C) ?_;rfl
      .rintro b p ⟨h,a43,c,k1,k2,k3,rfl⟩;have e:(eh (D.take h)).length=4*h:=by rw[u4];simp;omega
       by_cases P:(h:Int)<8
       .have a00:(hQ (eh (D.take h))).length=32:=u3 a9w;have a01:(4*(h:Int)).toNat=4*h:=a9w;have a02:(4*(h:Int)+1).toNat=4*h+1:=a9w;have a03:(4*(h:Int)+2).toNat=4*h+2:=a9w;have a04:(4*(h:Int)+3).toNat=4*h+3:=a9w;have a47: ∀(g) (l),g.length<32->putAt (hQ g) g.length [.v (.int .u8 l.toNat)]=hQ (g++ [l]):=λg l a05=>xe l rfl a05;simp -dsimp -implicitDefEqProofs (disch:=first|omega|assumption|(simp only[bk,Nat.reduceAdd];try omega)) only[go_sem,↓reduceIte,Nat.reduceEqDiff,Nat.reduceAdd,Nat.reduceSub,Nat.reduceMul,Nat.reduceLeDiff,Nat.reduceLT,Int.reduceNeg,Int.reduceToNat,Int.reduceAdd,Int.reduceSub,Int.reduceMul,Int.reduceLT,Int.reduceLE,Int.reduceEq,Int.reduceNe,c,k1,k2,k3,P,j,ht,a01,a02,a03,a04,xe,u3];refine⟨⟨h+1,a9w,a9x,?_⟩,a9w⟩;grind[eh,xd,List.getD,List.take_succ_eq_append_getElem]
       .obtain rfl:h=8:=a9w;have a00:(hQ (eh (D.take 8))).length=32:=u3 a9w;have W:D.take 8=D:=a4U a9w;have a06:hQ (eh D)=(eh D).map ak:=by rw[W]at e;simp[hQ,e]
        have a07:((eh D).map ak).length=32:=by rw[W]at e;simp[e]
        have a48:(eh D).length=32:=by rw[W]at e;exact e
        rw[W,a06];refine aE (lf @c @k1 @k2 @k3 @P @a07 @a4U.{0} (U.aI Z) (U.af Z) @k0 (a5c k0) (a5c M) @rZ) ?_;refine⟨F,?_,rfl,rfl⟩;exact U.ae (U.ae (U.ae j9 f) (U.bI j9 B)) q
def XD (b:U):AC Tryz.prog 186 [] b λc d=> ∃a,b a=none/\c= .ptr a 0/\d=b.set a (.cells (wl gm++ [.J [] .nil,.v (.int .u64 0)])):=by refine bd hm OY a9x ?_;refine eA ?_;refine ai (x8 _) ?_;rintro _ _ ⟨rfl,rfl⟩;have h:(wl gm).length=8:=rfl;have k:putAt (List.replicate 8 (R.v (Value.int IntKind.u32 0))++ [R.J [] Own.nil]++ [R.v (Value.int IntKind.u64 0)]) 0 (wl gm)=wl gm++ [.J [] .nil,.v (.int .u64 0)]:=rfl;simp -dsimp -implicitDefEqProofs (disch:=first|omega|assumption|(simp only[bk,Nat.reduceAdd];try omega)) only[go_sem,↓reduceIte,Nat.reduceEqDiff,Nat.reduceAdd,Nat.reduceSub,Nat.reduceMul,Nat.reduceLeDiff,Nat.reduceLT,Int.reduceNeg,Int.reduceToNat,Int.reduceAdd,Int.reduceSub,Int.reduceMul,Int.reduceLT,Int.reduceLE,Int.reduceEq,Int.reduceNe,h,k];refine aN λa o=> ?_;refine eA ?_;exact⟨_,U.a1,a,o,rfl,rfl⟩
def ff (a:List UInt8):List UInt8:=
 eh (blocks ((jc a.length (a.drop (64*(a.length/64)))).length/64) (blocks (a.length/64) gm a) (jc a.length (a.drop (64*(a.length/64)))))
def mc (a:List UInt8):(ff a).length=32:=by rw[ff,u4,pf _ _ _ (pf _ _ _ rfl)]
def CE (a:List UInt8) (c:Own) (d:a.length<=70368744177664) (b:U):AC Tryz.prog 121 [.J (a.map ak) c] b λk o=>o=b/\k=cv (ff a):=by
 refine bd hm MV a9x ?_;refine eA ?_;refine aN λG p=> ?_;refine eA ?_;refine ai (XD _) ?_;rintro _ _ ⟨h,r,rfl,rfl⟩;obtain⟨x,y⟩:=U.gH r;refine eA ?_;refine ai (XB a c d _ h (U.ag _ _ _)) ?_;rintro _ _ ⟨z,rfl⟩;refine eA ?_;have C:(a.drop (64*(a.length/64))).length=a.length%64:=a9y;refine ai (XC gm rfl x8 (blocks (a.length/64) gm a) (pf _ _ _ rfl) a.length (a.drop (64*(a.length/64))) z d C (λD=> ?_) _ h (U.ag _ _ _)) ?_
 .rw[D];rfl
 rintro _ _ ⟨rfl,rfl⟩;have E:((ff a).map ak).length=32:=by rw[a5f,mc]
 have L:=mc a;have F:cv (eh (blocks ((jc a.length (a.drop (64*(a.length/64)))).length/64) (blocks (a.length/64) gm a) (jc a.length (a.drop (64*(a.length/64))))))= .agg ((ff a).map ak):=rfl;rw[F];generalize ff a=P at*;refine aE (c2 @E (a5c x)) ?_;exact⟨b,U.ae (U.ae U.a1 p) y,rfl,by rw[a4U a9w];rfl⟩
def a4M (a:List (List UInt8)):Prop:= ∀b∈a,b.length=32
def aZ:(cv w).cells=w.map ak:=rfl
def ba (a:w.length=32):(.agg ((w.take 32).map ak):R)=cv w:=by rw[a4U (by simp[a])];rfl
def XE (a:List (List UInt8)) (b:Own) (c:List (List UInt8×Own)) (d:Own) (h:Bool):br:= .cells [.J (a.map cv) b,.J (pe c) d,.v (.bool h)]
def PS (c:U) (d:Nat) (h k:List (List UInt8)) (o:Bool) (p:U):Prop:=
 ∃r b a,a.map (·.1)=k/\bh (c.set d (XE h r a b o)) p 1 (pe a) b
def u5:List UInt8:=List.replicate 32 0
def fc:br:= .cells (List.replicate 32 (.v (.int .u8 0)))
def XF (a:List UInt8):br:= .cells (a.map ak)
theorem xf {a:List UInt8} (b:cv w=cv a):w=a:=by
 have c:w.map ak=a.map ak:=by simpa[cv] using b
 have d:=congrArg bytesOf c;rw[rz,rz]at d;simp_all
theorem XG {a:List UInt8}:peq (.agg (w.map ak)) (.agg (a.map ak))=decide (w=a):=by
 by_cases b:w=a
 .subst b;simp[Hc]
 .have: ¬peq (.agg (w.map ak)) (.agg (a.map ak))=true:=λc=>b (xf ((q3 _ _).1 c));simp_all
theorem CF (a:w.length=32):dm [(32,.int .u8)] (w.map ak):=by
 refine⟨by simp[a],?_,?_⟩
 .intro c b;obtain⟨d,_,rfl⟩:=a5o.1 (a5g b);rfl
 .simp only[dm];simp_all
variable{I:Bool}
def XH {a:List UInt8}{b:R->Prop} (c:w.length=32) (d:a.length=32):tL I [(32,.int .u8)] (cv w) (cv a) b=b (.v (.bool (xor I (decide (w=a))))):=by have h:=CF c;have k:=CF d;show(dm _ _/\dm _ _/\b (.v (.bool (xor I (peq (.agg (w.map ak)) (.agg (a.map ak)))))))= _;rw[XG];simp[h,k]
end Go.Proofs.YtlgnfcaolejgeaaGreat
set_option maxHeartbeats 1000000
namespace Go.Proofs.YtlgnfcaolejgeaaGreat
open Go Go.bz
structure BF where
 x:List UInt8
 y:List UInt8
 cJ:List (List UInt8)
 sj:List (List UInt8)
 iy:Bool
end Go.Proofs.YtlgnfcaolejgeaaGreat
set_option maxHeartbeats 1000000
namespace Go.Proofs.YtlgnfcaolejgeaaGreat
open Go Go.bz
def u6 (a:List UInt8) (b:Own):br:= .cells [.J (a.map ak) b,.v (.int .i64 0)]
def cy (c:U) (d:Nat) (a:List UInt8) (h:U):Prop:= ∃b,bh (c.set d (u6 a b)) h 1 (a.map ak) b
def u7 (h k:U) (d:Nat) (a b:List UInt8) (y:Own) (c:cy h d a k) (D:a.length+b.length<=70368744177664):
  AC Tryz.prog 168 [.ptr d 0,.v (.bool true),.J (b.map ak) y] k λ_ z=>cy h d (a++b) z:=by
 obtain⟨E,c⟩:=c;have C:=c.sub _ _ (U.ag _ _ _);refine bd hm Ot a9x ?_;refine aE (aJ @a5N (U.af C) @aZ @ba) ?_;refine mS c a9w λo F p=> ?_;have r:=p.sub _ _ (U.ag _ _ _);refine aE (aJ (U.af r) (U.aI r) @aZ @ba) ?_;have x:=p.set (ob:=u6 (a++b) o) (U.ag _ _ _);rw[U.set_set]at x;exact⟨_,U.a1,o,x⟩
def mZ (c k:U) (a:Nat) (b:List UInt8) (d:UInt8) (h:cy c a b k) (o:b.length+1<=70368744177664):
  AC Tryz.prog 103 [.ptr a 0,.v (.int .u8 d.toNat)] k λ_ p=>cy c a (b++ [d]) p:=by
 refine bd hm Mo a9x ?_;refine aE (c2 @aZ @ba) ?_;refine s0 U.a1 λr x y=> ?_;refine aE (c2 @aZ @ba) ?_;obtain⟨z,h⟩:=h;refine ai (u7 c x a b [d] r ⟨z,h.mono y.sub⟩ o) ?_;intro E C D;refine aE (c2 @aZ @ba) ?_;exact⟨C,U.a1,D⟩
def ck (a:Int):Nat:=(BitVec.ofInt 64 a^^^BitVec.ofInt 64 9223372036854775808).toNat
def hR (a:Int):List UInt8:=cx (ck a)
theorem CG (a:Int):bn .xor (.int .u64 (IntKind.u64.wrap a)) (.int .u64 9223372036854775808)=some (.int .u64 (ck a)):=by
 have b:BitVec.ofInt 64 (IntKind.u64.wrap a)=BitVec.ofInt 64 a:=by rw[kv];apply BitVec.eq_of_toInt_eq;grind
 have c:bn .xor (.int .u64 (IntKind.u64.wrap a)) (.int .u64 9223372036854775808)=some (.int .u64 (IntKind.u64.wrap (BitVec.ofInt 64 (IntKind.u64.wrap a)^^^BitVec.ofInt 64 9223372036854775808).toNat)):=rfl;rw[c,b];have d:=(BitVec.ofInt 64 a^^^BitVec.ofInt 64 9223372036854775808).isLt;rw[wrap_u64 a9w a9w];rfl
theorem XI (o C:U) (b:Nat) (p:List UInt8) (h:Int) (E:cy o b p C) (G:p.length+8<=70368744177664):
  AC Tryz.prog 254 [.ptr b 0,.v (.int .i64 h)] C λ_ c=>cy o b (p++hR h) c:=by
 refine bd hm QS a9x ?_;refine aE (aH @CG @aZ @ba) ?_;generalize F:ck h=k;refine cr (λd c=> ∃a:Nat,a<=8/\cy o b (p++(cx k).take a) c/\d 0= .ptr b 0/\d 4= .v (.int .u64 k)/\d 5= .v (.int .i64 (56 - 8*(a))))
  (λd _=>match d 5 with| .v (.int _ h)=>(h+8).toNat| _=>0) ⟨0,a9w,by simpa using E,?_⟩ ?_
 .exact gT (c2 @aZ @ba)
 .rintro d c ⟨a,L,D,r,x,y⟩;by_cases z:(0)<=56 - 8*(a:Int)
  .refine aE (c6 @r @x @y @z @hK @aZ @ba) ?_;refine ai (mZ o c b _ _ D ?_) ?_
   .simp;omega
   intro P S T;refine aE (bs @r @x @y @z @aZ @ba) ?_;refine⟨⟨a+1,a9w,?_,a9y⟩,a9w⟩;have V:(cx k).take (a+1)=(cx k).take a++ [UInt8.ofNat (k>>>(56 - 8*(a:Int)).toNat)]:=by rcases(by omega:a=0\/a=1\/a=2\/a=3\/a=4\/a=5\/a=6\/a=7)with rfl|rfl|rfl|rfl|rfl|rfl|rfl|rfl<;>rfl
   grind
  .obtain rfl:a=8:=a9w;refine aE (bs @r @x @y @z @aZ @ba) ?_;refine⟨c,U.a1,?_⟩;rw[hR,F];exact D
end Go.Proofs.YtlgnfcaolejgeaaGreat
namespace Go.bz
open Go
def CH (a:Bool) (c:R) (b:R->Prop):Prop:=
 match c with
 | .J xs d=>match d with
  | .nil=>b (.v (.bool (!a)))
  | .buf _ _=>b (.v (.bool a))
  | _=>(xs= []->b (.v (.bool (!a))))/\b (.v (.bool a))
 | .an _ _ _ _=>b (.v (.bool a))
 | _=>False
variable{s a7:R -> U -> Prop}{I:Bool}{K:Ctx}{j:Fr}{f t e4:U}{Z e9:Operand}
def o9:G K (.mC I Z) j f s=CH I (al j Z) (bZ (λa=>s a f) ()):=rfl
variable{g B e0:List R}{M e6 h4:Own}
def oa {a:R->Prop}{b:cA a} (c:M= .nil->g= []) (d:g= []->a (.v (.bool (!I)))) (h:a (.v (.bool I))):CH I (.J g M) (bZ a b):=by
 cases M with
 |nil=>exact d (c rfl)
 |buf k o=>exact h
 |any=>trivial
 |zero=>trivial
end Go.bz
namespace Go.Proofs.YtlgnfcaolejgeaaGreat
open Go Go.bz
def xg (a:List UInt8) (d:Own) (b:U) (k:d= .nil->a= []) (C:a.length<=70368744177664):
  AC Tryz.prog 172 [.J (a.map ak) d] b λo p=> ∃h,bh b p 1 (a.map ak) h/\o= .J (a.map ak) h:=by
 refine bd hm OB a9x ?_;simp -dsimp -implicitDefEqProofs (disch:=first|omega|assumption|(simp only[bk,Nat.reduceAdd];try omega)) only[go_sem,simprocAttr,aZ,ba,↓o9];refine oa (λc=>by rw[k c];rfl) (λc=> ?_) ?_
 .have r:a= []:=by simpa using c
  subst r;refine aE (aH @a5O @aZ @ba) ?_;exact⟨b,U.a1,.nil,bh.nil U.a1,rfl⟩
 .refine aE (c2 @aZ @ba) ?_;refine db U.a1 (by simp[aS]) λD E x=> ?_;refine aE (c2 @aZ @ba) ?_;refine mS (w:= []) x a9y λy z F=> ?_;refine aE (aH @a5m.{0} @aZ @ba) ?_;exact⟨z,U.a1,y,by trivial,rfl⟩
def CI (k b:U) (d:Nat) (a:List UInt8) (c:cy k d a b) (o:a.length<=70368744177664):
  AC Tryz.prog 106 [.ptr d 0] b λp r=> ∃h,bh b r 1 (a.map ak) h/\p= .J (a.map ak) h:=by
 obtain⟨x,c⟩:=c;have y:=c.sub _ _ (U.ag _ _ _);refine bd hm Mu a9x ?_;refine aE (aH (U.af y) @aZ @ba) ?_;refine ai (xg a x b (λz=> ?_) o) ?_
 .subst z;have:=c.2;simpa using this
 rintro _ C ⟨D,E,rfl⟩;refine aE (c2 @aZ @ba) ?_;exact⟨C,U.a1,D,E,rfl⟩
end Go.Proofs.YtlgnfcaolejgeaaGreat
namespace Go.bz
open Go
end Go.bz
namespace Go.Proofs.YtlgnfcaolejgeaaGreat
open Go Go.bz
def xh (a:Int) (b c:List UInt8):List R:= .v (.int .i64 a)::(b.map ak++c.map ak)
def XJ (a:Int) (b c:List UInt8):R:= .agg (xh a b c)
def XK (a:Int) (b c:List UInt8):List UInt8:=preB 68 [hR a,b,c]
end Go.Proofs.YtlgnfcaolejgeaaGreat
namespace Go.bz
open Go
variable{f t e4:U}{g B e0:List R}{e i v O b8 j0:Nat}
def XL (a:g.length=e):p5 1 e (f.set i (.ro g)) (.ptr i 0)=some (.J g .any):=Ve (U.ag _ _ _) a
end Go.bz
namespace Go.Proofs.YtlgnfcaolejgeaaGreat
open Go Go.bz
structure iz where
 n:Int
 h:List UInt8
 d:List UInt8
 deriving DecidableEq
def iz.ok (a:iz):Prop:=a.h.length=32/\a.d.length=32
def iz.C (a:iz):List R:=xh a.n a.h a.d
def iz.V (a:iz):R:=XJ a.n a.h a.d
def iz.sum (a:iz):List UInt8:=ff (XK a.n a.h a.d)
def cy.mono {b c d:U}{h:Nat}{k:List UInt8} (a:cy b h k c) (o:c.sub d):cy b h k d:=by obtain⟨p,a⟩:=a;exact⟨p,a.mono o⟩
def cy.sub {a c:U}{d:Nat}{h:List UInt8} (b:cy a d h c) (k:a d=none):a.sub c:=by obtain⟨o,b⟩:=b;exact U.ar (U.ae U.a1 k) b.sub
theorem cy.base {b c d:U}{h:Nat}{k:List UInt8} (a:cy b h k d) (o:c.sub b):cy c h k d:=by obtain⟨p,a⟩:=a;exact⟨p,a.base (U.kZ o)⟩
variable{f t e4:U}{w:List UInt8}{e i v O b8 j0:Nat}
def cy.cell (a:cy t e w f): ∃b,f e=some (u6 w b):=by obtain⟨b,a⟩:=a;exact⟨b,a.sub _ _ (U.ag _ _ _)⟩
def cy.new {d h:U}{c a:Nat}{p:List UInt8}{ob:br} (b:cy d c p h) (k:h a=none):a≠c/\d a=none/\cy (d.set a ob) c p (h.set a ob):=by
 obtain⟨r,x⟩:=b.cell;have o:a≠c:=by rintro rfl;rw[k]at x;cases x
 obtain⟨r,b⟩:=b;have y:=U.bI b.sub k;rw[U.ao _ _ o]at y;refine⟨o,y,r,?_⟩;rw[U.dZ _ o];exact b.new k
variable{Y:br}
def cy.get (a:cy f i w t) (b:e≠i) (c:f e=some Y):t e=some Y:=by obtain⟨d,a⟩:=a;exact a.sub _ _ (by rw[U.ao _ _ b];exact c)
def CJ (d h:U) (a:Nat) (b c:List UInt8) (k:c.length=32) (o:cy d a b h) (y:b.length+32<=70368744177664):
  AC Tryz.prog 170 [.ptr a 0,cv c] h λ_ p=>cy d a (b++c) p:=by
 refine bd hm Ox a9x ?_;refine aE (aH @k @aZ @ba) ?_;refine aN λz r=> ?_;refine aE (aJ @k @XL @aZ @ba) ?_;refine ai (u7 d _ a b c .any (o.mono (U.ae U.a1 r)) a9w) ?_;intro C D x;refine aE (c2 @aZ @ba) ?_;exact⟨_,U.a1,x⟩
def CK (a:Int):(hR a).length=8:=rfl
end Go.Proofs.YtlgnfcaolejgeaaGreat
