import Derived.Test.YtlgnfcaolejgeaaGreatMB
set_option linter.all false
namespace Go.bz
open Go
abbrev cz.{a}{b:Sort a} (_:b):Type:=Unit
variable{b0:Type}
def bZ (a:b0->Prop) (_:cz a) (b:b0):Prop:=a b
def bO {a:Type} (b:b0->a->Prop) (_:cz b) (c:b0) (d:a):Prop:=b c d
def cv (a:Prop) (_:cz a):Prop:=a
def jx {a:b0->Prop}{c:cz a}{b:b0}:bZ a c b=a b:=rfl
def SD {b:Type}{a:b0->b->Prop}{h:cz a}{c:b0}{d:b}:bO a h c d=a c d:=rfl
variable{N b4 h2 h8 j1:Prop}
def Bs {a:cz N}:cv N a=N:=rfl
def iX (b:U) (c:Nat->Prop):Prop:= ∀a,b a=none->c a
def gN (a b:Prop):Prop:=a/\b
def rK {a:cz N} (b:b4):gN b4 (cv N a)=N:=by simp[gN,cv,b]
def rL {a:cz N}:gN True (cv N a)=N:=by simp[gN,cv]
variable{h6:dH}{e3:cb}{n b3:R}{s a7:R -> U -> Prop}{I:Bool}{K:Ctx}{e8:gb -> Fr -> U -> Prop}{j:Fr}{j6:Fr -> U -> Prop}{b5:FuncId}{f t e4:U}{b1:Int}{e2:IntKind}{g B e0:List R}{e i v O b8 j0:Nat}{j5:Nat -> Prop}{Y:br}{Z e9:Operand}{M e6 h4:Own}{m:Program}{b2:TypeId}{e5:Value}
section
def SE:bS K .skip e8 j f=e8 .norm j f:=rfl
def SF:bS K .ret e8 j f=e8 .ret j f:=rfl
def SG:bS K (.exit e) e8 j f=e8 (.exit e) j f:=rfl
def SH {a:dH}:bS K (.seq h6 a) e8 j f=bS K h6 (eN (bS K a e8) e8) j f:=rfl
def SI:bS K (.block e h6) e8 j f=bS K h6 (kW e e8) j f:=rfl
def SJ {a:List c7}:bS K (.plain a) e8 j f=iT K a (e8 .norm) j f:=rfl
def SK {a:List c7}{b:List di}:bS K (.draw a b) e8 j f=can K (nth a) (e8 .norm) b j f:=rfl
def kp (b:R) (c d:Prop):Prop:=
 match b with
 | .v (.bool a)=>(a=true->c)/\(a=false->d)
 | _=>False
def wA {a:dH}:bS K (.cond Z h6 a) e8 j f=kp (al j Z) (cv (bS K h6 e8 j f) ()) (cv (bS K a e8 j f) ()):=rfl
def Bt {a:cz N}:kp (.v (.bool true)) (cv N a) b4=N:=by simp[kp,cv]
def Bu {a:cz N}:kp (.v (.bool false)) b4 (cv N a)=N:=by simp[kp,cv]
def SL:bS K (.loop h6) e8 j f=cv (bS K (.loop h6) e8 j f) ():=rfl
def SM:eN j6 e8 .norm j f=j6 j f:=rfl
def SN:eN j6 e8 .ret j f=e8 .ret j f:=rfl
def SO:eN j6 e8 (.exit e) j f=e8 (.exit e) j f:=rfl
def SP:kW e e8 .norm j f=e8 .norm j f:=rfl
def SQ:kW e e8 .ret j f=e8 .ret j f:=rfl
def SR:kW i e8 (.exit e) j f=(if e=i then e8 .norm j f else e8 (.exit e) j f):=by simp only[kW];split<;>rfl
def SS:kW e e8 (.exit e) j f=e8 .norm j f:=by simp[kW]
def SU:iT K [] j6 j f=j6 j f:=rfl
def SV {a:Option Nat}{b:List c7}:iT K (⟨a,e3,none⟩::b) j6 j f=G K e3 j f (λc d=>iT K b j6 (dk j a c) d):=rfl
def hF (b:R) (c:Bool) (d a:Prop):Prop:=
 match b with
 | .v (.bool h)=>if h=c then d else a
 | .aI []=>a
 | _=>False
def SX {a:Option Nat}{b:List c7}:
  iT K (⟨a,e3,some (e,I)⟩::b) j6 j f=hF (j e) I (cv (G K e3 j f (λc d=>iT K b j6 (dk j a c) d)) ()) (cv (iT K b j6 (dk j a (.aI [])) f) ()):=rfl
def SY {a:cz N}:hF (.v (.bool true)) true (cv N a) b4=N:=by simp[hF,cv]
def SZ {a:cz N}:hF (.v (.bool false)) false (cv N a) b4=N:=by simp[hF,cv]
def T0 {a:cz N}:hF (.v (.bool true)) false b4 (cv N a)=N:=by simp[hF,cv]
def T1 {a:cz N}:hF (.v (.bool false)) true b4 (cv N a)=N:=by simp[hF,cv]
def T2 {a:cz N}:hF (.aI []) I b4 (cv N a)=N:=rfl
def T3 {a:Bool}:hF (.v (.bool I)) a N b4=((I=a->N)/\(I=(!a)->b4)):=by cases I<;>cases a<;>simp[hF]
def T4 {a:Nat->c7}:can K a j6 [] j f=j6 j f:=rfl
def lS (a:c7) (b:c7->Prop):Prop:=b a
def T5 {a:Option Nat}{b:Option (Nat×Bool)}{c:c7->Prop}:lS ⟨a,e3,b⟩ c=c ⟨a,e3,b⟩:=rfl
def T6 {a:Nat->c7}{b:List di}:can K a j6 (⟨e,[],[]⟩::b) j f=lS (a e) (bZ (λc=>T K c (λd h=>can K a j6 b d h) j f) ()):=by simp only[can,a6m,false_implies,implies_true,true_and,lS,bZ]
def T7 {a:Nat->c7}{b c:List Nat}{d:List di}:can K a j6 (⟨e,i::b,c⟩::d) j f=gN (lS (a i) (bZ (λh=>Def K h j) ())) (cv (can K a j6 (⟨e,b,c⟩::d) j f) ()):=by simp only[can,a5j,forall_eq_or_imp,gN,lS,bZ,cv];exact propext and_assoc
def rM (c:Ctx) (a:c7) (b:Fr) (d:U):Prop:=
 match a.dst with
 |some h=>E c a b d λk _=>k=b h
 |none=>True
def nT (b:Ctx) (c:Nat->c7) (d:Fr) (h:U):List Nat->Prop->Prop
 | [],a=>a
 |k::o,a=>gN (lS (c k) (bZ (λp=>rM b p d h) ())) (cv (nT b c d h o a) ())
def T8 {a:Nat->c7}:nT K a j f [] N=N:=rfl
def T9 {a:Nat->c7}{b:List Nat}:nT K a j f (e::b) N=gN (lS (a e) (bZ (λc=>rM K c j f) ())) (cv (nT K a j f b N) ()):=rfl
theorem Bv {a:Nat->c7}{b:Prop}: ∀c,nT K a j f c b=((∀d∈c,hh K a d j f)/\b)
 | []=>by simp[nT]
 |d::h=>by simp only[nT,Bv h,gN,lS,bZ,cv,a5j,forall_eq_or_imp,hh,rM];grind
def Ta {a:Nat->c7}{b:List Nat}{c:List di}:can K a j6 (⟨e,[],i::b⟩::c) j f=lS (a e) (bZ (λk=>T K k (λd h=>nT K a d h (i::b) (can K a j6 c d h)) j f) ()):=by simp only[can,a6m,false_implies,implies_true,true_and,lS,bZ,Bv]
def Tb {a:Option Nat}:Def K ⟨a,e3,none⟩ j=G K e3 j U.emp (λ_ _=>True):=rfl
def Tc:rM K ⟨some e,e3,none⟩ j f=G K e3 j f (λa _=>a=j e):=rfl
def Td {a:cz (λ_:Nat=>True)}:iX f (bZ (λ_=>True) a)=True:=by simp[iX,bZ]
def Te {a:c7}{b:List c7}:nth (a::b) 0=a:=rfl
def Tf {b:c7}{a:List c7}:nth (b::a) (e+1)=nth a e:=rfl
def Tg {a:Option Nat}:T K ⟨a,e3,none⟩ j6 j f=G K e3 j f (λb c=>j6 (dk j a b) c):=rfl
def Th {a:Option Nat}:T K ⟨a,e3,some (e,I)⟩ j6 j f=hF (j e) I (cv (G K e3 j f (λb c=>j6 (dk j a b) c)) ()) (cv (j6 (dk j a (.aI [])) f) ()):=rfl
def Ti:dk j (some i) n e=if e=i then n else j e:=rfl
def Tj:dk j none n e=j e:=rfl
def dD (a:Option R) (b:R->Prop):Prop:=
 match a with
 |some a=>b a
 |none=>False
def kq [Decidable N] {a:R->Prop}:dD (if N then some n else none) a=(N/\a n):=by split<;>simp[dD, *]
def Tk {a:R->Prop}:dD (some n) a=a n:=rfl
def mP (a:R) (b:R->Prop):Prop:=b a
def Tl {a:R->Prop}:mP n a=a n:=rfl
def oZ (a:Option (List R)) (b:List R->Prop):Prop:=
 match a with
 |some a=>b a
 |none=>False
def Tm {a:List R->Prop}:oZ (some g) a=a g:=rfl
section
def Tn:G K (.eX Z) j f s=mP (al j Z) (bZ (λa=>s a f) ()):=rfl
def tA (a b c:R):Option R:=
 match a with
 | .v (.bool d)=>some (if d then b else c)
 | _=>none
def To:tA (.v (.bool true)) n b3=some n:=rfl
def Tp:tA (.v (.bool false)) b3 n=some n:=rfl
def Tq {a:Operand}:G K (.pick e9 Z a) j f s=dD (tA (al j e9) (al j Z) (al j a)) (bZ (λb=>s b f) ()):=by simp only[G,tA];generalize al j e9=Z;cases Z<;>first|rfl|(rename_i v;cases v<;>rfl)
def Tr:G K (.alloc b2 g) j f s=iX f (bZ (λa=>s (.ptr a 0) (f.set a (.cells g))) ()):=rfl
def Ts:G K (.box b2 Z) j f s=mP (al j Z) (bZ (λa=>gN (0<a.cells.length) (cv (iX f (bZ (λb=>s (.ptr b 0) (f.set b (.cells a.cells))) ())) ())) ()):=rfl
def Tt:G K (.ke b2 Z) j f s=mP (al j Z) (bZ (λa=>gN (0<a.cells.length) (cv (iX f (bZ (λb=>s (.ptr b 0) (f.set b (.ro a.cells))) ())) ())) ()):=rfl
def dq (b:Bool) (a:Nat) (c:U) (d:R):Option R:=
 match d with
 | .ptr h off=>match c.read h with
  |some cs=>if off+a<=cs.length then some (aX b a (cs.drop off))else none
  |none=>none
 | .bV cs=>if a<=cs.length then some (aX b a cs)else none
 | _=>none
def qg (d:Bool) (b c:Nat) (a:Option (List R)):Option R:=
 match a with
 |some a=>if c+b<=a.length then some (aX d b (a.drop c))else none
 |none=>none
def Tu:dq I e f (.ptr i v)=qg I e v (f.read i):=rfl
def Bw (a:i+e<=g.length):qg I e i (some g)=some (aX I e (g.drop i)):=by simp[qg,a]
def Tv (a:e<=g.length):dq I e f (.bV g)=some (aX I e g):=by simp[dq,a]
def Tw:G K (.load I e Z) j f s=dD (dq I e f (al j Z)) (bZ (λa=>s a f) ()):=by
 simp only[G,dq];generalize al j Z=b;cases b<;>first
  |rfl
  |(simp only[kq,jx];done)
  |(rename_i c h;simp only[];generalize f.read c=d;cases d<;>first|rfl|(simp only[kq,jx]))
def ef (a:U) (b:Nat):Option (List R):=
 match a b with
 |some (.cells cs)=>some cs
 | _=>none
def wB (a:U) (b:Nat) (k:R) (c:List R) (o:U->Prop):Prop:=
 match k with
 | .ptr d off=>oZ (ef a d) λh=>gN (c.length=b/\off+b<=h.length) (o (a.set d (.cells (putAt h off c))))
 | _=>False
def Tx {a:U->Prop}:wB f e (.ptr i v) g a=oZ (ef f i) (bZ (λb=>gN (g.length=e/\v+e<=b.length) (cv (oZ (some (putAt b v g)) (bZ (λc=>a (f.set i (.cells c))) ())) ())) ()):=rfl
def Ty:G K (.store e Z e9) j f s=wB f e (al j Z) (al j e9).cells (bZ (λa=>s (.aI []) a) ()):=by
 simp only[G,wB];generalize al j Z=b;cases b<;>first
  |rfl
  |(
    rename_i c h;simp only[ef];cases f c with
    |none=>rfl
    |some d=>cases d with
     |cells cs=>exact propext and_assoc.symm
     | _=>rfl)
def rN (a:R):Option R:=
 match a with
 | .ptr b off=>some (.ptr b off)
 | .bV cs=>some (.bV cs)
 | .bG c cJ cs=>some (.bG c cJ cs)
 | _=>none
def Tz:rN (.ptr e i)=some (.ptr e i):=rfl
def TA:rN (.bV g)=some (.bV g):=rfl
def TB:G K (.pX Z) j f s=dD (rN (al j Z)) (bZ (λa=>s a f) ()):=by simp only[G,rN];generalize al j Z=b;cases b<;>first|rfl|(rename_i v;cases v<;>rfl)
def rO (a:Nat) (b:R):Option R:=
 match b with
 | .ptr c d=>some (.ptr c (d+a))
 | .bV cs=>some (.bV (cs.drop a))
 | _=>none
def TC:rO e (.ptr i v)=some (.ptr i (v+e)):=rfl
def TD:rO e (.bV g)=some (.bV (g.drop e)):=rfl
def TE:G K (.kQ e Z) j f s=dD (rO e (al j Z)) (bZ (λa=>s a f) ()):=by simp only[G,rO];generalize al j Z=b;cases b<;>first|rfl|(rename_i v;cases v<;>rfl)
def lT (b c:Nat) (d h:R):Option R:=
 match d,h with
 | .ptr k o,.v (.int _ a)=>if 0<=a/\a<c then some (.ptr k (o+a.toNat*b))else none
 | .bV cs,.v (.int _ a)=>if 0<=a/\a<c then some (.bV (cs.drop (a.toNat*b)))else none
 | _,_=>none
def rP (a:0<=b1) (b:b1<i):lT e i (.ptr v O) (.v (.int e2 b1))=some (.ptr v (O+b1.toNat*e)):=by simp[lT,a,b]
def TF (a:0<=b1) (b:b1<i):lT e i (.bV g) (.v (.int e2 b1))=some (.bV (g.drop (b1.toNat*e))):=by simp[lT,a,b]
def TG:G K (.pY e i Z e9) j f s=dD (lT e i (al j Z) (al j e9)) (bZ (λa=>s a f) ()):=by
 simp only[G,lT];generalize al j Z=b;generalize al j e9=c;cases b<;>first
  |rfl
  |(cases c<;>first
    |rfl
    |(rename_i d;cases d<;>first
      |rfl
      |(simp only[kq,jx];exact propext and_assoc.symm)))
def eA (b:Nat) (a:Option R):Option R:=
 match a with
 |some a=>if a.cells.length=b then some (.bV a.cells)else none
 |none=>none
def jy (a:n.cells.length=e):eA e (some n)=some (.bV n.cells):=by simp[eA,a]
def cL (b:Nat) (h k:R):Option R:=
 match h,k with
 | .J xs _,.v (.int _ a)=>if 0<=a then eA b xs[a.toNat]? else none
 | .bA c off len _ d,.v (.int _ a)=>if d=b/\0<=a/\a<len then some (.ptr c (off+a.toNat*b))else none
 | .an c len _ d,.v (.int _ a)=>if d=b/\0<=a/\a<len then some (.ptr c (a.toNat*b))else none
 | _,_=>none
def hG (a:0<=b1):cL e (.J g M) (.v (.int e2 b1))=eA e g[b1.toNat]? :=by simp[cL,a]
theorem jz (a:0<=b1) (b:b1<v):cL e (.an i v O e) (.v (.int e2 b1))=some (.ptr i (b1.toNat*e)):=by simp[cL,a,b]
theorem tB (a:0<=b1) (b:b1<O):cL e (.bA i v O b8 e) (.v (.int e2 b1))=some (.ptr i (v+b1.toNat*e)):=by simp[cL,a,b]
theorem TH:G K (.dG e Z e9) j f s=dD (cL e (al j Z) (al j e9)) (bZ (λc=>s c f) ()):=by
 simp only[G,cL];generalize al j Z=d;generalize al j e9=h;cases d<;>first
  |rfl
  |(cases h<;>first
    |rfl
    |(rename_i k;cases k<;>first
      |rfl
      |(
        simp only[kq,jx];apply propext;constructor
        .rintro⟨o,p,r,x⟩;exact⟨⟨o,p,r⟩,x⟩
        simp_all)
      |(
        rename_i y C D a;by_cases b:0<=a
        .simp only[b,true_and,if_true,eA];generalize y[a.toNat]? =z;cases z<;>first|rfl|(simp only[kq,jx])
        .simp[b,dD])))
def Bx (c:Bool) (a b:Nat) (d:R):Option R:=
 match d with
 | .agg cs=>if a+b<=cs.length then some (aX c b (cs.drop a))else none
 | _=>none
def TI (a:e+i<=g.length):Bx I e i (.agg g)=some (aX I i (g.drop e)):=by simp[Bx,a]
def tC (c:Bool) (a d:Nat) (h k:R):Option R:=
 match h,k with
 | .agg cs,.v (.int _ b)=>if 0<=b/\b<d/\b.toNat*a+a<=cs.length then some (aX c a (cs.drop (b.toNat*a)))else none
 | _,_=>none
def TJ (a:0<=b1) (b:b1<i) (c:b1.toNat*e+e<=g.length):tC I e i (.agg g) (.v (.int e2 b1))=some (aX I e (g.drop (b1.toNat*e))):=by simp[tC,a,b,c]
theorem TK:G K (.pZ I e i Z e9) j f s=dD (tC I e i (al j Z) (al j e9)) (bZ (λa=>s a f) ()):=by
 simp only[G,tC];generalize al j Z=b;generalize al j e9=c;cases b<;>first
  |rfl
  |(cases c<;>first
    |rfl
    |(rename_i d;cases d<;>first
      |rfl
      |(simp only[kq,jx];grind)))
def p0 (c:Fr) (a:List R):List (Nat×Nat×Operand)->(List R->Prop)->Prop
 | [],b=>b a
 |(off,cm,h)::k,b=>mP (al c h) λd=>gN (d.cells.length=cm/\off+cm<=a.length) (oZ (some (putAt a off d.cells)) λo=>p0 c o k b)
def TL {a:List R->Prop}:p0 j g [] a=a g:=rfl
def TM {a:List (Nat×Nat×Operand)}{b:List R->Prop}:p0 j g ((e,i,Z)::a) b=mP (al j Z) (bZ (λc=>gN (c.cells.length=i/\e+i<=g.length) (cv (oZ (some (putAt g e c.cells)) (bZ (λd=>p0 j d a b) ())) ())) ()):=rfl
theorem By {b:List R->Prop}: ∀(c:List (Nat×Nat×Operand)) (a:List R),kl j a c b=p0 j a c b
 | [],_=>rfl
 |(off,cm,h)::d,a=>by
  simp only[kl,p0,mP,gN,oZ,By d];grind
def TN {a:List (Nat×Nat×Operand)}:G K (.lG g a) j f s=p0 j g a λb=>s (.agg b) f:=By a g
def fa (b:R):Option R:=
 match b with
 | .J xs _=>some (.v (.int .i64 xs.length))
 | .bA _ _ a _ _=>some (.v (.int .i64 a))
 | .an _ a _ _=>some (.v (.int .i64 a))
 | _=>none
def TO:fa (.an i e v O)=some (.v (.int .i64 e)):=rfl
def TP:fa (.J g M)=some (.v (.int .i64 g.length)):=rfl
def TQ:fa (.bA i v e O b8)=some (.v (.int .i64 e)):=rfl
def TR:G K (.len Z) j f s=dD (fa (al j Z)) (bZ (λa=>s a f) ()):=by simp only[G,fa];generalize al j Z=b;cases b<;>rfl
def iY (c:BinOp) (a b:R):Option R:=
 match a,b with
 | .v a,.v b=>(bn c a b).map .v
 | _,_=>none
theorem rQ {a:BinOp}{b:Value}:iY a (.v e5) (.v b)=(bn a e5 b).map .v:=rfl
def TS {a:BinOp}:G K (.bin a Z e9) j f s=dD (iY a (al j Z) (al j e9)) (bZ (λb=>s b f) ()):=by
 simp only[G,iY];generalize al j Z=c;generalize al j e9=d;cases c<;>first
  |rfl
  |(cases d<;>first
    |rfl
    |(rename_i v h;simp only[];generalize bn a v h=k;cases k<;>rfl))
def wC (b:UnOp) (a:R):Option R:=
 match a with
 | .v a=>(nN b a).map .v
 | _=>none
def TT {a:UnOp}:wC a (.v e5)=(nN a e5).map .v:=rfl
def TU {a:UnOp}:G K (.un a Z) j f s=dD (wC a (al j Z)) (bZ (λb=>s b f) ()):=by simp only[G,wC];generalize al j Z=c;cases c<;>first|rfl|(rename_i v;simp only[];generalize nN a v=d;cases d<;>rfl)
def wD (a:IntKind) (b:R):Option R:=
 match b with
 | .v (.int _ c)=>some (.v (.int a (a.wrap c)))
 | _=>none
def TV {a:IntKind}:wD e2 (.v (.int a b1))=some (.v (.int e2 (e2.wrap b1))):=rfl
def TW:G K (.iP e2 Z) j f s=dD (wD e2 (al j Z)) (bZ (λa=>s a f) ()):=by simp only[G,wD];generalize al j Z=b;cases b<;>first|rfl|(rename_i v;cases v<;>rfl)
def nU (a:Ctx) (b:FuncId) (c:List R) (d:U) (h:R->U->Prop):Prop:=hC a.p b c d h (up a.k)
def TX {a:List Operand}:G K (.fR b5 a) j f s=nU K b5 (a.map (al j)) f (bO s ()):=rfl
def wE (a:Nat) (b:R):Option R:=
 match b with
 | .aI c=>c[a]?
 | _=>none
def TY:wE e (.aI g)=g[e]? :=rfl
def TZ:G K (.ext Z e) j f s=dD (wE e (al j Z)) (bZ (λa=>s a f) ()):=by simp only[G,wE];generalize al j Z=b;cases b<;>first|rfl|(rename_i c;cases c[e]? <;>rfl)
def U0 (c:Bool) (a b:R):Option R:=
 match a,b with
 | .v (.bool a),.v (.bool b)=>some (.v (.bool (xor c (a==b))))
 | _,_=>none
def U1 {a b:Bool}:U0 I (.v (.bool a)) (.v (.bool b))=some (.v (.bool (xor I (a==b)))):=rfl
def rR (a:Bool) (b c:R):Option R:=
 match b,c with
 | .ptr _ _,.v (.pointer none)=>some (.v (.bool a))
 | .bV _,.v (.pointer none)=>some (.v (.bool a))
 | .v (.pointer none),.v (.pointer none)=>some (.v (.bool (!a)))
 | _,_=>none
def U2:rR I (.ptr e i) (.v (.pointer none))=some (.v (.bool I)):=rfl
def U3:rR I (.bV g) (.v (.pointer none))=some (.v (.bool I)):=rfl
def U4:rR I (.v (.pointer none)) (.v (.pointer none))=some (.v (.bool (!I))):=rfl
def U5:G K (.q1 I Z e9) j f s=dD (rR I (al j Z) (al j e9)) (bZ (λd=>s d f) ()):=by
 simp only[G,rR];generalize al j Z=h;generalize al j e9=c;cases h<;>first
  |rfl
  |(rename_i v;cases v<;>first
    |rfl
    |(cases c<;>first|rfl|(rename_i b;cases b<;>first|rfl|(rename_i a;cases a<;>rfl)))
    |(rename_i a;cases a<;>first|rfl|(cases c<;>first|rfl|(rename_i b;cases b<;>first|rfl|(rename_i a;cases a<;>rfl)))))
  |(cases c<;>first|rfl|(rename_i b;cases b<;>first|rfl|(rename_i a;cases a<;>rfl)))
def intOf (a:R):Option Int:=
 match a with
 | .v (.int _ b)=>some b
 | _=>none
end
def p1 (a:List (Nat×Option (Bool×Nat))) (b:R->U->Prop):gb->Fr->U->Prop:=qd ⟨0,0,.skip,a⟩ b
def bd (c:m.follows .mixedOrders=true) {a:List (Nat×Option (Bool×Nat))} (d:dt m O i=some ⟨e,v,h6,a⟩) (h:g.length<=e)
  (k:bS (Ctx.of m) h6 (p1 a s) (lQ g) f):AC m i g f s:=by
 refine J0 c d h ?_;have b:qd ⟨e,v,h6,a⟩ s=p1 a s:=by funext b j f;rfl
 rw[b];exact k
def U6:lQ g e=g.getD e (.aI []):=rfl
theorem U7 {c:ar}:qd c s .ret j f=dD (iV j f c.results) λd=> ∃b,b.sub f/\s d b:=by
 apply propext;simp only[qd];constructor
 .rintro⟨d,b,a,h,k⟩;rw[a];exact⟨b,h,k⟩
 .intro a;cases o:iV j f c.results with
  |none=>rw[o]at a;exact a.elim
  |some d=>rw[o]at a;obtain⟨b,h,k⟩:=a;grind
def U8 {a:List (Nat×Option (Bool×Nat))}:p1 a s .ret j f=dD (iV j f a) (bZ (λc=> ∃b,b.sub f/\s c b) ()):=U7
def U9 {a:List (Nat×Option (Bool×Nat))}:p1 a s .norm j f=p1 a s .ret j f:=rfl
def Ua:iV j f []=some (.aI []):=rfl
def Ub {a:Nat×Option (Bool×Nat)}:iV j f [a]=gd j f a:=by simp only[iV,fs];cases gd j f a<;>rfl
def Uc:gd j f (e,none)=some (j e):=rfl
def Bz (a:Bool) (b:Nat) (c:U) (d:R):Option R:=
 match d with
 | .ptr h off=>qg a b off (c.read h)
 | _=>none
def Ud:Bz I e f (.ptr i v)=qg I e v (f.read i):=rfl
def Ue:gd j f (e,some (I,i))=Bz I i f (j e):=by rfl
def U.tD:(f.set i Y) e=if e=i then some Y else f e:=rfl
def U.BA:(f.set e (.cells g)).read e=some g:=by simp[U.read,U.set]
def U.Uf:(f.set e (.ro g)).read e=some g:=by simp[U.read,U.set]
def U.Ug (a:e≠i):(f.set i Y).read e=f.read e:=by simp[U.read,U.set,a]
def U.Uh:ef (f.set e (.cells g)) e=some g:=by simp[ef,U.set]
def U.Ui (a:e≠i):ef (f.set i Y) e=ef f e:=by simp[ef,U.set,a]
def U.ae (a:f e=some (.cells g)):f.read e=some g:=by simp[U.read,a]
def U.Uj (a:f e=some (.ro g)):f.read e=some g:=by simp[U.read,a]
def U.aJ (a:f e=some (.cells g)):ef f e=some g:=by simp[ef,a]
theorem U.gC (a:(f.set i Y) e=none):e≠i/\f e=none:=by grind[U.set]
def U.BB {b a:br} (c:i≠e):((f.set e b).set i a).set e Y=((f.set e Y).set i a):=by rw[U.dX _ c,U.set_set]
def U.BC {c a b:br} (d:i≠e) (h:v≠e):(((f.set e c).set i a).set v b).set e Y=(((f.set e Y).set i a).set v b):=by rw[U.dX _ h,BB d]
def U.BD {d a b c:br} (h:i≠e) (k:v≠e) (o:O≠e):((((f.set e d).set i a).set v b).set O c).set e Y=((((f.set e Y).set i a).set v b).set O c):=by rw[U.dX _ o,BC h k]
def U.BE {h a b c d:br} (k:i≠e) (o:v≠e) (p:O≠e) (r:b8≠e):(((((f.set e h).set i a).set v b).set O c).set b8 d).set e Y=(((((f.set e Y).set i a).set v b).set O c).set b8 d):=by rw[U.dX _ r,BD k o p]
def U.BG {k a b c d h:br} (o:i≠e) (p:v≠e) (r:O≠e) (x:b8≠e) (y:j0≠e):((((((f.set e k).set i a).set v b).set O c).set b8 d).set j0 h).set e Y=((((((f.set e Y).set i a).set v b).set O c).set b8 d).set j0 h):=by rw[U.dX _ y,BE o p r x]
def U.BH {a:Nat}{p b c d h k o:br} (r:i≠e) (x:v≠e) (y:O≠e) (z:b8≠e) (C:j0≠e) (D:a≠e):(((((((f.set e p).set i b).set v c).set O d).set b8 h).set j0 k).set a o).set e Y=(((((((f.set e Y).set i b).set v c).set O d).set b8 h).set j0 k).set a o):=by rw[U.dX _ D,BG r x y z C]
def U.BI {a b:Nat}{x c d h k o p r:br} (y:i≠e) (z:v≠e) (C:O≠e) (D:b8≠e) (E:j0≠e) (F:a≠e) (G:b≠e):((((((((f.set e x).set i c).set v d).set O h).set b8 k).set j0 o).set a p).set b r).set e Y=((((((((f.set e Y).set i c).set v d).set O h).set b8 k).set j0 o).set a p).set b r):=by rw[U.dX _ G,BH y z C D E F]
def U.Uk {a b c:Nat}{z d h k o p r x y:br} (C:i≠e) (D:v≠e) (E:O≠e) (F:b8≠e) (G:j0≠e) (L:a≠e) (P:b≠e) (S:c≠e):(((((((((f.set e z).set i d).set v h).set O k).set b8 o).set j0 p).set a r).set b x).set c y).set e Y=(((((((((f.set e Y).set i d).set v h).set O k).set b8 o).set j0 p).set a r).set b x).set c y):=by rw[U.dX _ S,BI C D E F G L P]
def aN {b:cz j5} (c: ∀a,f a=none->j5 a):iX f (bZ j5 b):=c
def ct {h:cz (bS K (.loop h6) e8 j f)} (a:Fr->U->Prop) (b:Fr->U->Nat) (k:a j f) (o: ∀j f,a j f->bS K h6 (eN (λc d=>a c d/\b c d<b j f) e8) j f):
  cv (bS K (.loop h6) e8 j f) h:=⟨a,b,k,o⟩
theorem ag {c:cz s} (d:AC K.p b5 g f a7) (h: ∀a b,a7 a b->s a b):nU K b5 g f (bO s c):=(d.mono h).p
theorem U.a1:f.sub f:=λ_ _ a=>a
theorem U.af (a:t.sub f) (c:t e=none):t.sub (f.set e Y):=λd h b=>by
 rw[U.tD];split;simp_all
 .exact a _ _ b
theorem U.kX (b:t.sub f):(t.set e Y).sub (f.set e Y):=λd h a=>by
 rw[U.tD]at a|-;split;simp_all
 .rename_i c;rw[if_neg c]at a;exact b _ _ a
end
theorem wrap_i64 (c: -9223372036854775808<=b1) (d:b1<9223372036854775808):IntKind.i64.wrap b1=b1:=by have a:((2:Int)^IntKind.i64.bits)=18446744073709551616:=rfl;have b:((2:Int)^(IntKind.i64.bits - 1))=9223372036854775808:=rfl;simp only[IntKind.wrap,a,b,IntKind.signed,a6k,decide_eq_true_eq];omega
theorem kr:IntKind.u64.wrap b1=b1%18446744073709551616:=by have a:((2:Int)^IntKind.u64.bits)=18446744073709551616:=rfl;rfl
def wF:IntKind.u32.wrap b1=b1%4294967296:=by have a:((2:Int)^IntKind.u32.bits)=4294967296:=rfl;rfl
def tE:IntKind.u8.wrap b1=b1%256:=by have a:((2:Int)^IntKind.u8.bits)=256:=rfl;rfl
theorem wrap_u64 (a:0<=b1) (b:b1<18446744073709551616):IntKind.u64.wrap b1=b1:=by rw[kr];omega
def wrap_u32 (a:0<=b1) (b:b1<4294967296):IntKind.u32.wrap b1=b1:=by rw[wF];omega
theorem wrap_u8 (a:0<=b1) (b:b1<256):IntKind.u8.wrap b1=b1:=by rw[tE];omega
def Ul (a:UInt8):IntKind.u32.wrap (a.toNat:Int)=(a.toUInt32.toNat:Int):=by have:=a.toNat_lt;rw[wrap_u32 a9p a9p];simp
def Um (a:UInt8):IntKind.u64.wrap (a.toNat:Int)=(a.toUInt64.toNat:Int):=by have:=a.toNat_lt;rw[wrap_u64 a9p a9p];simp
def Un (a:UInt32):IntKind.u8.wrap (a.toNat:Int)=(a.toUInt8.toNat:Int):=by rw[tE];simp
def Uo (a:UInt64):IntKind.u8.wrap (a.toNat:Int)=(a.toUInt8.toNat:Int):=by rw[tE];simp
section
variable (a b:Int)
def Up:bn .add (.int .i64 a) (.int .i64 b)=some (.int .i64 (IntKind.i64.wrap (a+b))):=rfl
def Uq:bn .sub (.int .i64 a) (.int .i64 b)=some (.int .i64 (IntKind.i64.wrap (a - b))):=rfl
def Ur:bn .mul (.int .i64 a) (.int .i64 b)=some (.int .i64 (IntKind.i64.wrap (a*b))):=rfl
def Us (c:b≠0):bn .quo (.int .i64 a) (.int .i64 b)=some (.int .i64 (IntKind.i64.wrap (a.tdiv b))):=by simp[bn,fq,hD,c]
def Ut (c:b≠0):bn .rem (.int .i64 a) (.int .i64 b)=some (.int .i64 (a.tmod b)):=by simp[bn,fq,hD,c]
variable (k:IntKind)
def Uu:bn .eql (.int k a) (.int k b)=some (.bool (decide (a=b))):=by simp[bn,fq,hD]
def Uv:bn .neq (.int k a) (.int k b)=some (.bool (decide (a≠b))):=by simp[bn,fq,hD]
def Uw:bn .lss (.int k a) (.int k b)=some (.bool (decide (a<b))):=by simp[bn,fq,hD]
def Ux:bn .leq (.int k a) (.int k b)=some (.bool (decide (a<=b))):=by simp[bn,fq,hD]
def Uy:bn .gtr (.int k a) (.int k b)=some (.bool (decide (b<a))):=by simp[bn,fq,hD]
def Uz:bn .geq (.int k a) (.int k b)=some (.bool (decide (b<=a))):=by simp[bn,fq,hD]
def UA (c:Bool):nN .not (.bool c)=some (.bool !c):=rfl
end
def UB (a b:Int):bn .add (.int .u64 a) (.int .u64 b)=some (.int .u64 (IntKind.u64.wrap (a+b))):=rfl
def UC (a b:Int):bn .sub (.int .u64 a) (.int .u64 b)=some (.int .u64 (IntKind.u64.wrap (a - b))):=rfl
def UD (a b:Int):bn .mul (.int .u64 a) (.int .u64 b)=some (.int .u64 (IntKind.u64.wrap (a*b))):=rfl
theorem rS (c:Nat) (d:IntKind) (b:Int) (k:0<=b) (o:b<64):bn .shr (.int .u64 c) (.int d b)=some (.int .u64 (c>>>b.toNat:Nat)):=by
 obtain⟨a,rfl⟩: ∃a:Nat,b=a:=⟨b.toNat,a9p⟩;have h:min a IntKind.u64.bits=a:=by simp[IntKind.bits];omega
 have p:(2)^a=((2^a:Nat):Int):=a9q;simp only[bn,fq,if_true,nM,if_neg (show¬(a:Int)<0 by omega),a5q,h,a5L];grind
def ir (a:Nat):IntKind.u8.wrap (a:Int)=((UInt8.ofNat a).toNat:Int):=by rw[tE];simp
variable{w:List UInt8}
theorem UE (a:0<=b1) (b:b1.toNat<w.length):cL 1 (.J (w.map ak) M) (.v (.int e2 b1))=some (.bV [.v (.int .u8 (w.getD b1.toNat 0).toNat)]):=by
 rw[hG a,a5n,a4M b];have:w.getD b1.toNat 0=w[b1.toNat]:=by simp_all
 rw[this];rfl
def UF (a:Decidable True): @decide True a=true:=a9q
def UG (a:Decidable False): @decide False a=false:=a9q
def BJ:aX true e g= .agg (g.take e):=rfl
def BK:R.cells (.J g M)= [.J g M]:=rfl
def BL:R.cells (.v e5)= [.v e5]:=rfl
def BM:R.cells (.ptr e i)= [.ptr e i]:=rfl
def BN:R.cells (.bV g)= [.bV g]:=rfl
def BO:R.cells (.iface b2 n)= [.iface b2 n]:=rfl
def hI:R.cells (.agg g)=g:=rfl
theorem rT (a:g.length=B.length):putAt B 0 g=g:=by simp[putAt,a]
def UH:aX false 1 (n::g)=n:=rfl
section
variable (x y:UInt32)
def UI:bn .add (.int .u32 x.toNat) (.int .u32 y.toNat)=some (.int .u32 (x+y).toNat):=by rfl
def BP:bn .sub (.int .u32 x.toNat) (.int .u32 y.toNat)=some (.int .u32 (x - y).toNat):=by have:=x.toNat_lt;have:=y.toNat_lt;simp only[bn,fq,hD,wF,UInt32.toNat_sub];simp;omega
def BQ:bn .mul (.int .u32 x.toNat) (.int .u32 y.toNat)=some (.int .u32 (x*y).toNat):=by rfl
theorem qh (a:Nat) (b:a<4294967296):IntKind.u32.wrap (a:Int)=a:=wrap_u32 a9p a9p
def ofInt_u32:BitVec.ofInt 32 (x.toNat:Int)=x.toBitVec:=by simp
def UJ:bn .and (.int .u32 x.toNat) (.int .u32 y.toNat)=some (.int .u32 (x&&&y).toNat):=by have a:bn .and (.int .u32 x.toNat) (.int .u32 y.toNat)=some (.int .u32 (IntKind.u32.wrap (BitVec.ofInt 32 (x.toNat)&&&BitVec.ofInt 32 (y.toNat)).toNat)):=rfl;rw[a,ofInt_u32,ofInt_u32,qh _ (a8N _)];rfl
def UK:bn .or (.int .u32 x.toNat) (.int .u32 y.toNat)=some (.int .u32 (x|||y).toNat):=by have a:bn .or (.int .u32 x.toNat) (.int .u32 y.toNat)=some (.int .u32 (IntKind.u32.wrap (BitVec.ofInt 32 (x.toNat)|||BitVec.ofInt 32 (y.toNat)).toNat)):=rfl;rw[a,ofInt_u32,ofInt_u32,qh _ (a8N _)];rfl
def UL:bn .xor (.int .u32 x.toNat) (.int .u32 y.toNat)=some (.int .u32 (x^^^y).toNat):=by have a:bn .xor (.int .u32 x.toNat) (.int .u32 y.toNat)=some (.int .u32 (IntKind.u32.wrap (BitVec.ofInt 32 (x.toNat)^^^BitVec.ofInt 32 (y.toNat)).toNat)):=rfl;rw[a,ofInt_u32,ofInt_u32,qh _ (a8N _)];rfl
def UM:nN .xor (.int .u32 x.toNat)=some (.int .u32 (~~~x).toNat):=by
 have a:nN .xor (.int .u32 x.toNat)=some (.int .u32 (IntKind.u32.wrap (BitVec.ofInt 32 4294967295^^^BitVec.ofInt 32 (x.toNat)).toNat)):=rfl;rw[a,ofInt_u32,qh _ (a8N _)];have:(BitVec.ofInt 32 4294967295^^^x.toBitVec)= ~~~x.toBitVec:=by rw[BitVec.not_def];rfl
 rw[this];rfl
theorem UN (c:IntKind) (a:Int) (h:0<=a) (k:a<32):bn .shl (.int .u32 x.toNat) (.int c a)=some (.int .u32 (x<<<UInt32.ofNat a.toNat).toNat):=by
 obtain⟨b,rfl⟩: ∃b:Nat,a=b:=⟨a.toNat,a9p⟩;have hm:b<32:=a9p;have d:min b IntKind.u32.bits=b:=by simp[IntKind.bits];omega
 simp only[bn,fq,if_true,nM,if_neg (show¬(b:Int)<0 by omega),a5q,d,wF,UInt32.toNat_shiftLeft,UInt32.toNat_ofNat',a7c];grind
theorem UO (c:IntKind) (a:Int) (h:0<=a) (k:a<32):bn .shr (.int .u32 x.toNat) (.int c a)=some (.int .u32 (x>>>UInt32.ofNat a.toNat).toNat):=by
 obtain⟨b,rfl⟩: ∃b:Nat,a=b:=⟨a.toNat,a9p⟩;have hm:b<32:=a9p;have d:min b IntKind.u32.bits=b:=by simp[IntKind.bits];omega
 simp only[bn,fq,if_true,nM,if_neg (show¬(b:Int)<0 by omega),a5q,d,UInt32.toNat_shiftRight,UInt32.toNat_ofNat',a5L];grind
end
def aR (a:Nat) (b:List R):Prop:= ∀c∈b,c.cells.length=a
def UP:aR e []=True:=by simp[aR]
def BR:aR e (n::g)=(n.cells.length=e/\aR e g):=by simp[aR]
theorem UQ:aR e (g++B)=(aR e g/\aR e B):=by grind[aR]
theorem tF:aR 1 (w.map ak)=True:=by simp[aR,ak,R.cells]
def bh (a b:U) (h:Nat) (c:List R) (k:Own):Prop:=
 a.sub b/\match k with
  | .buf d o=>a d=none/\b d=some (.buf h c.length o)
  | .any=>False
  | _=>c= []
theorem U.aq (c:f.sub t) (d:t.sub e4):f.sub e4:=λa b h=>d a b (c a b h)
def U.bF (b:f.sub t) (a:t e=none):f e=none:=by
 cases bW:f e with
 |none=>rfl
 |some c=>rw[b e c bW]at a;cases a
theorem bh.nil (a:t.sub f) {b:Nat}:bh t f b [] .nil:=⟨a,rfl⟩
def bh.zero (a:t.sub f) {b:Nat}:bh t f b [] .zero:=⟨a,rfl⟩
def bh.sub {a:Nat}{b:List R}{c:Own} (d:bh t f a b c):t.sub f:=d.1
theorem bh.base {o:Own} (b:bh t f e g o) (c:e4.sub t):bh e4 f e g o:=by
 refine⟨U.aq c b.1,?_⟩;have a:=b.2;cases o with
 |buf d h=>exact⟨U.bF c a.1,a.2⟩
 | _=>exact a
def bh.mono (b:bh t f e g M) (c:f.sub e4):bh t e4 e g M:=by
 refine⟨U.aq b.1 c,?_⟩;have a:=b.2;cases M with
 |buf d h=>exact⟨a.1,c _ _ a.2⟩
 | _=>exact a
theorem bh.set {c a:Nat}{d:List R}{b:Own}{ob p:br} (h:bh t f c d b) (k:t a=some p):bh (t.set a ob) (f.set a ob) c d b:=by
 refine⟨U.kX h.1,?_⟩;have o:=h.2;cases b with
 |buf r x=>
  have y:r≠a:=by rintro rfl;rw[o.1]at k;cases k
  grind[U.ao]
 | _=>exact o
theorem bh.new {ob:br} (a:bh t f i g M) (b:f e=none):bh (t.set e ob) (f.set e ob) i g M:=by
 refine⟨U.kX a.1,?_⟩;have c:=a.2;cases M with
 |buf d h=>
  have k:d≠e:=by rintro rfl;rw[c.2]at b;cases b
  grind[U.ao]
 | _=>exact c
def lU (d x:Nat) (c:U) (y z:R) (k:R->U->Prop):Prop:=
 match y,z with
 | .J xs r,.J a _=>(∀o∈xs,o.cells.length=d)/\(∀o∈a,o.cells.length=d)/\(xs.length+a.length)*x<=140737488355328/\xs.length+a.length<=9223372036854775807/\
   match r with
   | .buf p C=>c p=some (.buf d xs.length C)/\ ∀b h,(b=p\/c b=none)->k (.J (xs++a) (.buf b h)) ((c.del p).set b (.buf d (xs.length+a.length) h))
   | .any=>False
   | _=>xs= []/\(if a= []then k (.J [] r) c else∀b h,c b=none->k (.J a (.buf b h)) (c.set b (.buf d a.length h)))
 | _,_=>False
def UR:G K (.app e i Z e9) j f s=lU e i f (al j Z) (al j e9) (bO s ()):=rfl
theorem dY {C:cz s} (a:bh t f e g M) (D:aR e g) (E:aR e B) (F:(g.length+B.length)*i<=140737488355328) (G:g.length+B.length<=9223372036854775807)
  (c: ∀p r,bh t r e (g++B) p->s (.J (g++B) p) r):lU e i f (.J g M) (.J B e6) (bO s C):=by
 have d:=a.2;refine⟨D,E,F,G,?_⟩;cases M with
 |any=>trivial
 |nil=>
  obtain rfl:g= []:=d;refine⟨rfl,?_⟩;split
  .rename_i h;subst h;exact c _ _ ⟨a.1,rfl⟩
  .intro k x b;refine c _ _ ⟨U.af a.1 (U.bF a.1 b),U.bF a.1 b,?_⟩;rw[U.ai];simp
 |zero=>
  obtain rfl:g= []:=d;refine⟨rfl,?_⟩;split
  .rename_i h;subst h;exact c _ _ ⟨a.1,rfl⟩
  .intro k x b;refine c _ _ ⟨U.af a.1 (U.bF a.1 b),U.bF a.1 b,?_⟩;rw[U.ai];simp
 |buf L T=>
  refine⟨d.2,λk x b=>c _ _ ?_⟩;have y:t k=none:=by rcases b with rfl|b;exact d.1;exact U.bF a.1 b
  refine⟨U.af (λz P o=> ?_) y,y,?_⟩
  .have S:z≠L:=by rintro rfl;rw[d.1]at o;cases o
   rw[U.eG _ S];exact a.1 z P o
  .rw[U.ai,a4O]
def jE (d:Nat) (b:U) (a:List R) (h:R->U->Prop):Prop:=
 (∀k∈a,k.cells.length=d)/\(if a.length=0 then h (.J [] .zero) b else∀c,b c=none->h (.J a (.buf c a.length)) (b.set c (.buf d a.length a.length)))
def US {a:List Operand}:G K (.kf e a) j f s=jE e f (a.map (al j)) (bO s ()):=by simp only[G,jE,bO,a4Y]
def dc {k:cz s} (a:t.sub f) (o:aR e g) (b: ∀c d,bh t d e g c->s (.J g c) d):jE e f g (bO s k):=by
 refine⟨o,?_⟩;split
 .rename_i p;obtain rfl:=a4R p;exact b _ _ ⟨a,rfl⟩
 .intro r h;exact b _ _ ⟨U.af a (U.bF a h),U.bF a h,by rw[U.ai]⟩
def cG (a:Option R) (b:Nat):Option Int:=
 match a with
 |none=>some b
 |some c=>intOf c
def fU (a:Own) (b c:Option R):Own:=
 match b,c with
 |none,none=>a
 | _,_=> .any
def dI (c:Nat) (a:R) (d h:Option R):Option R:=
 match a with
 | .J xs p=>match cG d 0,cG h xs.length with
  |some a,some b=>if 0<=a/\a<=b/\b<=xs.length/\xs.all (λr=>decide (r.cells.length=c))then some (.J ((xs.take b.toNat).drop a.toNat) (fU p d h))else none
  | _,_=>none
 | .bA k off len cap o=>match cG d 0,cG h len with
  |some a,some b=>if o=c/\0<=a/\a<=b/\b<=len/\a<len then some (.bA k (off+a.toNat*c) (b.toNat - a.toNat) (cap - a.toNat) c)else none
  | _,_=>none
 | .an k len cap o=>match cG d 0,cG h len with
  |some a,some b=>if o=c/\0<=a/\a<=b/\b<=len/\(d.isSome=true->a<len)then some (q5 d.isSome k a.toNat b.toNat cap c)else none
  | _,_=>none
 | _=>none
def wG (a:Option Operand) (b:Nat):da j a b=cG (a.map (al j)) b:=by
 cases a with
 |none=>rfl
 |some a=>simp only[da,cG,a5O,intOf];rfl
def UT (a b:Option Operand):vI M a b=fU M (a.map (al j)) (b.map (al j)):=by cases a<;>cases b<;>rfl
theorem UU {a d:Option Operand}:G K (.oQ e Z a d) j f s=dD (dI e (al j Z) (a.map (al j)) (d.map (al j))) (bZ (λo=>s o f) ()):=by
 have p:a.isSome=(a.map (al j)).isSome:=a9q;simp only[G,dI,wG,UT (j:=j) a d,p];generalize al j Z=r;generalize a.map (al j)=h;generalize d.map (al j)=k;cases r<;>try rfl
 .rename_i x D;simp only[];generalize cG h 0=b;generalize cG k x.length=c;cases b<;>cases c<;>try rfl
  simp only[kq,jx,a5e,decide_eq_true_eq];grind
 .rename_i y E len z C;simp only[];generalize cG h 0=b;generalize cG k len=c;cases b<;>cases c<;>try rfl
  simp only[kq,jx];grind
 .rename_i y len z C;simp only[];generalize cG h 0=b;generalize cG k len=c;cases b<;>cases c<;>try rfl
  simp only[kq,jx];grind
def UW (a:0<=b1) (b:b1<=v):dI e (.an i v O e) none (some (.v (.int e2 b1)))=some (.an i b1.toNat O e):=by simp[dI,cG,intOf,a,b,q5]
def UX (a:aR e g):dI e (.J g M) none none=some (.J g M):=by
 have:(g.all λb=>decide (b.cells.length=e))=true:=by simpa[aR] using a
 simp[dI,cG,fU,this]
theorem qi (a:0<=b1) (b:b1<=g.length) (c:aR e g):dI e (.J g M) (some (.v (.int e2 b1))) none=some (.J (g.drop b1.toNat) .any):=by
 have:(g.all λd=>decide (d.cells.length=e))=true:=by simpa[aR] using c
 simp[dI,cG,fU,intOf,this,a,b]
theorem nV (a:0<=b1) (b:b1<=g.length) (c:aR e g):dI e (.J g M) none (some (.v (.int e2 b1)))=some (.J (g.take b1.toNat) .any):=by grind[decide,aR,dI,cG,fU,intOf]
theorem BS {b:IntKind}{a:Int} (c:0<=b1) (d:b1<=a) (h:a<=g.length) (k:aR e g):dI e (.J g M) (some (.v (.int e2 b1))) (some (.v (.int b a)))=some (.J ((g.take a.toNat).drop b1.toNat) .any):=by grind[decide,aR,dI,cG,fU,intOf]
def tG (b:Bool) (a:List (Nat×c8)) (c d:R) (h:R->Prop):Prop:=
 match c,d with
 | .agg cs,.agg cJ=>dm a cs/\dm a cJ/\h (.v (.bool (xor b (peq (.agg cs) (.agg cJ)))))
 | _,_=>False
variable{j4:List (Nat × c8)}
def UY:G K (.eqv I j4 Z e9) j f s=tG I j4 (al j Z) (al j e9) (bZ (λa=>s a f) ()):=rfl
theorem UZ {a:R->Prop}:tG I j4 (.agg g) (.agg B) a=gN (dm j4 g/\dm j4 B) (cv (a (.v (.bool (xor I (peq (.agg g) (.agg B)))))) ()):=by simp only[tG,gN,cv];grind
def V0:(w.map ak).drop e=(w.drop e).map ak:=a9q
def V1:(w.map ak).take e=(w.take e).map ak:=a9q
def bh.V2 (a:t.sub f):bh t f 1 (([]:List UInt8).map ak) .nil:=⟨a,rfl⟩
theorem mQ {a:List UInt8}{d:cz s} (h:bh t f 1 (w.map ak) M) (k:w.length+a.length<=140737488355328)
  (o: ∀b c,bh t c 1 ((w++a).map ak) b->s (.J ((w++a).map ak) b) c):lU 1 1 f (.J (w.map ak) M) (.J (a.map ak) e6) (bO s d):=by
 grind[dY,tF]
def wH {a:UInt8}{d:cz s} (h:bh t f 1 (w.map ak) M) (k:w.length+1<=140737488355328)
  (o: ∀b c,bh t c 1 ((w++ [a]).map ak) b->s (.J ((w++ [a]).map ak) b) c):lU 1 1 f (.J (w.map ak) M) (.J [ak a] e6) (bO s d):=
 mQ (a:= [a]) h k o
def rU {a:UInt8}{d:cz s} (h:t.sub f) (k: ∀b c,bh t c 1 [ak a] b->s (.J [ak a] b) c):jE 1 f [.v (.int .u8 a.toNat)] (bO s d):=
 dc (g:= [a].map ak) h (by rw[tF];trivial) k
def wI (a:e<w.length):(w.map ak)[e]? =some (.v (.int .u8 (w.getD e 0).toNat)):=by
 rw[a5n,a4M a];have:w.getD e 0=w[e]:=by simp[a]
 rw[this];rfl
def BT {b c:Fr->U->Prop} (d: ∀j f,b j f->c j f): ∀(h:List c7) (j:Fr) (f:U),iT K h b j f->iT K h c j f
 | [],j,f,a=>d j f a
 | _::k,j,f,a=>rC (λj f a=>BT d k j f a) a
def BU {b:Nat->c7}{c d:Fr->U->Prop} (h: ∀j f,c j f->d j f): ∀(k:List di) (j:Fr) (f:U),can K b c k j f->can K b d k j f
 | [],j,f,a=>h j f a
 | _::o,j,f,a=>⟨a.1,rC (λj f a=>⟨a.1,BU h o j f a.2⟩) a.2⟩
theorem iZ: ∀(o:dH) {h k:gb->Fr->U->Prop} (_: ∀c j f,h c j f->k c j f) (j:Fr) (f:U),bS K o h j f->bS K o k j f
 | .skip,_,_,b,j,f,a=>b _ j f a
 | .ret,_,_,b,j,f,a=>b _ j f a
 | .exit _,_,_,b,j,f,a=>b _ j f a
 | .plain ops,_,_,b,j,f,a=>BT (b _) ops j f a
 | .draw _ y,_,_,b,j,f,a=>BU (b _) y j f a
 | .seq d p,h,k,b,j,f,a=>iZ d (λc j f a=>by
   cases c with
   |norm=>exact iZ p b j f a
   |exit x=>exact b _ j f a
   |ret=>exact b _ j f a) j f a
 | .block x d,h,k,b,j,f,a=>iZ d (λc j f a=>by
   cases c with
   |norm=>exact b _ j f a
   |exit G=>simp only[kW]at a|-;grind
   |ret=>exact b _ j f a) j f a
 | .cond o d p,h,k,b,j,f,a=>by
   simp only[wA,Bs,kp]at a|-;split at a
   .exact⟨λr=>iZ d b j f (a.1 r),λr=>iZ p b j f (a.2 r)⟩
   .trivial
 | .loop d,h,k,b,j,f,a=>by
   obtain⟨z,C,D,E⟩:=a;exact⟨z,C,D,λj f F=>iZ d (λc j f a=>by
    cases c with
    |norm=>exact a
    |exit x=>exact b _ j f a
    |ret=>exact b _ j f a) j f (E j f F)⟩
def BV {b c:dH}{k:cz (bS K b (eN (bS K h6 e8) e8) j f)}{o:cz (bS K c (eN (bS K h6 e8) e8) j f)} (d:Fr->U->Prop)
  (p:I=true->bS K b (eN d e8) j f) (r:I=false->bS K c (eN d e8) j f) (x: ∀j f,d j f->bS K h6 e8 j f):
  kp (.v (.bool I)) (cv (bS K b (eN (bS K h6 e8) e8) j f) k) (cv (bS K c (eN (bS K h6 e8) e8) j f) o):=by
 have hm: ∀h j f,eN d e8 h j f->eN (bS K h6 e8) e8 h j f:=λh j f a=>by
  cases h with
  |norm=>exact x j f a
  |exit y=>exact a
  |ret=>exact a
 exact⟨λa=>iZ b hm j f (p a),λa=>iZ c hm j f (r a)⟩
def rV (b c:R):Option R:=
 match b,c with
 | .v (.string d),.v (.int _ a)=>if 0<=a then(match d.data[a.toNat]? with|some h=>some (.v (.int .u8 h.toNat))|none=>none)else none
 | _,_=>none
def V3:G K (.lF Z e9) j f s=dD (rV (al j Z) (al j e9)) (bZ (λc=>s c f) ()):=by
 simp only[G,rV];generalize al j Z=d;generalize al j e9=h;cases d<;>first
  |rfl
  |(rename_i v;cases v<;>first
    |rfl
    |(cases h<;>first
      |rfl
      |(rename_i k o;cases o<;>first
        |rfl
        |(
          rename_i r a;simp only[];by_cases b:0<=a
          .simp only[b,true_and,if_true];generalize k.data[a.toNat]? =p;cases p<;>rfl
          .simp[b,dD]))))
def rW (a b:Nat) (c:U) (d:R):Option R:=
 match d with
 | .ptr h off=>match c h with
  |some (.ro cs)=>if off+b*a<=cs.length then some (.J (ee a b (cs.drop off)) .any)else none
  | _=>none
 | _=>none
def V4:G K (.ju e i Z none none) j f s=dD (rW e i f (al j Z)) (bZ (λa=>s a f) ()):=by
 simp only[G,rW,da];generalize al j Z=b;cases b<;>first
  |rfl
  |(
    rename_i c k;simp only[];generalize f c=d;cases d with
    |none=>simp[dD]
    |some h=>cases h with
     |ro cs=>simp only[kq,jx];simp
     | _=>simp[dD])
def V5 (a:f i=some (.ro g)) (b:g.length=e):rW 1 e f (.ptr i 0)=some (.J g .any):=by simp[rW,a,b,ee,a4N]
theorem wJ (a:e<64):bn .shl (.int .i64 b1) (.int e2 (e:Int))=some (.int .i64 (IntKind.i64.wrap (b1*2^e))):=by
 have b:min e IntKind.i64.bits=e:=by simp[IntKind.bits];omega
 simp_all [bn,fq,nM]
def BW (a b:Option R):Option R:=
 match a,b with
 |some a,some b=>some (.aI [a,b])
 | _,_=>none
def V6:BW (some n) (some b3)=some (.aI [n,b3]):=rfl
def V7 {a b:Nat×Option (Bool×Nat)}:iV j f [a,b]=BW (gd j f a) (gd j f b):=by simp only[iV,fs];cases gd j f a<;>cases gd j f b<;>rfl
def BX (a b c:Option R):Option R:=
 match a,b,c with
 |some a,some b,some c=>some (.aI [a,b,c])
 | _,_,_=>none
def V8 {a:R}:BX (some n) (some b3) (some a)=some (.aI [n,b3,a]):=rfl
def V9 {a b c:Nat×Option (Bool×Nat)}:iV j f [a,b,c]=BX (gd j f a) (gd j f b) (gd j f c):=by simp only[iV,fs];cases gd j f a<;>cases gd j f b<;>cases gd j f c<;>rfl
def Va:((0:Nat):Int)=0:=rfl
def Vb:((1:Nat):Int)=1:=rfl
def Vc:((e:Int).tmod (i:Int))=((e%i:Nat):Int):=rfl
def BY:((e:Int).tmod 64)=((e%64:Nat):Int):=Vc (i:=64)
def rX:=
 a4K @SE<|
 a4K @SF<|
 a4K @SG<|
 a4K @SH<|
 a4K @SI<|
 a4K @SJ<|
 a4K @SK<|
 a4K @wA<|
 a4K @SL<|
 a4K @jx<|
 a4K @SD<|
 a4K @SM<|
 a4K @SN<|
 a4K @SO<|
 a4K @SP<|
 a4K @SQ<|
 a4K @SS<|
 a4K @SR<|
 a4K @SU<|
 a4K @SV<|
 a4K @SX<|
 a4K @T4<|
 a4K @T6<|
 a4K @T7<|
 a4K @Ta<|
 a4K @T8<|
 a4K @T9<|
 a4K @Tb<|
 a4K @Tc<|
 a4K @Tg<|
 a4K @Th<|
 a4K @Te<|
 a4K @Tf<|
 a4K @Tn<|
 a4K @Tq<|
 a4K @Tr<|
 a4K @Ts<|
 a4K @Tt<|
 a4K @Tw<|
 a4K @Ty<|
 a4K @TB<|
 a4K @TE<|
 a4K @TG<|
 a4K @TH<|
 a4K @TK<|
 a4K @TN<|
 a4K @TR<|
 a4K @TS<|
 a4K @TU<|
 a4K @TW<|
 a4K @TX<|
 a4K @TZ<|
 a4K @UR<|
 a4K @US<|
 a4K @UU<|
 a4K @V3<|
 a4K @V4<|
 a4K @UY<|
 a4K @U5<|
 a4K @Ti<|
 a4K @Tj<|
 a4K @U6<|
 a4K @TL<|
 a4K @TM<|
 a4K @U8<|
 @U9
def rY:=
 a4K @Bt<|
 a4K @Bu<|
 a4K @SY<|
 a4K @SZ<|
 a4K @T0<|
 a4K @T1<|
 a4K @T2<|
 a4K @Td<|
 a4K @eq_self.{1}<|
 a4K @T5<|
 a4K @a5u.{0}<|
 a4K @a5x.{0}<|
 a4K @UZ<|
 a4K @Option.map_none.{0,0}<|
 a4K @UX<|
 a4K @qi<|
 a4K @nV<|
 a4K @BS<|
 a4K @V0<|
 a4K @V1<|
 a4K @Tk<|
 a4K @Tl<|
 a4K @Tm<|
 a4K @rL<|
 a4K @rK<|
 a4K @To<|
 a4K @Tp<|
 a4K @Tu<|
 a4K @Tv<|
 a4K @Bw<|
 a4K @Tx<|
 a4K @Tz<|
 a4K @TA<|
 a4K @TC<|
 a4K @TD<|
 a4K @rP<|
 a4K @TF<|
 a4K @UE<|
 a4K @tB<|
 a4K @jy<|
 a4K @TI<|
 a4K @TJ<|
 a4K @TP<|
 a4K @TQ<|
 a4K @rQ<|
 a4K @TT<|
 a4K @TV<|
 a4K @TY<|
 a4K @U1<|
 a4K @U2<|
 a4K @U3<|
 a4K @U4<|
 a4K @a5O.{0,0}<|
 a4K @Ub<|
 a4K @Uc<|
 a4K @Ua<|
 a4K @Ue<|
 a4K @Ud<|
 a4K @rT<|
 a4K @a5k.{0,0}<|
 a4K @a6A.{0,0}<|
 a4K @Up<|
 a4K @Uq<|
 a4K @Ur<|
 a4K @Us<|
 a4K @Ut<|
 a4K @Uu<|
 a4K @Uv<|
 a4K @Uw<|
 a4K @Ux<|
 a4K @Uy<|
 a4K @Uz<|
 a4K @UA<|
 a4K @UI<|
 a4K @BP<|
 a4K @BQ<|
 a4K @UJ<|
 a4K @UK<|
 a4K @UL<|
 a4K @UM<|
 a4K @UN<|
 a4K @UO<|
 a4K @wrap_i64<|
 a4K @Ul<|
 a4K @Um<|
 a4K @Un<|
 a4K @Uo<|
 a4K @UB<|
 a4K @UC<|
 a4K @UD<|
 a4K @rS<|
 a4K @wrap_u64<|
 a4K @UH<|
 a4K @BJ<|
 a4K @a4Y.{0,0}<|
 a4K @a4S.{0}<|
 a4K @a4W.{0}<|
 a4K @U.BA<|
 a4K @U.Uf<|
 a4K @U.Ug<|
 a4K @U.Uh<|
 a4K @U.Ui<|
 a4K @U.set_set<|
 a4K @U.BB<|
 a4K @U.BC<|
 a4K @U.BD<|
 a4K @U.BE<|
 a4K @U.BG<|
 a4K @U.BH<|
 a4K @U.BI<|
 a4K @U.Uk<|
 a4K @BK<|
 a4K @BL<|
 a4K @BM<|
 a4K @BN<|
 a4K @BO<|
 a4K @hI<|
 a4K @a6S.{0}<|
 a4K @and_self<|
 a4K @a5m<|
 a4K @a5D<|
 a4K @a7G<|
 a4K @a5q<|
 a4K @true_and<|
 a4K @and_true<|
 a4K @a6M<|
 a4K @a5s<|
 a4K @UF<|
 @UG
def fV:=
 a4K @Va<|
 a4K @Vb<|
 a4K @V7<|
 a4K @V6<|
 a4K @V9<|
 @V8
def bk:=
 a4K @a4S.{0}<|
 a4K @a4W.{0}<|
 a4K @a4Y.{0,0}<|
 a4K @a4O.{0}<|
 a4K @a6E.{0}<|
 a4K @List.length_range<|
 a4K @a4P.{0}<|
 a4K @a5d.{0}<|
 a4K @BK<|
 a4K @BL<|
 a4K @BM<|
 a4K @BN<|
 a4K @BO<|
 a4K @hI<|
 a4K @tF<|
 a4K @UP<|
 a4K @BR<|
 a4K @UQ<|
 a4K @and_true<|
 a4K @true_and<|
 a4K @a5m<|
 a4K @eq_self.{1}<|
 @and_self
def bb (a:List UInt8):R:= .v (.string ⟨a.toArray⟩)
theorem toList_mk (a:List UInt8):(⟨a.toArray⟩:ByteArray).toList=a:=a9q
theorem BZ (a b:List UInt8):bn .eql (.string ⟨a.toArray⟩) (.string ⟨b.toArray⟩)=some (.bool (decide (a=b))):=by grind[bn,pV,toList_mk]
theorem C0 (a b:List UInt8):bn .neq (.string ⟨a.toArray⟩) (.string ⟨b.toArray⟩)=some (.bool (decide (a≠b))):=by grind[bn,pV,toList_mk]
def nW (a:List UInt8):(⟨a.toArray⟩:ByteArray).size=a.length:=by rfl
variable{u:bl}{l h7:World}
section
def Vd:rM K ⟨some e,e3,some (i,I)⟩ j f=hF (j i) I (cv (G K e3 j f (λa _=>a=j e)) ()) (cv ((.aI []:R)=j e) ()):=rfl
def Ve {a:Option Nat}:Def K ⟨a,e3,some (e,I)⟩ j=hF (j e) I (cv (G K e3 j U.emp (λ_ _=>True)) ()) (cv True ()):=rfl
def mR (a:R):Option R:=
 match a with
 | .J xs _=>match bytesOf xs with
  |some b=>some (.v (.string ⟨b.toArray⟩))
  |none=>none
 | _=>none
def C1:mR (.J (w.map ak) M)=some (.v (.string ⟨w.toArray⟩)):=by simp[mR,rp]
def Vf:G K (.q2 Z) j f s=dD (mR (al j Z)) (bZ (λa=>s a f) ()):=by simp only[G,mR];generalize al j Z=b;cases b<;>first|rfl|(rename_i c h;simp only[];generalize bytesOf c=d;cases d<;>rfl)
def qj (d:Bool) (a b:R):Option R:=
 match a,b with
 | .v (.int c a),.v (.int h b)=>if c=h then some (.v (.int c (if d then max a b else min a b)))else none
 | _,_=>none
def Vg {a:Int}:qj true (.v (.int e2 b1)) (.v (.int e2 a))=some (.v (.int e2 (max b1 a))):=by simp[qj]
def Vh {a:Int}:qj false (.v (.int e2 b1)) (.v (.int e2 a))=some (.v (.int e2 (min b1 a))):=by simp[qj]
def Vi:G K (.lH I e2 Z e9) j f s=dD (qj I (al j Z) (al j e9)) (bZ (λa=>s a f) ()):=by
 simp only[G,qj];generalize al j Z=b;generalize al j e9=c;cases b<;>first
  |rfl
  |(rename_i v;cases v<;>first
    |rfl
    |(cases c<;>first
      |rfl
      |(rename_i d;cases d<;>first|rfl|(simp only[kq,jx]))))
def rZ (a:R):Option R:=
 match a with
 | .v (.string b)=>some (.v (.int .i64 b.size))
 | _=>none
def wK:rZ (.v (.string ⟨w.toArray⟩))=some (.v (.int .i64 w.length)):=by rfl
def Vj:G K (.q0 Z) j f s=dD (rZ (al j Z)) (bZ (λa=>s a f) ()):=by simp only[G,rZ];generalize al j Z=b;cases b<;>first|rfl|(rename_i v;cases v<;>rfl)
def qk (a:R) (d h:Option R):Option R:=
 match a with
 | .v (.string b)=>match cG d 0,cG h b.size with
  |some a,some c=>if 0<=a/\a<=c/\c<=b.size then some (.v (.string (b.extract a.toNat c.toNat)))else none
  | _,_=>none
 | _=>none
def wL (a:List UInt8) (b c:Nat):(⟨a.toArray⟩:ByteArray).extract b c=⟨((a.take c).drop b).toArray⟩:=by apply ByteArray.ext;simp only[ByteArray.data_extract];simp[a6f]
def Vk (a:0<=b1) (b:b1<=w.length):qk (.v (.string ⟨w.toArray⟩)) (some (.v (.int e2 b1))) none=some (.v (.string ⟨(w.drop b1.toNat).toArray⟩)):=by simp[qk,cG,intOf,nW,a,b,wL]
def Vl (a:0<=b1) (b:b1<=w.length):qk (.v (.string ⟨w.toArray⟩)) none (some (.v (.int e2 b1)))=some (.v (.string ⟨(w.take b1.toNat).toArray⟩)):=by simp[qk,cG,intOf,nW,a,b,wL]
def Vm {b:IntKind}{a:Int} (c:0<=b1) (d:b1<=a) (h:a<=w.length):qk (.v (.string ⟨w.toArray⟩)) (some (.v (.int e2 b1))) (some (.v (.int b a)))=some (.v (.string ⟨((w.take a.toNat).drop b1.toNat).toArray⟩)):=by simp[qk,cG,intOf,nW,c,d,h,wL]
theorem C2 (a:0<=b1) (b:b1<w.length):rV (.v (.string ⟨w.toArray⟩)) (.v (.int e2 b1))=some (.v (.int .u8 (w.getD b1.toNat 0).toNat)):=by grind[List.getD,rV]
def C3 (c:Nat) (h:U) (r x:R) (p:R->U->Prop):Prop:=
 match r,x with
 | .bA d off a _ k,.J b _=>k=c/\(∀o∈b,o.cells.length=c)/\match h d with
  |some (.cells cs)=>off+a*c<=cs.length/\p (.v (.int .i64 (min b.length a))) (h.set d (.cells (putAt cs off (flat (b.take a)))))
  | _=>False
 | .an d a _ k,.J b _=>k=c/\(∀o∈b,o.cells.length=c)/\match h d with
  |some (.cells cs)=>a*c<=cs.length/\p (.v (.int .i64 (min b.length a))) (h.set d (.cells (putAt cs 0 (flat (b.take a)))))
  | _=>False
 | _,_=>False
def Vn:G K (.mz e Z e9) j f s=C3 e f (al j Z) (al j e9) (bO s ()):=rfl
def C4 {a:cz s} (b:aR e g) (c:f v=some (.cells B)) (d:O+i*e<=B.length)
  (h:s (.v (.int .i64 (min g.length i))) (f.set v (.cells (putAt B O (flat (g.take i)))))):C3 e f (.bA v O i b8 e) (.J g M) (bO s a):=by
 refine⟨rfl,b,?_⟩;rw[c];trivial
def tH (c b:Nat) (k:U) (a:R) (o p:Option R):Option R:=
 match a with
 | .ptr h off=>match cG o 0,cG p b with
  |some a,some d=>match k.read h with
   |some cs=>if 0<=a/\a<=d/\d<=b/\off+b*c<=cs.length/\a<b then some (.bA h (off+a.toNat*c) (d.toNat - a.toNat) (b - a.toNat) c)else none
   |none=>none
  | _,_=>none
 | _=>none
def wM (a:f.read v=some g) (b:O+e*i<=g.length) (c:0<e):tH i e f (.ptr v O) none none=some (.bA v O e e i):=by simp[tH,cG,a,b,c]
theorem Vo {a b:Option Operand}:G K (.kg i e Z a b false) j f s=dD (tH i e f (al j Z) (a.map (al j)) (b.map (al j))) (bZ (λc=>s c f) ()):=by
 simp only[G,tH,wG];generalize al j Z=d;generalize a.map (al j)=h;generalize b.map (al j)=k;cases d<;>try rfl
 rename_i o y;simp only[];generalize cG h 0=p;generalize cG k e=r;generalize f.read o=x;cases p<;>cases r<;>cases x<;>first
  |rfl
  |(simp[dD];done)
  |(
    simp only[kq,jx,a5M,if_false];grind)
def nX (d:Nat) (b:U) (a:List R) (h:R->U->Prop):Prop:=
 (∀k∈a,k.cells.length=d)/\(if a.length=0 then h (.J [] .zero) b else∀c,b c=none->h (.an c a.length a.length d) (b.set c (.cells (flat a))))
def Vp {a:List Operand}:G K (.ki e a) j f s=nX e f (a.map (al j)) (bO s ()):=by simp only[G,nX,bO,a4Y]
def nY {a:cz s}:nX e f [] (bO s a)=s (.J [] .zero) f:=by simp[nX,bO]
def eO {b:cz s} (c:aR e g) (d:g≠ []) (h: ∀a,f a=none->s (.an a g.length g.length e) (f.set a (.cells (flat g)))):nX e f g (bO s b):=by refine⟨c,?_⟩;rw[if_neg (λk=>d (a4R k))];exact h
def C5 (d h:Nat) (k:List R) (c:U) (o p:R) (r:R->U->Prop):Prop:=
 match o,p with
 | .v (.int _ a),.v (.int _ x)=>a=x/\0<=a/\a<=9223372036854775807/\a*h<=281474976710656/\ ∀b,c b=none->r (.an b a.toNat a.toNat d) (c.set b (.cells (List.replicate a.toNat k).flatten))
 | _,_=>False
def Vq:G K (.kh e i g Z e9) j f s=C5 e i g f (al j Z) (al j e9) (bO s ()):=rfl
theorem wN {b:IntKind}{c:cz s} (d:e*v<=281474976710656) (h:e<=9223372036854775807) (k: ∀a,f a=none->s (.an a e e i) (f.set a (.cells (List.replicate e g).flatten))):
  C5 i v g f (.v (.int e2 (e:Int))) (.v (.int b (e:Int))) (bO s c):=⟨rfl,a9p,a9p,a9p,λa o=>by
 grind[bO,Int.toNat_natCast]⟩
def jG (c z:Nat) (d:U) (E F:R) (x:R->U->Prop):Prop:=
  match mI d c F with
  |some (b,y)=>match E with
    | .J xs D=>xs= []/\(D= .nil\/D= .zero)/\b*z<=140737488355328/\b<=9223372036854775807/\
      (if b=0 then x (.J [] D) d else∀h k p,d h=none->b<=k->k<=maxLen->p.length=(k - b)*c->x (.an h b k c) (d.set h (.cells (y++p))))
    | .an r a k C=>match d r with
      |some (.cells cs)=>C=c/\cs.length=k*c/\(a+b)*z<=140737488355328/\a+b<=9223372036854775807/\
        (if a+b<=k then x (.an r (a+b) k c) (d.set r (.cells (putAt cs (a*c) y)))
         else∀h o p,d h=none->a+b<=o->o<=maxLen->p.length=(o -(a+b))*c->x (.an h (a+b) o c) (d.set h (.cells (cs.take (a*c)++y++p))))
      |some (.fg cs)=>C=c/\cs.length=k*c/\(a+b)*z<=140737488355328/\a+b<=9223372036854775807/\
        (if a+b<=k then x (.an r (a+b) k c) (d.set r (.fg (putAt cs (a*c) y)))
         else∀h o p,d h=none->a+b<=o->o<=maxLen->p.length=(o -(a+b))*c->x (.an h (a+b) o c) (d.set h (.cells (cs.take (a*c)++y++p))))
      | _=>False
    | .bA r off a k C=>match d r with
      |some (.cells cs)=>C=c/\off+k*c<=cs.length/\(a+b)*z<=140737488355328/\a+b<=9223372036854775807/\
        (if a+b<=k then x (.bA r off (a+b) k c) (d.set r (.cells (putAt cs (off+a*c) y)))
         else∀h o p,d h=none->a+b<=o->o<=maxLen->p.length=(o -(a+b))*c->x (.an h (a+b) o c) (d.set h (.cells ((cs.drop off).take (a*c)++y++p))))
      | _=>False
    | _=>False
  |none=>False
def Vr:G K (.lI e i Z e9) j f s=jG e i f (al j Z) (al j e9) (bO s ()):=rfl
def au (p r:U) (a:Nat) (d:List R) (h:R):Prop:=
 p.sub r/\((d= []/\(h= .J [] .nil\/h= .J [] .zero))\/ ∃k b c o,h= .an k b c a/\p k=none/\r k=some (.cells o)/\o.length=c*a/\o.take (b*a)=d/\d.length=b*a/\b<=c/\c<=maxLen)
theorem au.nil {a b:U}{c:Nat} (d:a.sub b):au a b c [] (.J [] .nil):=⟨d,.inl ⟨rfl,.inl rfl⟩⟩
def au.zero {a b:U}{c:Nat} (d:a.sub b):au a b c [] (.J [] .zero):=⟨d,.inl ⟨rfl,.inr rfl⟩⟩
def au.mono {a:R} (d:au f t e g a) (c:t.sub e4):au f e4 e g a:=by
 obtain⟨h,b⟩:=d;refine⟨U.aq h c,?_⟩;rcases b with b|⟨k,o,p,r,x,y,z,C⟩
 .exact .inl b
 .exact .inr ⟨k,o,p,r,x,y,c _ _ z,C⟩
theorem au.base (c:au f e4 e g n) (b:t.sub f):au t e4 e g n:=by
 obtain⟨d,a⟩:=c;refine⟨U.aq b d,?_⟩;rcases a with a|⟨h,k,o,p,r,x,y⟩
 .exact .inl a
 .exact .inr ⟨h,k,o,p,r,U.bF b x,y⟩
def au.new {ob:br} (h:au t f i g n) (k:f e=none):au (t.set e ob) (f.set e ob) i g n:=by
 obtain⟨o,a⟩:=h;refine⟨U.kX o,?_⟩;rcases a with a|⟨c,p,r,x,y,z,b,C⟩
 .exact .inl a
 .have d:c≠e:=by rintro rfl;rw[k]at b;cases b
  exact .inr ⟨c,p,r,x,y,by rw[U.ao _ _ d];exact z,by rw[U.ao _ _ d];exact b,C⟩
theorem au.src (b:au t f e g n): ∃a,g.length=a*e/\bN f e n=some (a,g)/\fa n=some (.v (.int .i64 a)):=by
 obtain⟨h,c⟩:=b;rcases c with ⟨rfl,rfl|rfl⟩|⟨k,a,o,p,rfl,r,x,y,z,d,C,D⟩
 .exact⟨0,a9q,rfl,rfl⟩
 .exact⟨0,a9q,rfl,rfl⟩
 .refine⟨a,d,?_,rfl⟩;simp_all [a5c,bN,U.ae]
theorem fh {l:cz s} (m:au t f e B n) (G:0<e) (q:bN f e b3=some (i,g)) (h:g.length=i*e) (u:(B.length+g.length)*v<=140737488355328*e) (w:B.length+g.length<=9223372036854775807)
  (r: ∀L P,au t P e (B++g) L->s L P):jG e v f n b3 (bO s l):=by
 obtain⟨b,A⟩:=m;unfold jG;rw[vJ q];simp only[bO];have da: ∀a,B.length=a*e->(a+i)*v<=140737488355328/\a+i<=9223372036854775807:=by
  intro a H;have x:B.length+g.length=(a+i)*e:=by rw[H,h,a5V]
  rw[x]at u w;constructor
  .have:(a+i)*v*e<=140737488355328*e:=by grind
   exact Nat.le_of_mul_le_mul_right this G
  .have:(a+i)*1<=(a+i)*e:=a9f _ G;omega
 rcases A with ⟨rfl,Y⟩|⟨I,a,c,y,rfl,S,K,z,T,V,Z,M⟩
 .obtain⟨C,W⟩:=da 0 a9q;have j9: ∀k,(k= .nil\/k= .zero)->(([]:List R)= []/\(k= .nil\/k= .zero)/\i*v<=140737488355328/\i<=9223372036854775807/\
   (if i=0 then s (.J [] k) f else∀d c o,f d=none->i<=c->c<=maxLen->o.length=(c - i)*e->s (.an d i c e) (f.set d (.cells (g++o))))):=by
   intro k N;refine⟨rfl,N,by simpa using C,a9p,?_⟩;split
   .rename_i hm;subst hm;have:g= []:=a4R (by simpa using h);subst this;refine r _ _ ⟨b,.inl ⟨rfl,?_⟩⟩;simp_all
   .intro d c o p D E F;refine r _ _ ⟨U.af b (U.bF b p),.inr ⟨d,i,c,g++o,rfl,U.bF b p,U.ai _ _ _,?_,?_,by trivial,D,E⟩⟩
    .rw[a4O,h,F,<-a5V];congr 1;omega
    .rw[<-h,a7u];rfl
  grind
 .obtain⟨C,W⟩:=da a V;simp only[K];refine⟨trivial,z,C,W,?_⟩;have O:(y.take (a*e)).length=a*e:=by rw[T,V]
  split
  .rename_i j;have Q:a*e+g.length<=y.length:=by rw[h,z,<-a5V];exact a5c _ j
   refine r _ _ ⟨U.af b S,.inr ⟨I,a+i,c,_,rfl,S,U.ai _ _ _,?_,?_,by grind,j,M⟩⟩
   .rw[eH _ _ _ Q,z]
   .have x:(a+i)*e=(y.take (a*e)++g).length:=by grind
    rw[putAt,x,a7u,T]
  .intro d X o p D E F;refine r _ _ ⟨U.af b (U.bF b p),.inr ⟨d,a+i,X,_,rfl,U.bF b p,U.ai _ _ _,?_,?_,by grind,D,E⟩⟩
   .rw[a4O,a4O,O,h,F,<-a5V,<-a5V];congr 1;omega
   .have x:(a+i)*e=(y.take (a*e)++g).length:=by grind
    grind
theorem C6:bN f 1 (.J (w.map ak) M)=some (w.length,w.map ak):=by grind[ak,decide,R.cells,bN,ru]
def wO (a:U) (b:R):Option R:=
 match bN a 1 b with
 |some (_,xs)=>match bytesOf xs with
  |some c=>some (.v (.string ⟨c.toArray⟩))
  |none=>none
 |none=>none
def Vs (a:bN f 1 n=some (e,w.map ak)):wO f n=some (.v (.string ⟨w.toArray⟩)):=by simp[wO,a,rp]
def tI (a:R):Option R:=
 match a with
 | .v (.string b)=>some (.J (b.data.toList.map ak) .any)
 | _=>none
def Vt:tI (.v (.string ⟨w.toArray⟩))=some (.J (w.map ak) .any):=by rfl
def Vu:G K (.q3 Z) j f s=dD (tI (al j Z)) (bZ (λa=>s a f) ()):=by simp only[G,tI];generalize al j Z=b;cases b<;>first|rfl|(rename_i v;cases v<;>rfl)
theorem aY.frozen {v:Value} (h:Holds u f l) (k:f O=some (.ro g)) (o:e*i<=g.length) (p:aY u v (.an O e b8 i)):aY u v (.J (ee i e g) .any):=by
 obtain⟨r,x,T,L,P,c,S⟩:=h.dO O _ k;have V:=c.1;cases p with
 |an O e b8 i hk y=>
  obtain⟨z,C,d⟩:=vR hk o r;by_cases D:e=0
  .subst D;have:=a4R d;rw[this];exact .dg _ _ _ (λE=>by cases E) trivial
  .refine .J O 0 e b8 i (λa=>x.getD a Go.undef) _ .any hk d.symm y z ?_ ?_ ?_ trivial;grind;grind
   .intro a F b;rw[C]at b;have G:a<e*i:=by grind
    rw[a5N G]at b;exact c.2 a F b
end
def s0:=
 a4K @Vp<|
 a4K @Vr<|
 a4K @Vq<|
 a4K @Vu<|
 a4K @Vf<|
 a4K @Vi<|
 a4K @Vj<|
 a4K @Vn<|
 a4K @Vo<|
 a4K @Vd<|
 @Ve
def s3:=
 a4K @Vt<|
 a4K @jz<|
 a4K @TO<|
 a4K @UW<|
 a4K @C1<|
 a4K @Vg<|
 a4K @Vh<|
 a4K @wK<|
 a4K @Vk<|
 a4K @Vl<|
 a4K @Vm<|
 a4K @wM<|
 a4K @C0<|
 a4K @BZ<|
 a4K @C2<|
 a4K @ite_true.{1}<|
 a4K @ite_false.{1}<|
 a4K @a5H<|
 a4K @a5G<|
 a4K @a7v<|
 a4K @Bool.true_xor<|
 a4K @a6k<|
 a4K @a7d<|
 a4K @decide_true<|
 @decide_false
section
def Vv {a b:List Operand}:G K (.bG b5 a b) j f s=mP (.bG b5 (a.map (al j)) (b.map (al j))) (bZ (λc=>s c f) ()):=rfl
def wP (a:Ctx) (b:R) (c:List R) (d:U) (h:R->U->Prop):Prop:=
 match b with
 | .bG fn cJ cs=>fZ a.p fn=true/\hC a.p fn (cJ++c++cs) d h (up a.k)
 | _=>False
def Vw {a:List Operand}:G K (.iQ Z a) j f s=wP K (al j Z) (a.map (al j)) f (bO s ()):=rfl
def fD {c:cz s} (d:fZ K.p b5=true) (h:AC K.p b5 (g++e0++B) f a7) (k: ∀a b,a7 a b->s a b):wP K (.bG b5 g B) e0 f (bO s c):=⟨d,(h.mono k).p⟩
def Vx:G K (.q4 b2 Z) j f s=mP (.iface b2 (al j Z)) (bZ (λa=>s a f) ()):=rfl
def p2 (d:TypeId) (a:Bool) (b:R) (h:R):Option R:=
 match h with
 | .iface k c=>if k=d then some (if a then .aI [c,.v (.bool true)]else c)else if a=true then some (.aI [b,.v (.bool false)])else none
 | .v .nilIface=>if a=true then some (.aI [b,.v (.bool false)])else none
 | _=>none
def Vy:p2 b2 true b3 (.iface b2 n)=some (.aI [n,.v (.bool true)]):=by simp[p2]
def Vz {a:TypeId} (b:a≠b2):p2 b2 true n (.iface a b3)=some (.aI [n,.v (.bool false)]):=by simp[p2,b]
def VA:p2 b2 true n (.v .nilIface)=some (.aI [n,.v (.bool false)]):=by rfl
def VB:p2 b2 false b3 (.iface b2 n)=some n:=by simp[p2]
def C7 (a:Bool) (b:R):Option R:=
 match b with
 | .iface _ _=>some (.v (.bool a))
 | .v .nilIface=>some (.v (.bool (!a)))
 | _=>none
def VC:C7 I (.iface b2 n)=some (.v (.bool I)):=rfl
def VD:C7 I (.v .nilIface)=some (.v (.bool (!I))):=rfl
def C8 (a:Bool) (b:R):Option R:=
 match b with
 | .bG _ _ _=>some (.v (.bool a))
 | .v .nilFunc=>some (.v (.bool (!a)))
 | _=>none
def VE:C8 I (.bG e g B)=some (.v (.bool I)):=rfl
def VF:C8 I (.v .nilFunc)=some (.v (.bool (!I))):=rfl
def VG (a:Ctx) (b:R) (c:U):Prop:=
 match b with
 | .iface d h=>up a.k (.iface d h) c
 | _=>False
def VH:G K (.mB Z) j f s=VG K (al j Z) f:=rfl
def wQ (b:R) (c:U) (d:Nat->ByteArray->Prop):Prop:=
 match b with
 | .v (.string h)=> ∀a,c a=none->d a h
 | _=>False
def VI:G K (.kj Z) j f s=wQ (al j Z) f (bO (λa b=>s (.ptr a 0) (f.set a (.it b 0))) ()):=rfl
def C9 {a:Nat->ByteArray->Prop}{b:cz a}:wQ (.v (.string ⟨w.toArray⟩)) f (bO a b)=iX f (bZ (λc=>a c ⟨w.toArray⟩) ()):=rfl
def wR (h:R) (b:U) (c:R->U->Prop):Prop:=
 match h with
 | .ptr d off=>off=0/\match b d with
  |some (.it a pos)=>if pos<a.size then c (.aI [.v (.bool true),.v (.int .i64 pos),.v (.int .i32 (Utf8.decode a pos).1)]) (b.set d (.it a (pos+(Utf8.decode a pos).2)))else c (.aI [.v (.bool false)]) b
  | _=>False
 | _=>False
def VJ:G K (.mC Z) j f s=wR (al j Z) f (bO s ()):=rfl
def VK {a:cz s} (b:f i=some (.it ⟨w.toArray⟩ e)) (c:e<w.length)
  (d:s (.aI [.v (.bool true),.v (.int .i64 e),.v (.int .i32 (Utf8.decode ⟨w.toArray⟩ e).1)]) (f.set i (.it ⟨w.toArray⟩ (e+(Utf8.decode ⟨w.toArray⟩ e).2)))):wR (.ptr i 0) f (bO s a):=by
 refine⟨rfl,?_⟩;rw[b];simp only[nW,if_pos c];exact d
def VL {a:cz s} (b:f e=some (.it ⟨w.toArray⟩ i)) (c: ¬i<w.length) (d:s (.aI [.v (.bool false)]) f):wR (.ptr e 0) f (bO s a):=by refine⟨rfl,?_⟩;rw[b];simp only[nW,if_neg c];exact d
def wS (a:R):Option R:=
 match a with
 | .J [] .nil=>some (.v (.pointer none))
 | .an b _ cap _=>if 0<cap then some (.ptr b 0)else none
 | _=>none
def VM:wS (.J [] .nil)=some (.v (.pointer none)):=rfl
def VN (a:0<i):wS (.an e v i O)=some (.ptr e 0):=by simp[wS,a]
def VO:bS K .refuse e8 j f=False:=rfl
def U.VP:(f.set e (.oL b2 g)).read e=some g:=by simp[U.read,U.set]
def VQ:(R.bG e g B).cells= [.bG e g B]:=rfl
def VR:rN (.bG e g B)=some (.bG e g B):=rfl
def s4 (a:Bool) (b:U) (h k:R):Option R:=
 match h,k with
  | .ptr _ _,.v (.pointer none)=>some (.v (.bool a))
  | .v (.pointer none),.ptr _ _=>some (.v (.bool a))
  | .v (.pointer none),.v (.pointer none)=>some (.v (.bool (!a)))
  | .ptr c o,.ptr d p=>if vK b c=true/\vK b d=true then some (.v (.bool (xor a (decide (c=d/\o=p)))))else none
  | _,_=>none
def VS (a:vK f e=true):s4 I f (.ptr e i) (.ptr e i)=some (.v (.bool (!I))):=by simp[s4,a]
def VT:s4 I f (.ptr e i) (.v (.pointer none))=some (.v (.bool I)):=rfl
def VU:s4 I f (.v (.pointer none)) (.ptr e i)=some (.v (.bool I)):=rfl
def VV:s4 I f (.v (.pointer none)) (.v (.pointer none))=some (.v (.bool (!I))):=rfl
end
def VW:(true==true)=true:=rfl
def VX:(true==false)=false:=rfl
def VY:(false==true)=false:=rfl
def VZ:(false==false)=true:=rfl
def Ca:=
 a4K @Vv<|
 a4K @Vw<|
 a4K @Vx<|
 a4K @VH<|
 a4K @VI<|
 a4K @VJ<|
 @VO
def Cb:=
 a4K @VW<|
 a4K @VX<|
 a4K @VY<|
 a4K @VZ<|
 a4K @Vy<|
 a4K @Vz<|
 a4K @VA<|
 a4K @VB<|
 a4K @VC<|
 a4K @VD<|
 a4K @VE<|
 a4K @VF<|
 a4K @C9<|
 a4K @VM<|
 a4K @VN<|
 a4K @U.VP<|
 a4K @VQ<|
 a4K @VR<|
 a4K @VS<|
 a4K @VT<|
 a4K @VU<|
 @VV
noncomputable def jH (b:R->Option R) (c v:R):R->Option R:=λa=> @ite _ (a=c) (Classical.propDecidable _) (some v) (b a)
def tJ {a:R->Option R}{v:R}:jH a n v n=some v:=by simp[jH]
def ql {a:R->Option R}{v:R} (b:n≠b3):jH a b3 v n=a n:=by simp[jH,b]
def wT (b:R): ∀(a:List (R×R×Nat)) (c:Nat),dC a b c=(dC a b 0).map λd=>(d.1+c,d.2)
 | [],_=>rfl
 |h::a,c=>by
  unfold dC;split
  .simp
  .rw[wT b a (c+1),wT b a (0+1)];cases dC a b 0<;>simp[a8y,Nat.add_left_comm,a8o]
theorem kY (b:R×R×Nat) (d:List (R×R×Nat)) (a:R):dC (b::d) a 0= @ite _ (a=b.1) (Classical.propDecidable _) (some (0,b.2.1)) ((dC d a 0).map λh=>(h.1+1,h.2)):=by
 conv=>lhs;unfold dC
 rw[wT a d (0+1)];by_cases c:a=b.1
 .rw[if_pos ((pW _ _).2 c),if_pos c]
 .rw[if_neg (λk=>c ((pW _ _).1 k)),if_neg c]
theorem Cc (b v:R) (o:Nat) (a:R): ∀c:List (R×R×Nat),dC c b 0=none->(dC (c++ [(b,v,o)]) a 0).map (·.2)=jH (λa=>(dC c a 0).map (·.2)) b v a
 | [],_=>by
  grind[kY,jH,dC]
 |p::c,h=>by
  rw[kY]at h;split at h
  .cases h
  .next r=>
   have x:dC c b 0=none:=by simp_all
   have ih:=Cc b v o a c x;rw[a6a,kY];by_cases d:a=p.1
   .have k:a≠b:=λy=>r (by rw[<-y];exact d);rw[if_pos d,ql k];rw[kY,if_pos d]
   .rw[if_neg d];by_cases k:a=b;simp_all [tJ]
    .rw[ql k]at ih|-;rw[kY,if_neg d,a8k,a8k];exact ih
theorem Cd (c v k:R) (b:R): ∀(d:List (R×R×Nat)) (o:Nat),dC d c 0=some (o,v)->(dC (d.modify o λh=>(h.1,k,h.2.2)) b 0).map (·.2)=jH (λb=>(dC d b 0).map (·.2)) c k b
 | [],_,a=>by trivial
 |h::d,o,a=>by
  rw[kY]at a;split at a
  .next p=>
   simp only[a4X,a5W]at a;obtain⟨rfl,_⟩:=a;rw[a8R,kY];by_cases a:b=c
   .subst a;rw[tJ];simp[p]
   simp_all [ql,kY]
  .next p=>
   cases r:dC d c 0 with
   |none=>rw[r]at a;cases a
   |some y=>
    rw[r]at a;simp only[a5O,a4X,a5W]at a;obtain⟨rfl,rfl⟩:=a;have ih:=Cd c y.2 k b d y.1 r;rw[a8S,kY];by_cases a:b=h.1
    .have x:b≠c:=λz=>p (by rw[<-z];exact a);rw[if_pos a,ql x];rw[kY,if_pos a]
    .rw[if_neg a];by_cases x:b=c;simp_all [tJ]
     .rw[ql x]at ih|-;rw[kY,if_neg a,a8k,a8k];exact ih
structure kZ (rs:List (Nat×c8)) (us:List (R×R×Nat)) (a:Nat) (b:R->Option R):Prop where
 val: ∀k,(dC us k 0).map (·.2)=b k
 keys:rn rs us
 born:(us.map (·.2.2)).Nodup
 lt: ∀c∈us,c.2.2<a
def kZ.new:kZ j4 [] 0 λ_=>none:=⟨λ_=>rfl,λb a=>by simp at a,a9q,λb a=>by simp at a⟩
theorem W0 (a:List (R×R×Nat)) (c:Nat) (v:R):(a.modify c λb=>(b.1,v,b.2.2)).map (·.2.2)=a.map (·.2.2):=by
 induction a generalizing c with
 |nil=>simp
 |cons b a ih=>grind
theorem mem_modify {b:List (R×R×Nat)}{v:R}{a:R×R×Nat} (d:a∈b.modify e λa=>(a.1,v,a.2.2)): ∃c∈b,a.1=c.1/\a.2.2=c.2.2:=by
 induction b generalizing e with
 |nil=>simp at d
 |cons c b ih=>grind
theorem kZ.set {a:List (R×R×Nat)}{p:R->Option R} (b:kZ j4 a i p) {v:R} (r:dC a n 0=some (e,v)):kZ j4 (a.modify e λc=>(c.1,b3,c.2.2)) i (jH p n b3) where
 val:=λx=>by
  rw[Cd n v b3 x a e r];simp only[jH];rw[b.val]
 keys:=λc d=>by
  obtain⟨h,k,o,_⟩:=mem_modify d;rw[o];exact b.keys h k
 born:=by rw[W0];exact b.born
 lt:=λc d=>by
  obtain⟨h,k,_,o⟩:=mem_modify d;rw[o];exact b.lt h k
theorem kZ.push {d:List (R×R×Nat)}{h:R->Option R} (b:kZ j4 d e h) {v:R} (x:dm j4 g) (o:dC d (.agg g) 0=none):kZ j4 (d++ [(.agg g,v,e)]) (e+1) (jH h (.agg g) v) where
 val:=λp=>by
  rw[Cc _ v e p d o];simp only[jH];rw[b.val]
 keys:=λc a=>by
  rcases a5a.1 a with a|a
  .exact b.keys c a
  simp_all
 born:=by rw[a5P,List.nodup_append];refine⟨b.born,a9q,?_⟩;intro y r z k;obtain⟨c,a,rfl⟩:=a5h.1 r;simp at k;subst k;exact Nat.ne_of_lt (b.lt c a)
 lt:=λc a=>by
  rcases a5a.1 a with a|a
  .exact Nat.lt_succ_of_lt (b.lt c a)
  simp_all
def qm (c:U) (d:Nat) (h:List (Nat×c8)) (k:R->Option R):Prop:= ∃a b,c d=some (.mp a b)/\kZ h a b k
def a4C (h:U) (k:Nat) (o:List (Nat×c8)) (p:R->Option R) (r:R) (x:Nat):Prop:=
 ∃a b,h k=some (.mp a b)/\ ∀v,∃c,Hd a (x:Int)=some c/\kZ o (a.modify c λd=>(d.1,v,d.2.2)) b (jH p r v)
section
def W1:G K .kk j f s=iX f (bZ (λa=>s (.gL a) (f.set a (.mp [] 0))) ()):=rfl
def tK (a:Bool) (b:List (Nat×c8)) (c:R) (h:U) (k o:R) (d:R->Prop):Prop:=
 match k,o with
 | .gL p,.agg cs=>match h p with
  |some (.mp us _)=>dm b cs/\rn b us/\(match dC us (.agg cs) 0 with
   |some (_,v)=>d (if a then .aI [v,.v (.bool true)]else v)
   |none=>d (if a then .aI [c,.v (.bool false)]else c))
  | _=>False
 | _,_=>False
def W2:G K (.lJ I j4 n Z e9) j f s=tK I j4 n f (al j Z) (al j e9) (bZ (λa=>s a f) ()):=by simp only[G,tK];generalize al j Z=b;generalize al j e9=c;rfl
def Ce {c:R->Option R}{a:R->Prop}{k:cz a} (o:qm f e j4 c) (p:dm j4 g)
  (r: ∀v,c (.agg g)=some v->a (if I then .aI [v,.v (.bool true)]else v)) (x:c (.agg g)=none->a (if I then .aI [n,.v (.bool false)]else n)):tK I j4 n f (.gL e) (.agg g) (bZ a k):=by
 obtain⟨y,C,z,d⟩:=o;simp only[tK,z];refine⟨p,d.keys,?_⟩;have b:=d.val (.agg g);cases h:dC y (.agg g) 0 with
 |none=>rw[h]at b;exact x b.symm
 |some D=>rw[h]at b;exact r _ b.symm
def tL (a:List (Nat×c8)) (b:U) (d h v:R) (k:U->Prop):Prop:=
 match d,h with
 | .gL c,.agg cs=>match b c with
  |some (.mp us clock)=>dm a cs/\rn a us/\k (b.set c (.mp (kP us (.agg cs) v clock).1 (kP us (.agg cs) v clock).2))
  | _=>False
 | _,_=>False
def W3 {v:Operand}:G K (.lK j4 Z e9 v) j f s=tL j4 f (al j Z) (al j e9) (al j v) (bZ (λa=>s (.aI []) a) ()):=by simp only[G,tL];generalize al j Z=b;generalize al j e9=c;rfl
def W4 {v:R}{c:R->Option R}{a:U->Prop}{o:cz a} (p:qm f e j4 c) (d:dm j4 g)
  (r: ∀h,qm (f.set e h) e j4 (jH c (.agg g) v)->a (f.set e h)):tL j4 f (.gL e) (.agg g) v (bZ a o):=by
 obtain⟨x,z,y,b⟩:=p;simp only[tL,y];refine⟨d,b.keys,r _ ⟨_,_,U.ai _ _ _,?_⟩⟩;unfold kP;cases k:dC x (.agg g) 0 with
 |none=>exact b.push d k
 |some C=>exact b.set k
end
theorem wU {a b:List UInt8}:iY .neq (bb a) (bb b)=some (.v (.bool (!decide (a=b)))):=by grind[bb,rQ,C0]
def qn {a b:List UInt8}:iY .eql (bb a) (bb b)=some (.v (.bool (decide (a=b)))):=by simp only[bb,rQ,BZ a b];rfl
def W5:wO f (.J (w.map ak) M)=some (bb w):=Vs C6
def p3 {a:List UInt8}{b:Own}:mR (.J (a.map ak) b)=some (bb a):=C1
def mS (k:(∀a,R.J a .nil∈g->a= [])->AC m b5 g f s):AC m b5 g f s:=λb o p c r=>by
 refine k (λa x=> ?_) b o p c r;obtain⟨d,y,z⟩:=a5y x;have h:=c.2 d _ (by rw[a4M y,z]);generalize b.getD d undef=v at h;cases h with
 |dg=>rfl
 |J C off len cap D E a F hk hlen G L P hH S T=>trivial
def W6:=
 a4K @W1<|
 a4K @W2<|
 @W3
def W7:=
 a4K @wU<|
 a4K @qn<|
 a4K @W5<|
 @p3
def qo:=a4K rX (a4K s0 (a4K Ca W6))
def W8:=a4K rY<|a4K fV<|a4K s3<|a4K Cb W7
attribute [go_sem ↓] qo
attribute [go_sem] W8 a6s ne_eq not_true_eq_false not_false_eq_true a6x a6J al ofConst cS
def aj (a:N) (b:h2) (c:N->b4=h2:=by intro d;simp -dsimp -implicitDefEqProofs (disch:=first|omega|assumption|(simp only[bk,Nat.reduceAdd];try omega)) only[go_sem,simprocAttr,-List.reduceReplicate,d];rfl):b4:=(c a).mpr b
def bT (a:b4) (b:N=b4:=by simp -dsimp -implicitDefEqProofs (disch:=first|omega|assumption|(simp only[bk,Nat.reduceAdd];try omega)) only[go_sem,simprocAttr,-List.reduceReplicate];rfl):N:=b.mpr a
def aE (a:N) (b:h2) (c:N->b4=h2:=by intro d;simp -dsimp -implicitDefEqProofs (disch:=first|omega|assumption|(simp only[bk,Nat.reduceAdd];try omega)) only[go_sem,simprocAttr,d];rfl):b4:=(c a).mpr b
def eB (a:b4) (b:N=b4:=by simp -dsimp -implicitDefEqProofs (disch:=first|omega|assumption|(simp only[bk,Nat.reduceAdd];try omega)) only[go_sem,simprocAttr];rfl):N:=b.mpr a
def cm (a:N) (b:N->b4=True:=by intro c;simp -dsimp -implicitDefEqProofs (disch:=first|omega|assumption|(simp only[bk,Nat.reduceAdd];try omega)) only[go_sem,simprocAttr,-List.reduceReplicate,c]):b4:=of_eq_true (b a)
def mT (a:N=True:=by simp -dsimp -implicitDefEqProofs (disch:=first|omega|assumption|(simp only[bk,Nat.reduceAdd];try omega)) only[go_sem,simprocAttr,-List.reduceReplicate]):N:=of_eq_true a
def gO (a:N) (b:N->b4=True:=by intro c;simp -dsimp -implicitDefEqProofs (disch:=first|omega|assumption|(simp only[bk,Nat.reduceAdd];try omega)) only[go_sem,simprocAttr,c]):b4:=of_eq_true (b a)
def qp (a:N=True:=by simp -dsimp -implicitDefEqProofs (disch:=first|omega|assumption|(simp only[bk,Nat.reduceAdd];try omega)) only[go_sem,simprocAttr]):N:=of_eq_true a
def c2 (a:N) (b:b4):N/\b4:=⟨a,b⟩
def aH (a:N) (b:b4) (c:h2):N/\b4/\h2:=⟨a,b,c⟩
def aK (a:N) (b:b4) (c:h2) (d:h8):N/\b4/\h2/\h8:=⟨a,b,c,d⟩
def bm (a:N) (b:b4) (c:h2) (d:h8) (h:j1):N/\b4/\h2/\h8/\j1:=⟨a,b,c,d,h⟩
def bs {a:Prop} (b:N) (c:b4) (d:h2) (h:h8) (k:j1) (o:a):N/\b4/\h2/\h8/\j1/\a:=⟨b,c,d,h,k,o⟩
def c6 {a b:Prop} (c:N) (d:b4) (h:h2) (k:h8) (o:j1) (p:a) (r:b):N/\b4/\h2/\h8/\j1/\a/\b:=⟨c,d,h,k,o,p,r⟩
def bt {a b c:Prop} (d:N) (h:b4) (k:h2) (o:h8) (p:j1) (r:a) (x:b) (y:c):N/\b4/\h2/\h8/\j1/\a/\b/\c:=⟨d,h,k,o,p,r,x,y⟩
def cU {a b c d:Prop} (h:N) (k:b4) (o:h2) (p:h8) (r:j1) (x:a) (y:b) (z:c) (C:d):N/\b4/\h2/\h8/\j1/\a/\b/\c/\d:=⟨h,k,o,p,r,x,y,z,C⟩
def cf {a b c d h:Prop} (k:N) (o:b4) (p:h2) (r:h8) (x:j1) (y:a) (z:b) (C:c) (D:d) (E:h):N/\b4/\h2/\h8/\j1/\a/\b/\c/\d/\h:=⟨k,o,p,r,x,y,z,C,D,E⟩
def gf {a b c d h k:Prop} (o:N) (p:b4) (r:h2) (x:h8) (y:j1) (z:a) (C:b) (D:c) (E:d) (F:h) (G:k):N/\b4/\h2/\h8/\j1/\a/\b/\c/\d/\h/\k:=⟨o,p,r,x,y,z,C,D,E,F,G⟩
def gP {a b c d h k o:Prop} (p:N) (r:b4) (x:h2) (y:h8) (z:j1) (C:a) (D:b) (E:c) (F:d) (G:h) (L:k) (P:o):N/\b4/\h2/\h8/\j1/\a/\b/\c/\d/\h/\k/\o:=⟨p,r,x,y,z,C,D,E,F,G,L,P⟩
def la {a b c d h k o p:Prop} (r:N) (x:b4) (y:h2) (z:h8) (C:j1) (D:a) (E:b) (F:c) (G:d) (L:h) (P:k) (S:o) (T:p):N/\b4/\h2/\h8/\j1/\a/\b/\c/\d/\h/\k/\o/\p:=⟨r,x,y,z,C,D,E,F,G,L,P,S,T⟩
def gg {a b c d h k o p r:Prop} (x:N) (y:b4) (z:h2) (C:h8) (D:j1) (E:a) (F:b) (G:c) (L:d) (P:h) (S:k) (T:o) (V:p) (W:r):N/\b4/\h2/\h8/\j1/\a/\b/\c/\d/\h/\k/\o/\p/\r:=⟨x,y,z,C,D,E,F,G,L,P,S,T,V,W⟩
def p4 {a b c d h k o p r x:Prop} (y:N) (z:b4) (C:h2) (D:h8) (E:j1) (F:a) (G:b) (L:c) (P:d) (S:h) (T:k) (V:o) (W:p) (e:r) (f:x):N/\b4/\h2/\h8/\j1/\a/\b/\c/\d/\h/\k/\o/\p/\r/\x:=⟨y,z,C,D,E,F,G,L,P,S,T,V,W,e,f⟩
def lV {a b c d h k o p r x y:Prop} (z:N) (C:b4) (D:h2) (E:h8) (F:j1) (G:a) (L:b) (P:c) (S:d) (T:h) (V:k) (W:o) (e:p) (f:r) (g:x) (i:y):N/\b4/\h2/\h8/\j1/\a/\b/\c/\d/\h/\k/\o/\p/\r/\x/\y:=⟨z,C,D,E,F,G,L,P,S,T,V,W,e,f,g,i⟩
def mU {a b c d h k o p r x y z:Prop} (C:N) (D:b4) (E:h2) (F:h8) (G:j1) (L:a) (P:b) (S:c) (T:d) (V:h) (W:k) (e:o) (f:p) (g:r) (i:x) (j:y) (l:z):N/\b4/\h2/\h8/\j1/\a/\b/\c/\d/\h/\k/\o/\p/\r/\x/\y/\z:=⟨C,D,E,F,G,L,P,S,T,V,W,e,f,g,i,j,l⟩
def wV {a b c d h k o p r x y z C:Prop} (D:N) (E:b4) (F:h2) (G:h8) (L:j1) (P:a) (S:b) (T:c) (V:d) (W:h) (e:k) (f:o) (g:p) (i:r) (j:x) (l:y) (m:z) (n:C):N/\b4/\h2/\h8/\j1/\a/\b/\c/\d/\h/\k/\o/\p/\r/\x/\y/\z/\C:=⟨D,E,F,G,L,P,S,T,V,W,e,f,g,i,j,l,m,n⟩
def Cf {a b c d h k o p r x y z C D:Prop} (E:N) (F:b4) (G:h2) (L:h8) (P:j1) (S:a) (T:b) (V:c) (W:d) (e:h) (f:k) (g:o) (i:p) (j:r) (l:x) (m:y) (n:z) (q:C) (s:D):N/\b4/\h2/\h8/\j1/\a/\b/\c/\d/\h/\k/\o/\p/\r/\x/\y/\z/\C/\D:=⟨E,F,G,L,P,S,T,V,W,e,f,g,i,j,l,m,n,q,s⟩
def nZ {a b c d h k o p r x y z C D E:Prop} (F:N) (G:b4) (L:h2) (P:h8) (S:j1) (T:a) (V:b) (W:c) (e:d) (f:h) (g:k) (i:o) (j:p) (l:r) (m:x) (n:y) (q:z) (s:C) (t:D) (u:E):N/\b4/\h2/\h8/\j1/\a/\b/\c/\d/\h/\k/\o/\p/\r/\x/\y/\z/\C/\D/\E:=⟨F,G,L,P,S,T,V,W,e,f,g,i,j,l,m,n,q,s,t,u⟩
section
def W9:G K (.mD Z) j f s=dD (rq (al j Z)) (bZ (λa=>s a f) ()):=by simp only[G];rfl
def Wa:rq (.an i v e O)=some (.v (.int .i64 e)):=rfl
def Wb:rq (.J [] .nil)=some (.v (.int .i64 0)):=rfl
def cg (d:Nat) (x:R) (h k o:Option R):Option R:=
 match x with
 | .an p len cap r=>match cG h 0,cG k len,cG o cap with
  |some a,some c,some b=>if r=d/\0<=a/\a<=c/\c<=b/\b<=cap then
    some (if h.isSome=true then(if a<b then .bA p (a.toNat*d) (c.toNat - a.toNat) (b.toNat - a.toNat) d else .J [] .zero)else .an p c.toNat b.toNat d)
   else none
  | _,_,_=>none
 | .bA p off len cap r=>match cG h 0,cG k len,cG o cap with
  |some a,some c,some b=>if r=d/\0<=a/\a<=c/\c<=b/\b<=cap then
    some (if a<b then .bA p (off+a.toNat*d) (c.toNat - a.toNat) (b.toNat - a.toNat) d else .J [] .zero)
   else none
  | _,_,_=>none
 | .J [] .nil=>match cG h 0,cG k 0,cG o 0 with
  |some a,some c,some b=>if a=0/\c=0/\b=0 then some (.J [] .nil)else none
  | _,_,_=>none
 | .J [] .zero=>match cG h 0,cG k 0,cG o 0 with
  |some a,some c,some b=>if a=0/\c=0/\b=0 then some (.J [] .zero)else none
  | _,_,_=>none
 | _=>none
def Wc {a b c:Option Operand}:rr j e n a b c=cg e n (a.map (al j)) (b.map (al j)) (c.map (al j)):=by simp only[rr,cg,wG,Option.isSome_map];rfl
def Wd {a b c:Option Operand}:G K (.lL e Z a b c) j f s=dD (cg e (al j Z) (a.map (al j)) (b.map (al j)) (c.map (al j))) (bZ (λd=>s d f) ()):=by simp only[G,Wc];rfl
theorem hJ (a:v<=i):cg e (.an O b8 i e) none (some (.v (.int e2 (v:Int)))) none=some (.an O v i e):=by grind[cg,cG,intOf]
theorem gh (a:e<=v) (b:v<=O) (c:e<O):cg i (.an b8 v O i) (some (.v (.int e2 (e:Int)))) none none=some (.bA b8 (e*i) (v - e) (O - e) i):=by grind[cg,cG,intOf]
def tM (a:e=v):cg i (.an O e v i) (some (.v (.int e2 (e:Int)))) none none=some (.J [] .zero):=by subst a;simp[cg,cG,intOf]
theorem Cg {a:IntKind} (b:e<=O) (c:O<=v) (d:e<v):cg i (.an b8 j0 v i) (some (.v (.int e2 (e:Int)))) (some (.v (.int a (O:Int)))) none=some (.bA b8 (e*i) (O - e) (v - e) i):=by grind[cg,cG,intOf]
def We:cg e (.J [] .zero) (some (.v (.int e2 0))) none none=some (.J [] .zero):=by rfl
def Wf:cg e (.J [] .nil) (some (.v (.int e2 0))) none none=some (.J [] .nil):=by rfl
def wW:cg e (.J [] .nil) none (some (.v (.int e2 0))) none=some (.J [] .nil):=by rfl
def Ch (a:Option U) (b:U->Prop):Prop:=
 match a with
 |some c=>b c
 |none=>False
def Wg {a:U->Prop}{b:cz a}:Ch (some f) (bZ a b)=a f:=rfl
def Ci (a:Option (R×U)) (b:R->U->Prop):Prop:=
 match a with
 |some (c,d)=>b c d
 |none=>False
def Wh {a:cz s}:Ci (some (n,f)) (bO s a)=s n f:=rfl
def Wi:G K (.mE e g Z) j f s=Ch (kR e g (al j Z) f) (bZ (λa=>s (.aI []) a) ()):=by simp only[G];rfl
def Wj:G K (.mF e Z e9) j f s=Ci (lM e (al j Z) (al j e9) f) (bO s ()):=by simp only[G];rfl
def Wk:G K (.mH Z e9) j f s=dD (kS (al j Z) (al j e9) f) (bZ (λa=>s a f) ()):=by simp only[G];rfl
def wX (a:f i=some (.cells g)) (b:v+O*e<=g.length):kR e B (.bA i v O b8 e) f=some (f.set i (.cells (putAt g v (List.replicate O B).flatten))):=by simp[kR,a,b]
def Wl:kR e g (.J [] M) f=some f:=rfl
def hi (a:bN f e n=some (b8,B)) (b:f v=some (.cells g)) (c:O+i*e<=g.length):lM e (.bA v O i j0 e) n f=some (.v (.int .i64 (min b8 i:Nat)),f.set v (.cells (putAt g O (B.take (i*e))))):=by simp[lM,a,b,c]
def wY (a:cK n=some e) (b:cK b3=some i) (c:e≠i) (d:km f e=true) (h:km f i=true):kS n b3 f=some (.v (.bool false)):=by simp[kS,a,b,c,d,h]
def qq (a:f e=some (.cells g)) (b:g≠ []):km f e=true:=by
 cases g with
 |nil=>trivial
 |cons c g=>simp[km,a]
def s5 (c p:Nat) (r:List R) (k:U) (y z:R) (x:R->U->Prop):Prop:=
 match y,z with
  | .an C d cap D,.v (.int .i64 a)=>match k.read C with
   |some cs=>D=c/\cs.length=cap*c/\0<=a/\cap<d+a.toNat/\(d+a.toNat)*p<=140737488355328/\d+a.toNat<=9223372036854775807/\
    ∀h b o,k h=none->d+a.toNat<=b->b<=maxLen->o.length=(b -(d+a.toNat))*c->x (.an h (d+a.toNat) b c) (k.set h (.cells (cs.take (d*c)++(List.replicate a.toNat r).flatten++o)))
   |none=>False
  | .J xs E,.v (.int .i64 a)=>xs= []/\E= .nil/\0<a/\a.toNat*p<=140737488355328/\a<=9223372036854775807/\
    ∀h b o,k h=none->a.toNat<=b->b<=maxLen->o.length=(b - a.toNat)*c->x (.an h a.toNat b c) (k.set h (.cells ((List.replicate a.toNat r).flatten++o)))
  | _,_=>False
def Wm:G K (.mG e i g Z e9) j f s=s5 e i g f (al j Z) (al j e9) (bO s ()):=rfl
def wZ {d:cz s} (h:f j0=some (.cells g)) (k:g.length=O*v) (o:O<e+i) (p:(e+i)*b8<=140737488355328) (r:e+i<=9223372036854775807)
  (x: ∀b a c,f b=none->e+i<=a->a<=maxLen->c.length=(a -(e+i))*v->s (.an b (e+i) a v) (f.set b (.cells (g.take (e*v)++(List.replicate i B).flatten++c)))):s5 v b8 B f (.an j0 e O v) (.v (.int .i64 (i:Int))) (bO s d):=by
 simp only[s5,U.ae h,a5q];exact⟨trivial,k,a9p,o,p,r,x⟩
def Cj {d:cz s} (o:0<e) (h:e*v<=140737488355328) (p:e<=9223372036854775807)
  (k: ∀b a c,f b=none->e<=a->a<=maxLen->c.length=(a - e)*i->s (.an b e a i) (f.set b (.cells ((List.replicate e g).flatten++c)))):s5 i v g f (.J [] .nil) (.v (.int .i64 (e:Int))) (bO s d):=by
 simp only[s5,a5q];exact⟨trivial,trivial,a9p,h,a9p,k⟩
def View (c:U) (h:R) (k:U) (o:R):Prop:= ∀(a:bl) (b:World) (v:Value),Holds a c b->aY a v h-> ∃d,Step a c b d k b/\aY d v o
def AC.view (k:AC m b5 g f s) (o: ∀a b,s a b-> ∃c d,View b a d c/\a7 c d):AC m b5 g f a7:=
 λp r x y z=>(k p r x y z).mono λ_ _ C=>by
  obtain⟨v,a,D,b,E,h,F,G⟩:=C;obtain⟨c,d,L,P⟩:=o a b G;obtain⟨S,T,V⟩:=L D _ v h.holds F;exact⟨v,c,S,d,E,h.trans T,V,P⟩
theorem View.refl {a:U}{b:R}:View a b a b:=λc k v d h=>⟨c,.refl d,h⟩
theorem View.J {s:U}{a:List R}{o:Own}:View s (.J a o) s (.J a .any):=λb E v c d=>by
 refine⟨b,.refl c,?_⟩;cases d with
 |dg h cap dn bW k=>exact .dg h cap .any bW trivial
 |J p off len cap r x a dn hk hlen y z C hH D k=>exact .J p off len cap r x a .any hk hlen y z C hH D trivial
theorem View.an {b:U}{c n cap k:Nat}{a:List R} (h:b c=some (.cells a)) (o:n*k<=a.length):View b (.an c n cap k) (b.set c (.ro a)) (.J (ee k n a) .any):=λy z v p r=>by
 obtain⟨x,d⟩:=Step.freeze p h;exact⟨x,d,aY.frozen d.holds (U.ai _ _ _) o (r.mono d.le)⟩
theorem ks:ee 1 e g=g.take e:=by rfl
theorem Wn (c:i<=v):ee e i (g.take (v*e))=ee e i g:=by
 unfold ee;by_cases hk:e=1;grind
 .simp only[hk,if_false];refine a6r λa b=> ?_;have b:a<i:=by simpa using b
  have d:a*e+e<=v*e:=by have:(a+1)*e<=v*e:=a5c _ a9p;grind
  rw[a6f,a6b,a6v a9p]
theorem View.dR (o:au t f e g n): ∃a d,g.length=a*e/\t.sub d/\View f n d (.J (ee e a g) .any):=by
 obtain⟨b,p⟩:=o;rcases p with ⟨rfl,rfl|rfl⟩|⟨h,a,F,r,rfl,x,y,G,z,C,L,P⟩
 .refine⟨0,f,a9q,b,?_⟩;grind[ee,View.J]
 .refine⟨0,f,a9q,b,?_⟩;grind[ee,View.J]
 .refine⟨a,f.set h (.ro r),C,λk D c=> ?_,?_⟩
  .have E:k≠h:=by rintro rfl;rw[x]at c;cases c
   rw[U.ao _ _ E];exact b k D c
  .rw[<-z,Wn (a5s a)];exact View.an y (by grind)
theorem View.trans {a b c:U}{d h k:R} (r:View a d b h) (x:View b h c k):View a d c k:=λy o v z C=>by
 obtain⟨D,p,E⟩:=r y o v z C;obtain⟨F,G,L⟩:=x D o v p.holds E;exact⟨F,p.trans G,L⟩
theorem View.aI {c d:U}{b h:R}{a k:List R} (x:View c b d h):View c (.aI (a++b::k)) d (.aI (a++h::k)):=λy z v C D=>by
 cases D with
 |aI E cs F o=>
  have G:=o a.length b a9q;obtain⟨L,p,S⟩:=x y z _ C G;refine⟨L,p,.aI E _ (by simpa using F) λr P T=> ?_⟩;by_cases V:r=a.length;simp_all
  .refine(o r P ?_).mono p.le;grind
theorem View.agg {d h:U}{b c:R}{a k:List R} (S:c.one=true) (x:View d b h c):View d (.agg (a++b::k)) h (.agg (a++c::k)):=λy z v C D=>by
 cases D with
 |agg E cs T F o=>
  have G:=o a.length b a9q;obtain⟨L,p,V⟩:=x y z _ C G;refine⟨L,p,.agg E _ (λW e=> ?_) (by simpa using F) λr P f=> ?_⟩;grind;by_cases g:r=a.length;simp_all
  .refine(o r P ?_).mono p.le;grind
end
def eI:=
 a4K @W9<|
 a4K @Wd<|
 a4K @Wi<|
 a4K @Wj<|
 a4K @Wk<|
 a4K @Wm<|
 a4K @Wg<|
 a4K @Wh<|
 a4K @Wa<|
 a4K @Wb<|
 @wW
def dA (a:N) (b:h2) (c:N->b4=h2:=by intro d;simp -dsimp -implicitDefEqProofs (disch:=first|omega|assumption|(simp only[bk,Nat.reduceAdd];try omega)) only[go_sem,simprocAttr,-List.reduceReplicate,↓eI,d];rfl):b4:=(c a).mpr b
def Ck (a:b4) (b:N=b4:=by simp -dsimp -implicitDefEqProofs (disch:=first|omega|assumption|(simp only[bk,Nat.reduceAdd];try omega)) only[go_sem,simprocAttr,-List.reduceReplicate,↓eI];rfl):N:=b.mpr a
def wr:dH->List Nat
 | .plain ops| .draw ops _=>ops.filterMap (·.dst)
 | .seq a b| .cond _ a b=>wr a++wr b
 | .block _ a| .loop a=>wr a
 | _=> []
def hj (b:List Nat) (c d:Fr):Prop:= ∀a,a∉b->d a=c a
theorem hj.trans {a:List Nat}{b c d:Fr} (o:hj a b c) (p:hj a c d):hj a b d:=λh k=>(p h k).trans (o h k)
def hj.put {c:List Nat}{b:Option Nat} (d: ∀a,b=some a->a∈c):hj c j (dk j b n):=λa h=>tt j b n a λk=>h (d a k)
section
def Cl {a:List Nat}{k:Fr->U->Prop}{o:Fr}: ∀(b:List c7),(∀c∈b,∀p,c.dst=some p->p∈a)-> ∀(j:Fr) (f:U),hj a o j->iT K b k j f->iT K b (λr d=>k r d/\hj a o r) j f
 | [],_,j,f,cu,h=>⟨h,cu⟩
 |c::y,x,j,f,cu,h=>mM (λE d z=>Cl y (λC D=>x C (a6h _ D)) _ d (cu.trans (hj.put (x c (a6G ..)))) z) h
def Cm {b:List Nat}{c:Nat->c7}{h:Fr->U->Prop}{k:Fr} (o: ∀z p,(c z).dst=some p->p∈b): ∀(r:List di) (j:Fr) (f:U),hj b k j->can K c h r j f->can K c (λx d=>h x d/\hj b k x) r j f
 | [],j,f,cu,a=>⟨a,cu⟩
 |C::D,j,f,cu,a=>⟨a.1,mM (λE d y=>⟨y.1,Cm o D _ d (cu.trans (hj.put (o C.i))) y.2⟩) a.2⟩
theorem o0 {r:List Nat}: ∀(x:dH),(∀b∈wr x,b∈r)-> ∀ {o:gb->Fr->U->Prop}{d:Fr} (j:Fr) (f:U),hj r d j->bS K x o j f->bS K x (λh C E=>o h C E/\hj r d C) j f
 | .skip,_,_,_,j,f,cu,a=>⟨a,cu⟩
 | .ret,_,_,_,j,f,cu,a=>⟨a,cu⟩
 | .exit _,_,_,_,j,f,cu,a=>⟨a,cu⟩
 | .plain ops,hw,_,_,j,f,cu,a=>Cl ops (λF G b p=>hw b (a8m.2 ⟨F,G,p⟩)) j f cu a
 | .draw ops L,hw,_,_,j,f,cu,a=>Cm (λy b p=>by
   refine hw b (a8m.2 ?_);grind[nth,List.mem_of_getElem?]) L j f cu a
 | .seq c z,hw,o,d,j,f,cu,a=>iZ c (λh j f a=>by
   cases h with
   |norm=>exact o0 z (λb k=>hw b (a6T _ k)) j f a.2 a.1
   |exit y=>exact a
   |ret=>exact a) j f (o0 c (λb k=>hw b (a6Y _ k)) j f cu a)
 | .block y c,hw,o,d,j,f,cu,a=>iZ c (λh j f a=>by
   cases h with
   |norm=>exact a
   |exit e=>obtain⟨P,g⟩:=a;simp only[kW]at P|-;split<;>(simp_all)
   |ret=>exact a) j f (o0 c hw j f cu a)
 | .cond x c z,hw,o,d,j,f,cu,a=>by
   simp only[wA,Bs,kp]at a|-;split at a
   .exact⟨λp=>o0 c (λb k=>hw b (a6Y _ k)) j f cu (a.1 p),λp=>o0 z (λb k=>hw b (a6T _ k)) j f cu (a.2 p)⟩
   .trivial
 | .loop c,hw,o,d,j,f,cu,a=>by
   obtain⟨S,T,V,W⟩:=a;refine⟨λj f=>S j f/\hj r d j,T,⟨V,cu⟩,λj f D=>iZ c (λh j f a=> ?_) j f (o0 c hw j f D.2 (W j f D.1))⟩;cases h with
   |norm=>exact⟨⟨a.1.1,a.2⟩,a.1.2⟩
   |exit y=>exact a
   |ret=>exact a
def gD (a:Fr):List (Nat×R)->Prop
 | []=>True
 |b::c=>a b.1=b.2/\gD a c
def Wo:gD j []=True:=rfl
def Wp {v:R}:gD j [(e,v)]=(j e=v):=by simp[gD]
def Wq {v:R}{a:Nat×R}{b:List (Nat×R)}:gD j ((e,v)::a::b)=(j e=v/\gD j (a::b)):=rfl
def gQ (a:Fr):List (Nat×R)->Fr
 | []=>a
 |b::c=>dk (gQ a c) (some b.1) b.2
def Wr:gQ j []=j:=rfl
def Ws {v:R}{a:List (Nat×R)}:gQ j ((e,v)::a)=dk (gQ j a) (some e) v:=rfl
theorem s6 {a:Fr}: ∀ {b:List (Nat×R)},gD a b->gQ a b=a
 | [],_=>rfl
 |d::o,c=>by
  rw[gQ,s6 c.2];funext h;by_cases k:h=d.1
  .subst k;rw[<-c.1];simp[dk,lE]
  grind[tt,Option.some.inj]
def keeps (a:Fr):List Nat->List (Nat×R)
 | []=> []
 |b::c=>(b,a b)::keeps a c
def Wt:keeps j []= []:=rfl
def Wu {a:List Nat}:keeps j (e::a)=(e,j e)::keeps j a:=rfl
def x0 {b c:Fr}: ∀ {d:List Nat},(∀a∈d,c a=b a)->gD c (keeps b d)
 | [],_=>trivial
 |a::p,h=>⟨h a (a6G ..),x0 λk o=>h k (a6h _ o)⟩
theorem Cn: ∀ {a:Nat},j5 a-> ∃a,j5 a/\ ∀b,j5 b->a<=b:=by
 intro a
 induction a using Nat.strongRecOn with
 |ind a ih=>grind
theorem cn (D:List Nat) (y:b0->List (Nat×R)) (E:b0->U->Prop) (h:b0->Nat) (L:b0)
  (m:E L f/\gD j (y L)) (P: ∀x c,E x c-> ∀d,bS K h6 (eN (λn q=> ∃a,E a q/\gD n (y a)/\h a<h x) e8) (gQ (gQ d (keeps j D)) (y x)) c)
  (I:D.all (λS=> !(wr h6).contains S)=true:=by kernel_rfl):cv (bS K (.loop h6) e8 j f) ():=by
 classical
 let p:=λ(d) (c) (a)=>E a c/\gD d (y a)
 let z:=λ(d) (c)=>if C: ∃k,(∃a,p d c a/\h a=k)/\ ∀o,(∃a,p d c a/\h a=o)->k<=o then C.choose else 0;refine⟨λd c=>(∃a,p d c a)/\hj (wr h6) j d,z,⟨⟨L,m⟩,λ_ _=>rfl⟩,λb r T=> ?_⟩;have C: ∃k,(∃a,p b r a/\h a=k)/\ ∀o,(∃a,p b r a/\h a=o)->k<=o:=by obtain⟨a,s⟩:=T.1;exact Cn ⟨a,s,rfl⟩
 obtain⟨⟨x,i,hm⟩,M⟩:=C.choose_spec;have t:gD b (keeps j D):=x0 λS N=>T.2 S λO=>by
  simp_all
 have u:gQ (gQ b (keeps j D)) (y x)=b:=by rw[s6 t,s6 i.2]
 have l:=P x r i.1 b;rw[u]at l;refine iZ h6 (λv F G V=> ?_) b r (o0 h6 (λ_ P=>P) b r T.2 l);cases v with
 |norm=>obtain⟨⟨a,W,e,w⟩,A⟩:=V;refine⟨⟨⟨a,W,e⟩,A⟩,?_⟩;have g: ∃k,(∃a,p F G a/\h a=k)/\ ∀o,(∃a,p F G a/\h a=o)->k<=o:=Cn ⟨a,⟨W,e⟩,rfl⟩;show z F G<z b r;have B:z F G=g.choose:=dif_pos g;have H:z b r=C.choose:=dif_pos C;rw[B,H];exact Nat.lt_of_le_of_lt (g.choose_spec.2 _ ⟨a,⟨W,e⟩,rfl⟩) (by rw[<-hm];exact w)
 |exit Q=>exact V.1
 |ret=>exact V.1
end
theorem gE (d:List Nat) (b:b0->List (Nat×R)) (c:b0->Prop) (h:b0->Nat) (k:b0)
  (x:c k) (y:gD j (b k)) (z: ∀a,c a-> ∀o,bS K h6 (eN (λC D=> ∃p,D=f/\c p/\gD C (b p)/\h p<h a) e8) (gQ (gQ o (keeps j d)) (b a)) f)
  (E:d.all (λF=> !(wr h6).contains F)=true:=by kernel_rfl):cv (bS K (.loop h6) e8 j f) ():=
 cn d b (λa r=>r=f/\c a) h k ⟨⟨rfl,x⟩,y⟩ (λa r G o=>by
  obtain⟨rfl,L⟩:=G;refine iZ h6 (λP S T V=> ?_) _ _ (z a L o);grind) E
def tN:=
 a4K @Wo<|
 a4K @Wp<|
 a4K @Wq<|
 a4K @Wr<|
 a4K @Ws<|
 a4K @Wt<|
 @Wu
def U.tO (a:f e=none) (b:t.sub f):t e=none:=U.bF b a
def U.Wv (c:f e=none):f.sub (t.set e Y)=f.sub t:=propext ⟨λa d h b=>by
 have k:d≠e:=by rintro rfl;rw[c]at b;cases b
 have:=a d h b;rwa[U.ao _ _ k]at this,λa=>U.af a c⟩
def U.sub_self:f.sub f=True:=eq_true U.a1
def Ww:(∃b,b.sub t/\f.sub b)=f.sub t:=propext ⟨λ⟨_,a,h⟩ c d k=>a c d (h c d k),λa=>⟨f,a,U.a1⟩⟩
def Wx:(∃b,b.sub t/\b=f)=f.sub t:=propext ⟨λ⟨_,a,c⟩=>by subst c;exact a,λa=>⟨f,a,rfl⟩⟩
def Wy:rZ (bb w)=some (.v (.int .i64 w.length)):=wK
def Wz (a:e<w.length):rV (bb w) (.v (.int e2 (e:Int)))=some (.v (.int .u8 (w.getD e 0).toNat)):=by have:=C2 (w:=w) (e2:=e2) (b1:=(e)) a9p a9p;trivial
def o1:cL e (.J g M) (.v (.int e2 (i:Int)))=eA e g[i]? :=by rfl
def WA:eA 1 (some (.v e5))=some (.bV [.v e5]):=rfl
def WB:eA 1 (some (bb w))=some (.bV [bb w]):=rfl
def WC:eA 1 (some (.J g M))=some (.bV [.J g M]):=rfl
def WD:eA 1 (some (.ptr e i))=some (.bV [.ptr e i]):=rfl
def WE [Decidable N]:(!decide N)=decide (¬N):=decide_not.symm
def WG:(xor false I)=I:=a7v I
def WH:(∃b,b.sub t/\f.sub b/\N)=(f.sub t/\N):=propext ⟨λ⟨_,a,h,k⟩=>⟨λc d o=>a c d (h c d o),k⟩,λa=>⟨f,a.1,U.a1,a.2⟩⟩
def WI:(∃b,b.sub t/\b=f/\N)=(f.sub t/\N):=propext ⟨λ⟨_,a,c,d⟩=>by subst c;trivial,λa=>⟨f,a.1,rfl,a.2⟩⟩
def WJ {a:b0}{b:List b0}:List.take (e+1) (a::b)=a::List.take e b:=rfl
def WK {a:List b0}:List.take 0 a= []:=rfl
def WL:List.take e ([]:List b0)= []:=a9b
def WM {a:List b0}:List.drop 0 a=a:=rfl
def WN:putAt (b3::g) 0 (n::B)=n::putAt g 0 B:=by rfl
def WO:putAt g 0 []=g:=by rfl
def WQ:putAt (n::g) (e+1) B=n::putAt g e B:=by simp[putAt,Nat.add_right_comm]
def WR {b:b0}{a:List b0}:(b::a).length=a.length+1:=rfl
def WS:([]:List b0).length=0:=rfl
def WT:(bb w).cells= [bb w]:=rfl
def WU:(R.J g M).cells= [.J g M]:=rfl
def WV:(R.ptr e i).cells= [.ptr e i]:=rfl
def WW {v:Value}:(R.v v).cells= [.v v]:=rfl
theorem p5 (a:e<=g.length) (b:aR i g):dI i (.J g M) (some (.v (.int e2 (e:Int)))) none=some (.J (g.drop e) .any):=by grind[qi,Int.toNat_natCast]
def WX (a:e<g.length) (b:aR i g):dI i (.J g M) (some (.v (.int e2 ((e:Int)+1)))) none=some (.J (g.drop (e+1)) .any):=p5 (e:=e+1) a b
theorem WY (a:e<=g.length) (b:aR i g):dI i (.J g M) none (some (.v (.int e2 (e:Int))))=some (.J (g.take e) .any):=by grind[nV,Int.toNat_natCast]
theorem WZ {a:IntKind} (b:i<=e) (c:e<=g.length) (d:aR v g):dI v (.J g M) (some (.v (.int e2 (i:Int)))) (some (.v (.int a (e:Int))))=some (.J ((g.take e).drop i) .any):=by grind[BS,Int.toNat_natCast]
def X0:(∃ _:Unit,True)=True:=eq_true ⟨(),trivial⟩
def X1 {a:cz s}:jE e f [] (bO s a)=s (.J [] .zero) f:=by simp[jE,bO]
def X2:cL e (.J g M) (.v (.int e2 0))=eA e g[0]? :=o1 (i:=0)
def X3:cL e (.J g M) (.v (.int e2 1))=eA e g[1]? :=o1 (i:=1)
def tP:=
 a4K @X2<|
 a4K @X3<|
 a4K @X0<|
 a4K @p5<|
 a4K @WX<|
 a4K @WY<|
 a4K @WZ<|
 a4K @WT<|
 a4K @WU<|
 a4K @WV<|
 a4K @WW<|
 a4K @U.ai<|
 a4K @U.ao<|
 a4K @WN<|
 a4K @WO<|
 a4K @WQ<|
 a4K @WR<|
 a4K @WS<|
 a4K @WJ<|
 a4K @WK<|
 a4K @WL<|
 a4K @WM<|
 a4K @U.Wv<|
 a4K @U.sub_self<|
 a4K @Ww<|
 a4K @Wx<|
 a4K @WH<|
 a4K @WI<|
 a4K @true_and<|
 a4K @and_true<|
 a4K @Wy<|
 a4K @Wz<|
 a4K @o1<|
 a4K @WA<|
 a4K @WB<|
 a4K @WC<|
 a4K @WD<|
 a4K @hI<|
 a4K @hI<|
 a4K @BJ<|
 a4K @decide_true<|
 a4K @decide_false<|
 a4K @a5G<|
 a4K @a5H<|
 a4K @a6k<|
 a4K @a7d<|
 a4K @a9c<|
 a4K @Bool.and_false<|
 a4K @WG<|
 a4K @Bool.true_xor<|
 a4K @WE<|
 @Decidable.not_not
theorem s7 {a:Nat->Bool} (b:e<i) (c:a e=false):(List.range i).all a=false:=List.all_eq_false.2 ⟨e,a6e.2 b,by simp[c]⟩
theorem s8 {a:Nat->Bool} (b: ∀c<e,a c=true):(List.range e).all a=true:=a5e.2 λd h=>b d (a6e.1 h)
def upto (b: ∀a<e,j5 a) (c:j5 e): ∀a<e+1,j5 a:=λa d=>(Nat.lt_or_eq_of_le (Nat.le_of_lt_succ d)).elim (b a) λh=>h▸c
def X4:R.v (.int e2 ((e:Int)+1))= .v (.int e2 ((e+1:Nat):Int)):=rfl
theorem qs {a:Bool} (b:(I=true)=(a=true):=by apply propext;(try dsimp only);(try simp (disch:=omega) only[if_pos,if_neg,a4Q,a6w,a6t,Bool.not_eq_eq_eq_not,a5G,a5H,decide_eq_true_eq,decide_eq_false_iff_not,a5M,false_iff,iff_false,true_iff,iff_true,true_and,and_true,false_and,and_false,false_or,or_false,true_or,or_true,iff_self, *])<;>omega):I=a:=by simp_all
theorem aO {a:Bool} (b:I=a:=by exact qs):R.v (.bool I)= .v (.bool a):=b▸rfl
theorem aP {a:Bool} (b:I=a):R.v (.bool I)= .v (.bool a):=by rw[b]
def U.tQ (a:f.sub t) (b:f e=some Y):t e=some Y:=a _ _ b
def U.tR (a:bh f t i g M) (b:f e=some Y):t e=some Y:=a.sub _ _ b
def iu (c d:U):Prop:= ∀a b,c a=some (.cells b)->d a=some (.cells b)
def U.qt (a:f.sub t):iu f t:=λc d b=>a _ _ b
theorem iu.trans (a:iu f t) (b:iu t e4):iu f e4:=λd h c=>b _ _ (a _ _ c)
def U.tS (a:iu f t) (b:f e=some (.cells g)):t e=some (.cells g):=a _ _ b
def U.tT {a:br} (b:f e=some Y) (c:f i=none):(f.set i a) e=some Y:=U.af U.a1 c _ _ b
def U.gR (b:f i=none) (a:f e=some Y):e≠i:=by rintro rfl;rw[b]at a;cases a
def a0 (a:f e=some Y:=by first|assumption|exact U.ai _ _ _):f e=some Y:=a
def a3 (a:f e=some Y:=by first|exact a0|exact U.tT a2 a9s|exact U.tQ a9s a2|exact U.tR a9s a2|exact U.x1 a9s a2|exact U.tS a9s a2):f e=some Y:=a
def a4 (a:f e=some Y:=by first|exact a0|exact U.tT a3 a9s|exact U.tQ a9s a3|exact U.tR a9s a3|exact U.x1 a9s a3|exact U.tS a9s a3):f e=some Y:=a
def a5 (a:f e=some Y:=by first|exact a0|exact U.tT a4 a9s|exact U.tQ a9s a4|exact U.tR a9s a4|exact U.x1 a9s a4|exact U.tS a9s a4):f e=some Y:=a
def du (a:f e=some Y:=by first|exact a0|exact U.tT a5 a9s|exact U.tQ a9s a5|exact U.tR a9s a5|exact U.x1 a9s a5|exact U.tS a9s a5):f e=some Y:=a
def fg (c: ∀a b,f a=some (.cells b)->t a=some (.cells b):=by intro _ _ _;exact du):iu f t:=c
def qu (c: ∀a b,f a=some b->t a=some b:=by intro _ _ _;exact du):f.sub t:=c
section
def eC (a:N=b4:=by simp -dsimp -implicitDefEqProofs (disch:=first|omega|assumption|exact U.tO a9s a9s|(simp only[bk,Nat.reduceAdd];try omega)) only[go_sem,simprocAttr,-List.reduceReplicate,↓eI,tP,tN, *]<;>rfl):N=b4:=a
def hK (a:N=b4:=by first|exact eC|rfl):N=b4:=a
def aa (a:b4) (b:N=b4:=by exact hK):N:=b.mpr a
def aS (a:N=True:=by simp -dsimp -implicitDefEqProofs (disch:=first|omega|assumption|exact U.tO a9s a9s|(simp only[bk,Nat.reduceAdd];try omega)) only[go_sem,simprocAttr,-List.reduceReplicate,↓eI,tP,tN, *]):N:=of_eq_true a
def aM (b:m.follows .mixedOrders=true) {a:List (Nat×Option (Bool×Nat))} (c:dt m v e=some ⟨i,O,h6,a⟩) (d:N) (h:g.length<=i:=by simp)
  (k:bS (Ctx.of m) h6 (p1 a s) (lQ g) f=N:=by exact eC):AC m e g f s:=bd b c h (k.mpr d)
def bp {c:Nat->Prop} (d: ∀a,f a=none->c a) (h: ∀a,f a=none->j5 a=c a:=by intro a b;exact eC):iX f (bZ j5 ()):=λa b=>(h a b).mpr (d a b)
def U.set_nil (a:(f.set i Y) e=none):f e=none/\e≠i/\i≠e:=⟨(U.gC a).2,(U.gC a).1,(U.gC a).1.symm⟩
def cV {d:Nat->Prop} (o: ∀a,f a=none->a≠e->e≠a->d a) (h: ∀a,f a=none->a≠e->e≠a->j5 a=d a:=by intro a b c h;exact eC):iX (f.set e Y) (bZ j5 ()):=λa b=>by
 obtain⟨b,c,k⟩:=U.set_nil b;exact(h a b c k).mpr (o a b c k)
def hl {k:Nat->Prop}{r:br} (x: ∀a,f a=none->a≠e->e≠a->a≠i->i≠a->k a) (o: ∀a,f a=none->a≠e->e≠a->a≠i->i≠a->j5 a=k a:=by intro a b c o d h;exact eC):iX ((f.set e Y).set i r) (bZ j5 ()):=λa b=>by
 obtain⟨b,d,h⟩:=U.set_nil b;obtain⟨b,c,p⟩:=U.set_nil b;exact(o a b c p d h).mpr (x a b c p d h)
def cl (c:AC m b5 g f a7) (d: ∀a b,a7 a b->s a b) (h:N=nU K b5 g f (bO s ()):=by exact hK) (k:K.p=m:=by rfl):N:=by subst k;exact h.mpr (ag c d)
def bc (a:AC K.p b5 g f λb c=>c=f/\b=n) (d:N) (h:s n f=N:=by exact eC):nU K b5 g f (bO s ()):=ag a λ_ _ a=>by rw[a.1,a.2];exact h.mpr d
theorem lW (c:AC m b5 g f λa b=>b=f/\a=n) (d:b4) (h:N=nU K b5 g f (bO s ()):=by exact hK) (k:s n f=b4:=by exact hK) (o:K.p=m:=by rfl):N:=by grind[ag]
theorem gs {c:U->Prop} (b:AC K.p b5 g f λd a=>f.sub a/\d=n) (h: ∀a,f.sub a->c a) (k: ∀a,f.sub a->s n a=c a:=by intro a b;exact eC):nU K b5 g f (bO s ()):=ag b λ_ a b=>by simp_all
def mV (a:N=b4:=by first|(simp only[decide_eq_true_eq,decide_eq_false_iff_not,a6t,Bool.not_eq_false',a5G,a5H,Decidable.not_not]<;>rfl)|rfl):N=b4:=a
def X5 {c:Prop} (k:(I=true)=N:=by exact mV) (o:(I=false)=b4:=by exact mV) (d:N->h2=j1:=by intro;first|exact eC|rfl) (h:b4->h8=c:=by intro;first|exact eC|rfl):kp (.v (.bool I)) (cv h2 ()) (cv h8 ())=((N->j1)/\(b4->c)):=by subst k o;exact propext ⟨λb=>⟨λa=>(d a).mp (b.1 a),λa=>(h a).mp (b.2 a)⟩,λb=>⟨λa=>(d a).mpr (b.1 a),λa=>(h a).mpr (b.2 a)⟩⟩
def X6 {c:Bool}{d:Prop} (o:(I=c)=N:=by exact mV) (p:(I= !c)=b4:=by exact mV) (h:N->h2=j1:=by intro;first|exact eC|rfl) (k:b4->h8=d:=by intro;first|exact eC|rfl):hF (.v (.bool I)) c (cv h2 ()) (cv h8 ())=((N->j1)/\(b4->d)):=by rw[T3];subst o p;exact propext ⟨λb=>⟨λa=>(h a).mp (b.1 a),λa=>(k a).mp (b.2 a)⟩,λb=>⟨λa=>(h a).mpr (b.1 a),λa=>(k a).mpr (b.2 a)⟩⟩
def aG (a:h8->b4) (b:j1->h2) (c:N=((h8->b4)/\(j1->h2)):=by first|exact X5|exact X6):N:=c.mpr ⟨a,b⟩
def Co (a:N:=by first|assumption|(simp only[decide_eq_true_eq,decide_eq_false_iff_not,a6t,Bool.not_eq_false',Decidable.not_not]<;>omega)):N:=a
def X7 (a:I=true:=by exact Co) (b:N=b4:=by exact eC):kp (.v (.bool I)) (cv N ()) (cv h2 ())=b4:=by subst a;exact Bt.trans b
def X8 (a:I=false:=by exact Co) (b:N=b4:=by exact eC):kp (.v (.bool I)) (cv h2 ()) (cv N ())=b4:=by subst a;exact Bu.trans b
def iv (a:b4) (b:N=b4:=by first|exact X7|exact X8|exact a4D|exact a4E):N:=b.mpr a
end
theorem fb {a:List b0}{b:b0} (c:e<a.length):a.take (e+1)=a.take e++ [a.getD e b]:=by simp_all
abbrev fE (a b:U) (c:List UInt8) (d:R):Prop:=au a b 1 (c.map ak) d
def o2 (b:U) (c:R) (a:List UInt8):Prop:=bN b 1 c=some (a.length,a.map ak)
theorem o2.J {s:U}{a:List UInt8}{o:Own}:o2 s (.J (a.map ak) o) a:=by have b:=C6 (f:=s) (w:=a) (M:=o);exact b
def fE.lX (b:fE t f w n):o2 f n w:=by obtain⟨d,a,c,_⟩:=b.src;simp only[a4Y,a5D]at a;subst a;exact c
def au.sub {a b:U}{c:Nat}{d:List R}{h:R} (k:au a b c d h):a.sub b:=k.1
section
def Cp {d:List UInt8} (c:fE t f w n) (h:o2 f b3 d) (k: ∀b a,fE t a (w++d) b->t.sub a->a7 b a) (p:w.length+d.length<=100000000000:=by(try simp only[a4O,a4S,a4W,a4Y, *])<;>omega)
  (o: ∀b a,fE t a (w++d) b->t.sub a->s b a=a7 b a:=by intro b f c r;exact eC):jG 1 1 f n b3 (bO s ()):=
 fh c a9p h a9q a9r a9r λb a c=>by rw[<-a5P]at c;exact(o b a c c.sub).mpr (k b a c c.sub)
def mW {c:List UInt8} (d:fE t e4 w n) (h:fE e4 f c b3) (k: ∀b a,fE t a (w++c) b->t.sub a->a7 b a) (o:w.length+c.length<=100000000000:=by(try simp only[a4O,a4S,a4W,a4Y, *])<;>omega)
  (p: ∀b a,fE t a (w++c) b->t.sub a->s b a=a7 b a:=by intro b f d r;exact eC):jG 1 1 f n b3 (bO s ()):=Cp (d.mono h.sub) h.lX k o p
def tU (b:List UInt8) (o: ∀c a,fE f a b c->f.sub a->a7 c a) (z:g=b.map ak:=by first|rfl|simp) (p:g.length<=1000000000000:=by(try simp only[a4O,a4S,a4W,a4Y, *])<;>omega)
  (r: ∀c a,fE f a b c->f.sub a->s c a=a7 c a:=by intro c f d E;exact eC):nX 1 f g (bO s ()):=by
 have h:=λc a d=>(r c a d d.sub).mpr (o c a d d.sub);subst z;rw[a4Y]at p;by_cases k:b= []
 .subst k;rw[a6A,nY];exact h _ _ (au.zero U.a1)
 .refine eO (by intro F C;obtain⟨_,_,rfl⟩:=a5h.1 C;rfl) (by simpa using k) λD x=>h _ _ ?_;have y:flat (b.map ak)=b.map ak:=by
   clear h o r k p
   induction b with
   |nil=>rfl
   |cons G b ih=>simp only[a5k,flat,a5o]at ih|-;rw[ih];rfl
  refine⟨U.af U.a1 x,.inr ⟨D,b.length,b.length,_,a9q,x,U.ai _ _ _,?_,?_,a9q,a9p,by simp only[maxLen];omega⟩⟩
  .rw[y];simp
  .rw[y,a4N a9q]
def hL {d:R->U->Prop} (c:AC K.p b5 g f s) (h: ∀a b,s a b->d a b) (k: ∀a b,s a b->a7 a b=d a b:=by intro a f c;exact eC):nU K b5 g f (bO a7 ()):=ag c λa b c=>(k a b c).mpr (h a b c)
end
section
def x2 {c:Nat->Prop}{x y:br} (z: ∀a,f a=none->a≠e->e≠a->a≠i->i≠a->a≠v->v≠a->c a) (C: ∀a,f a=none->a≠e->e≠a->a≠i->i≠a->a≠v->v≠a->j5 a=c a:=by intros;exact eC):iX (((f.set e Y).set i x).set v y) (bZ j5 ()):=λa b=>by
 obtain⟨b,d,h⟩:=U.set_nil b;obtain⟨b,k,o⟩:=U.set_nil b;obtain⟨b,p,r⟩:=U.set_nil b;exact(C a b p r k o d h).mpr (z a b p r k o d h)
def X9 {c:Nat->Prop}{z C D:br} (E: ∀a,f a=none->a≠e->e≠a->a≠i->i≠a->a≠v->v≠a->a≠O->O≠a->c a) (F: ∀a,f a=none->a≠e->e≠a->a≠i->i≠a->a≠v->v≠a->a≠O->O≠a->j5 a=c a:=by intros;exact eC):iX ((((f.set e Y).set i z).set v C).set O D) (bZ j5 ()):=λa b=>by
 obtain⟨b,d,h⟩:=U.set_nil b;obtain⟨b,k,o⟩:=U.set_nil b;obtain⟨b,p,r⟩:=U.set_nil b;obtain⟨b,x,y⟩:=U.set_nil b;exact(F a b x y p r k o d h).mpr (E a b x y p r k o d h)
def jI {v:R} (c: ∀a,f a=none->j5 a) (d:aR e (v::g):=by simp[aR,R.cells, *]) (h: ∀a,f a=none->s (.J (v::g) (.buf a (v::g).length)) (f.set a (.buf e (v::g).length (v::g).length))=j5 a:=by intros;exact eC):jE e f (v::g) (bO s ()):=by refine⟨d,?_⟩;rw[if_neg a9q];intro a b;exact(h a b).mpr (c a b)
def Xa {v:R} (h: ∀a,f a=none->a≠e->e≠a->j5 a) (k:aR i (v::g):=by simp[aR,R.cells, *]) (o: ∀a,f a=none->a≠e->e≠a->s (.J (v::g) (.buf a (v::g).length)) ((f.set e Y).set a (.buf i (v::g).length (v::g).length))=j5 a:=by intros;exact eC):jE i (f.set e Y) (v::g) (bO s ()):=by refine⟨k,?_⟩;rw[if_neg a9q];intro a b;obtain⟨b,c,d⟩:=U.set_nil b;exact(o a b c d).mpr (h a b c d)
def tV {v:R}{c:br} (p: ∀a,f a=none->a≠e->e≠a->a≠i->i≠a->j5 a) (r:aR O (v::g):=by simp[aR,R.cells, *]) (x: ∀a,f a=none->a≠e->e≠a->a≠i->i≠a->s (.J (v::g) (.buf a (v::g).length)) (((f.set e Y).set i c).set a (.buf O (v::g).length (v::g).length))=j5 a:=by intros;exact eC):jE O ((f.set e Y).set i c) (v::g) (bO s ()):=by refine⟨r,?_⟩;rw[if_neg a9q];intro a b;obtain⟨b,d,h⟩:=U.set_nil b;obtain⟨b,k,o⟩:=U.set_nil b;exact(x a b k o d h).mpr (p a b k o d h)
def Xb {c:Nat}{v:R}{d h k o:br} (L: ∀a,f a=none->a≠e->e≠a->a≠i->i≠a->a≠O->O≠a->a≠b8->b8≠a->a≠j0->j0≠a->j5 a) (P:aR c (v::g):=by simp[aR,R.cells, *]) (S: ∀a,f a=none->a≠e->e≠a->a≠i->i≠a->a≠O->O≠a->a≠b8->b8≠a->a≠j0->j0≠a->s (.J (v::g) (.buf a (v::g).length)) ((((((f.set e Y).set i d).set O h).set b8 k).set j0 o).set a (.buf c (v::g).length (v::g).length))=j5 a:=by intros;exact eC):jE c (((((f.set e Y).set i d).set O h).set b8 k).set j0 o) (v::g) (bO s ()):=by refine⟨P,?_⟩;rw[if_neg a9q];intro a b;obtain⟨b,p,r⟩:=U.set_nil b;obtain⟨b,x,y⟩:=U.set_nil b;obtain⟨b,z,C⟩:=U.set_nil b;obtain⟨b,D,E⟩:=U.set_nil b;obtain⟨b,F,G⟩:=U.set_nil b;exact(S a b F G D E z C x y p r).mpr (L a b F G D E z C x y p r)
def Xc {d:Nat}{v:R}{c:Nat}{h k o p r:br} (V: ∀a,f a=none->a≠e->e≠a->a≠i->i≠a->a≠O->O≠a->a≠b8->b8≠a->a≠j0->j0≠a->a≠c->c≠a->j5 a) (W:aR d (v::g):=by simp[aR,R.cells, *]) (j: ∀a,f a=none->a≠e->e≠a->a≠i->i≠a->a≠O->O≠a->a≠b8->b8≠a->a≠j0->j0≠a->a≠c->c≠a->s (.J (v::g) (.buf a (v::g).length)) (((((((f.set e Y).set i h).set O k).set b8 o).set j0 p).set c r).set a (.buf d (v::g).length (v::g).length))=j5 a:=by intros;exact eC):jE d ((((((f.set e Y).set i h).set O k).set b8 o).set j0 p).set c r) (v::g) (bO s ()):=by refine⟨W,?_⟩;rw[if_neg a9q];intro a b;obtain⟨b,x,y⟩:=U.set_nil b;obtain⟨b,z,C⟩:=U.set_nil b;obtain⟨b,D,E⟩:=U.set_nil b;obtain⟨b,F,G⟩:=U.set_nil b;obtain⟨b,L,P⟩:=U.set_nil b;obtain⟨b,S,T⟩:=U.set_nil b;exact(j a b S T L P F G D E z C x y).mpr (V a b S T L P F G D E z C x y)
def lY (a:AC K.p b5 (g++e0++B) f λb c=>c=f/\b=n) (d:N) (h:fZ K.p b5=true:=by kernel_rfl) (k:s n f=N:=by exact eC):wP K (.bG b5 g B) e0 f (bO s ()):=
 fD h a λ_ _ a=>by rw[a.1,a.2];exact k.mpr d
end
section
theorem x3 {r:dH}{h:Fr}{k:List Nat}{x:b0->List (Nat×R)}{y:b0->U->Prop} (z: ∀c∈wr h6,c∈k) (D:hj k h j) (o:List Nat) (V:o.all (λc=> !k.contains c)=true)
  (E:bS K h6 (eN (λa b=> ∃C,y C b/\gD a (x C)) e8) j f) (F: ∀d b,y d b-> ∀a,bS K r e8 (gQ (gQ a (keeps h o)) (x d)) b):bS K h6 (eN (bS K r e8) e8) j f:=by
 refine iZ h6 (λG a b p=> ?_) j f (o0 h6 z j f D E);cases G with
 |norm=>
  obtain⟨⟨d,L,P⟩,S⟩:=p;have T:gD a (keeps h o):=x0 λc W=>S c λz=>by
   simp_all
  have:=F d b L a;rw[s6 T,s6 P]at this;exact this
 |exit e=>exact p.1
 |ret=>exact p.1
def p6 {h:dH} (b:List Nat) (k:b0->List (Nat×R)) (o:b0->U->Prop)
  (x:bS K h6 (eN (λc a=> ∃p,o p a/\gD c (k p)) e8) j f) (d: ∀r a,o r a-> ∀c,bS K h e8 (gQ (gQ c (keeps j b)) (k r)) a) (y:b.all (λz=> !(wr h6).contains z)=true:=by kernel_rfl):bS K (.seq h6 h) e8 j f:=
 x3 (k:=wr h6) (λ_ d=>d) (λ_ _=>rfl) b y x d
def o3 {h k:dH}{z:cz (bS K h (eN (bS K h6 e8) e8) j f)}{C:cz (bS K k (eN (bS K h6 e8) e8) j f)} (o:List Nat) (p:b0->List (Nat×R)) (r:b0->U->Prop)
  (D:I=true->bS K h (eN (λc a=> ∃d,r d a/\gD c (p d)) e8) j f) (E:I=false->bS K k (eN (λc a=> ∃d,r d a/\gD c (p d)) e8) j f) (b: ∀x a,r x a-> ∀c,bS K h6 e8 (gQ (gQ c (keeps j o)) (p x)) a) (y:o.all (λI=> !(wr h++wr k).contains I)=true:=by kernel_rfl):
  kp (.v (.bool I)) (cv (bS K h (eN (bS K h6 e8) e8) j f) z) (cv (bS K k (eN (bS K h6 e8) e8) j f) C):=
 ⟨λh6=>x3 (λ_ b=>a6Y _ b) (λ_ _=>rfl) o y (D h6) b,λh6=>x3 (λ_ b=>a6T _ b) (λ_ _=>rfl) o y (E h6) b⟩
end
def Cq (a:N=b4:=by first|(simp -dsimp -implicitDefEqProofs (disch:=first|omega|assumption|exact U.tO a9s a9s|(simp only[bk,Nat.reduceAdd];try omega)) only[X1,nY,go_sem,simprocAttr,-List.reduceReplicate,↓eI,tP,tN, *]<;>rfl)|rfl):N=b4:=a
def p7 (a:e<=i:=by first|omega|((try simp only[a4O,a4S,a4W,a4Y,a4P,a5d, *])<;>omega)):e<=i:=a
def rd (a:f.sub t) (b:f e=some (.cells g)):t.read e=some g:=U.ae (a _ _ b)
theorem Cr {v:R} (b:aR e g) (h:v.cells.length=e):aR e (g++ [v]):=λc d=>by
 rcases a5a.1 d with a|a
 .exact b c a
 grind
def Cs:aR e []:=λ_ a=>by cases a
theorem bh.o4 (r:bh t f e g M): ∃d:U,bh d f e g M/\d.sub f/\t.sub d/\ ∀a,(∀b o,M= .buf b o->b≠a)->d a=f a:=by
 obtain⟨k,h⟩:=r;cases M with
 |buf b o=>
  have p:(f.del b).sub f:=λa M c=>by
   grind[U.im,U.eG]
  refine⟨f.del b,⟨p,U.im _ _,h.2⟩,p,λa M c=> ?_,λa c=>U.eG _ (a4U (c _ _ rfl))⟩;have x:a≠b:=by rintro rfl;rw[h.1]at c;cases c
  rw[U.eG _ x];exact k _ _ c
 |any=>trivial
 |nil=>exact⟨f,⟨U.a1,h⟩,U.a1,k,λ_ _=>rfl⟩
 |zero=>exact⟨f,⟨U.a1,h⟩,U.a1,k,λ_ _=>rfl⟩
def s9 {k:cz s} (d:bh t f e g M) (o:aR e g) (p:aR e B) (r:(g.length+B.length)*i<=140737488355328) (x:g.length+B.length<=9223372036854775807)
  (y: ∀b a,bh t a e (g++B) b->iu f a->s (.J (g++B) b) a):lU e i f (.J g M) (.J B e6) (bO s k):=by
 obtain⟨G,z,L,C,D⟩:=d.o4;refine dY z o p r x λb a h=>y b a (h.base C) λE P c=>h.sub _ _ ?_;rw[D E (λS T F=>by subst F;rintro rfl;rw[d.2.2]at c;cases c)];exact c
section
def hn {v:R}{k:Nat->R->U->Prop}{o:Nat->Own->U->Prop} (p:bh t f e g M) (y:aR e g) (z: ∀a c b,bh t b e (g++ [v]) c->iu f b->o a c b)
  (C:N=jE e f [v] (bO s ()):=by exact hK)
  (D: ∀a,f a=none->s (.J [v] (.buf a 1)) (f.set a (.buf e 1 1))=lU e i (f.set a (.buf e 1 1)) (.J g M) (.J [v] (.buf a 1)) (bO (k a) ()):=by intro a d;exact eC)
  (E: ∀a c b,bh t b e (g++ [v]) c->k a (.J (g++ [v]) c) b=o a c b:=by intro a c b p;exact hK)
  (r:v.cells.length=e:=by first|rfl|assumption|simp[R.cells, *]) (P:g.length<=1000000000:=by exact p7) (F:i<=10000:=by decide):N:=by
 rw[C];refine⟨λG h=>by rw[a5g.1 h];exact r,?_⟩;rw[if_neg a9q];intro a d;refine(D a d).mpr (s9 (p.mono (U.af U.a1 d)) y (λG h=>by rw[a5g.1 h];exact r) ?_ ?_ λc b x L=>(E a c b x).mpr (z a c b x ((U.qt (U.af U.a1 d)).trans L)))
 .exact a5K (a8l (show g.length+1<=1000000001 by omega) F) a9t
 .simp;omega
def Xd:aR 1 (w.map ak):=λb a=>by obtain⟨_,_,rfl⟩:=a5h.1 a;rfl
def Xe {d:UInt8}{k:Nat->R->U->Prop}{o:Nat->Own->U->Prop} (p:bh t f 1 (w.map ak) M) (x: ∀a c b,bh t b 1 ((w++ [d]).map ak) c->iu f b->o a c b)
  (y:N=jE 1 f [ak d] (bO s ()):=by exact hK)
  (z: ∀a,f a=none->s (.J [ak d] (.buf a 1)) (f.set a (.buf 1 1 1))=lU 1 e (f.set a (.buf 1 1 1)) (.J (w.map ak) M) (.J [ak d] (.buf a 1)) (bO (k a) ()):=by intro a G;exact eC)
  (C: ∀a c b,bh t b 1 ((w++ [d]).map ak) c->k a (.J ((w++ [d]).map ak) c) b=o a c b:=by intro a c b p;exact hK)
  (D:w.length<=1000000000:=by exact p7) (E:e<=10000:=by decide):N:=by
 have r:w.map ak++ [ak d]=(w++ [d]).map ak:=by rw[a5P];rfl
 refine hn p Xd (λa c b h F=>x a c b (r▸h) F) y z (λa c b h=> ?_) rfl (by rw[a4Y];exact D) E;rw[r]at h|-;exact C a c b h
def kt {c:Own->U->Prop} (d:bh t f e g M) (k:aR e g) (o:aR e B) (p: ∀b a,bh t a e (g++B) b->iu f a->c b a)
  (r:N=lU e i f (.J g M) (.J B e6) (bO s ()):=by exact hK) (x: ∀b a,bh t a e (g++B) b->s (.J (g++B) b) a=c b a:=by intro b a d;exact hK)
  (y:g.length+B.length<=1000000000:=by exact p7) (z:i<=10000:=by decide):N:=by
 rw[r];refine s9 d k o (a5K (a8l y z) a9t) a9p λb a h C=>(x b a h).mpr (p b a h C)
def sa {c:Own->U->Prop} (h:aR e g) (k: ∀a b,bh f b e g a->c a b)
  (o:N=lU e i f (.J [] M) (.J g e6) (bO s ()):=by exact Cq) (p:M= .nil\/M= .zero:=by first|exact .inl rfl|exact .inr rfl) (r: ∀a b,bh f b e g a->s (.J g a) b=c a b:=by intro a b d;exact hK)
  (x:g.length<=1000000000:=by exact p7) (y:i<=10000:=by decide):N:=
 kt (t:=f) (c:=c) (by rcases p with rfl|rfl;exact bh.nil U.a1;exact bh.zero U.a1) Cs h (λa b d _=>k a b d) o r (by simpa using x) y
def qv (c:au t f e B n) (k:bN f e b3=some (v,g)) (o: ∀a b,au t b e (B++g) a->a7 a b)
  (p:N=jG e i f n b3 (bO s ()):=by exact hK) (r: ∀a b,au t b e (B++g) a->s a b=a7 a b:=by intro a b c;exact hK)
  (d:0<e:=by decide) (x:g.length=v*e:=by first|rfl|omega|simp) (y:B.length+g.length<=1000000000:=by exact p7) (z:i<=10000:=by decide):N:=by
 rw[p];refine fh c d k x (a5K (a8l y z) (a5K a9t (a8F _ d))) a9p λa b h=>(r a b h).mpr (o a b h)
def tW (c:bN f e n=some (v,g)) (d: ∀a b,au f b e g a->a7 a b)
  (h:N=jG e i f (.J [] M) n (bO s ()):=by exact Cq) (k:M= .nil\/M= .zero:=by first|exact .inl rfl|exact .inr rfl) (o: ∀a b,au f b e g a->s a b=a7 a b:=by intro a b z;exact hK)
  (p:0<e:=by decide) (r:g.length=v*e:=by first|rfl|omega|simp) (x:g.length<=1000000000:=by exact p7) (y:i<=10000:=by decide):N:=
 qv (B:= []) (t:=f) (by rcases k with rfl|rfl;exact au.nil U.a1;exact au.zero U.a1) c d h o p r (by simpa using x) y
def Xf {v:R}{h k:Nat->R->U->Prop} (o:au t f 1 g n) (r: ∀a b c,au t c 1 (g++ [v]) b->h a b c) (x:N=nX 1 f [v] (bO s ()):=by exact hK)
  (y: ∀a,f a=none->s (.an a 1 1 1) (f.set a (.cells [v]))=jG 1 e (f.set a (.cells [v])) n (.an a 1 1 1) (bO (k a) ()):=by intro a d;exact eC)
  (z: ∀a b c,au t c 1 (g++ [v]) b->k a b c=h a b c:=by intro a b c o;exact hK) (p:v.cells= [v]:=by first|rfl|assumption) (C:g.length+1<=1000000000:=by exact p7) (D:e<=10000:=by decide):N:=by
 have E:flat [v]= [v]:=by simp[flat,p]
 rw[x];refine eO (λG F=>by rw[a5g.1 F,p];rfl) a9q λa d=> ?_;rw[E];refine(y a d).mpr (qv (o.mono (U.af U.a1 d)) ?_ (r a) rfl (z a) a9t rfl C D);simp[bN,U.read,U.set]
end
end Go.bz
set_option maxRecDepth 100000
namespace Go.Proofs.YtlgnfcaolejgeaaGreat
open Go Go.bz
def rotl (a:UInt32) (b:Nat):UInt32:=a<<<UInt32.ofNat b|||a>>>UInt32.ofNat (32 - b)
def Xg (a:Nat) (b:0<a/\a<32):bn .and (.int .u64 (IntKind.u64.wrap (-((32 - a:Nat):Int)))) (.int .u64 31)=some (.int .u64 a):=by have c: ∀a:Fin 32,0<a.val->IntKind.u64.wrap (BitVec.ofInt IntKind.u64.bits (IntKind.u64.wrap (-((32 - a.val:Nat))))&&&BitVec.ofInt IntKind.u64.bits 31).toNat=(a.val):=a9t;have:=c ⟨a,b.2⟩ b.1;simp only[bn,fq,hD,this];rfl
theorem Xh (c:UInt32) (a:Nat) (d:0<a/\a<32) (b:U):AC Tryz.prog 323 [.v (.int .u32 c.toNat),.v (.int .i64 (-((32 - a:Nat):Int)))] b λh k=>k=b/\h= .v (.int .u32 (rotl c a).toNat):=by refine bd hm S1 a9q ?_;refine aE (Xg a d) ?_;refine⟨b,U.a1,rfl,?_⟩;grind[rotl]
def lZ (b:UInt32) (d:Int) (a:Nat) (h:0<a/\a<32) (k:d= -((32 - a:Nat):Int)) (c:U):AC Tryz.prog 323 [.v (.int .u32 b.toNat),.v (.int .i64 d)] c λo p=>p=c/\o= .v (.int .u32 (rotl b a).toNat):=by subst k;exact Xh b a h c
def word (a:List UInt8) (b:Nat):UInt32:=(a.getD (4*b) 0).toUInt32<<<24|||(a.getD (4*b+1) 0).toUInt32<<<16|||(a.getD (4*b+2) 0).toUInt32<<<8|||(a.getD (4*b+3) 0).toUInt32
def Xi (a:UInt32):UInt32:=rotl a 25^^^rotl a 14^^^a>>>3
def Xj (a:UInt32):UInt32:=rotl a 15^^^rotl a 13^^^a>>>10
def more (a:List UInt32):List UInt32:=a++ [a.getD (a.length - 16) 0+Xi (a.getD (a.length - 15) 0)+a.getD (a.length - 7) 0+Xj (a.getD (a.length - 2) 0)]
def first (a:List UInt8) (b:Nat):List UInt32:=(List.range b).map (word a)
def grow:Nat->List UInt32->List UInt32
 |0,a=>a
 |b+1,a=>grow b (more a)
def sched (a:List UInt8):List UInt32:=grow 48 (first a 16)
def eg (a:List UInt32):List R:=a.map (λb=> .v (.int .u32 b.toNat))++List.replicate (64 - a.length) (.v (.int .u32 0))
def Xk:eg []=List.replicate 64 (.v (.int .u32 0)):=by rfl
variable{h5:List UInt32}
def sb (a:h5.length<=64):(eg h5).length=64:=by simp[eg];omega
variable{e i v O b8 j0:Nat}
theorem x4 (a:UInt32) (b:e=h5.length) (d:h5.length<64):putAt (eg h5) e [.v (.int .u32 a.toNat)]=eg (h5++ [a]):=by subst b;have c:64 - h5.length=(64 -(h5.length+1))+1:=a9p;simp only[putAt,eg,c,a7a];grind
theorem lb (a:e<h5.length):aX false 1 ((eg h5).drop e)= .v (.int .u32 (h5.getD e 0).toNat):=by grind[aX,eg,List.map_drop,List.drop_eq_getElem_cons,List.getD]
theorem Xl (c:List UInt8) (V:Own) (i:c.length=64) (D:U):AC Tryz.prog 321 [.J (c.map ak) V] D λj r=>r=D/\j= .agg ((sched c).map λP=> .v (.int .u32 P.toNat)):=by
 refine bd hm RX a9q ?_;refine eB ?_;refine aN λF l=> ?_;refine eB ?_;refine aN λG S=> ?_;obtain⟨s,S⟩:=U.gC S;refine eB ?_;refine ct (λb r=> ∃a:Nat,a<=16/\b 0= .J (c.map ak) V/\b 2= .ptr F 0/\b 3= .ptr G 0/\b 10= .v (.int .i64 a)/\r=(D.set F (.cells (List.replicate 64 (.v (.int .u32 0))))).set G (.cells (eg (first c a))))
  (λb _=>match b 10 with| .v (.int _ T)=>(16 - T).toNat| _=>0) ⟨0,a9p,?_⟩ ?_
 .simp -dsimp -implicitDefEqProofs (disch:=first|omega|assumption|(simp only[bk,Nat.reduceAdd];try omega)) only[go_sem,↓reduceIte,Nat.reduceEqDiff,Nat.reduceAdd,Nat.reduceSub,Nat.reduceMul,Nat.reduceLeDiff,Nat.reduceLT,Int.reduceNeg,Int.reduceToNat,Int.reduceAdd,Int.reduceSub,Int.reduceMul,Int.reduceLT,Int.reduceLE,Int.reduceEq,Int.reduceNe,first,List.range_zero,Xk]
  all_goals (simp)
 .rintro b r ⟨a,m,W,d,h,e,rfl⟩;have f:(first c a).length=a:=by simp[first]
  by_cases k:(a:Int)<16
  .have o:(eg (first c a)).length=64:=sb a9p;have n:(4*(a:Int)).toNat=4*a:=a9p;have x:(4*(a:Int)+1).toNat=4*a+1:=a9p;have y:(4*(a:Int)+2).toNat=4*a+2:=a9p;have z:(4*(a:Int)+3).toNat=4*a+3:=a9p;have t:(a:Int).toNat+1<=64:=a9p;refine aE (gf @W @d @h @e @k @o @i @n @x @y @z) ?_;rw[x4 _ f.symm a9p];refine⟨⟨a+1,a9p,a9q,?_⟩,a9p⟩;simp only[first,a8K,a5P,a5k,a6A];rfl
  .obtain rfl:a=16:=a9p;refine aE (bm @W @d @h @e @k) ?_;refine ct (λb r=> ∃(p:List UInt32) (a:Nat),a<=48/\p.length=16+a/\grow (48 - a) p=sched c/\b 2= .ptr F 0/\b 3= .ptr G 0/\b 5= .v (.int .i64 ((16+a:Nat)))/\r=(D.set F (.cells (List.replicate 64 (.v (.int .u32 0))))).set G (.cells (eg p)))
    (λb _=>match b 5 with| .v (.int _ T)=>(64 - T).toNat| _=>0) ⟨first c 16,0,a9p,f,rfl,?_⟩ ?_
   .simp -dsimp -implicitDefEqProofs (disch:=first|omega|assumption|(simp only[bk,Nat.reduceAdd];try omega)) only[go_sem,↓reduceIte,Nat.reduceEqDiff,Nat.reduceAdd,Nat.reduceSub,Nat.reduceMul,Nat.reduceLeDiff,Nat.reduceLT,Int.reduceNeg,Int.reduceToNat,Int.reduceAdd,Int.reduceSub,Int.reduceMul,Int.reduceLT,Int.reduceLE,Int.reduceEq,Int.reduceNe,d,h,grow];rfl
   .rintro b r ⟨p,a,m,L,g,d,h,C,rfl⟩;by_cases k:((16+a:Nat):Int)<64
    .have o:(eg p).length=64:=sb a9p;have x:(((16+a:Nat):Int) - 15).toNat=a+1:=a9p;have y:(((16+a:Nat):Int) - 2).toNat=a+14:=a9p;have z:(((16+a:Nat):Int) - 16).toNat=a:=a9p;have E:(((16+a:Nat):Int) - 7).toNat=a+9:=a9p;refine aE (cf @d @h @C @k @x @y @z @E @o @lb) ?_;refine ag (lZ _ _ 25 a9t a9t _) ?_;rintro _ _ ⟨rfl,rfl⟩;refine aE (cf @d @h @C @k @x @y @z @E @o @lb) ?_;refine ag (lZ _ _ 14 a9t a9t _) ?_;rintro _ _ ⟨rfl,rfl⟩;refine aE (cf @d @h @C @k @x @y @z @E @o @lb) ?_;refine ag (lZ _ _ 15 a9t a9t _) ?_;rintro _ _ ⟨rfl,rfl⟩;refine aE (cf @d @h @C @k @x @y @z @E @o @lb) ?_;refine ag (lZ _ _ 13 a9t a9t _) ?_;rintro _ _ ⟨rfl,rfl⟩;refine aE (cf @d @h @C @k @x @y @z @E @o @lb) ?_;rw[x4 _ L.symm a9p];refine⟨⟨_,a+1,a9p,by simp[L];omega,?_,?_,rfl⟩,a9p⟩
     .rw[<-g,show 48 - a=(48 -(a+1))+1 by omega,grow,more,L];rw[show 16+a - 16=a by omega,show 16+a - 15=a+1 by omega,show 16+a - 7=a+9 by omega,show 16+a - 2=a+14 by omega];rfl
     .simp;omega
    .obtain rfl:a=48:=a9p;have o:(eg p).length=64:=sb a9p;have q:(eg p).take 64=p.map λP=> .v (.int .u32 P.toNat):=by grind[eg,List.take_of_length_le]
     have u:p=sched c:=g;refine aE (c6 @d @h @C @k @o @q @L) ?_;exact⟨D,U.af (U.af U.a1 l) S,rfl,by grind⟩
def wl (a:List UInt32):List R:=a.map λb=> .v (.int .u32 b.toNat)
theorem eJ:(wl h5).length=h5.length:=by simp[wl]
theorem ho (a:e<h5.length):aX false 1 ((wl h5).drop e)= .v (.int .u32 (h5.getD e 0).toNat):=by simp only[aX,wl];simp_all
def p8 (a:0<h5.length):aX false 1 (wl h5)= .v (.int .u32 (h5.getD 0 0).toNat):=ho (e:=0) a
def Ct (a:UInt32) (b:e<h5.length):putAt (wl h5) e [.v (.int .u32 a.toNat)]=wl (h5.set e a):=by simp only[putAt,wl,a4S,a4W,<-a8p,<-a7F];rw[a6d,if_pos b];simp
def mX:List UInt32:= [
 0x428a2f98,0x71374491,0xb5c0fbcf,0xe9b5dba5,0x3956c25b,0x59f111f1,0x923f82a4,0xab1c5ed5,
 0xd807aa98,0x12835b01,0x243185be,0x550c7dc3,0x72be5d74,0x80deb1fe,0x9bdc06a7,0xc19bf174,
 0xe49b69c1,0xefbe4786,0x0fc19dc6,0x240ca1cc,0x2de92c6f,0x4a7484aa,0x5cb0a9dc,0x76f988da,
 0x983e5152,0xa831c66d,0xb00327c8,0xbf597fc7,0xc6e00bf3,0xd5a79147,0x06ca6351,0x14292967,
 0x27b70a85,0x2e1b2138,0x4d2c6dfc,0x53380d13,0x650a7354,0x766a0abb,0x81c2c92e,0x92722c85,
 0xa2bfe8a1,0xa81a664b,0xc24b8b70,0xc76c51a3,0xd192e819,0xd6990624,0xf40e3585,0x106aa070,
 0x19a4c116,0x1e376c08,0x2748774c,0x34b0bcb5,0x391c0cb3,0x4ed8aa4a,0x5b9cca4f,0x682e6ff3,
 0x748f82ee,0x78a5636f,0x84c87814,0x8cc70208,0x90befffa,0xa4506ceb,0xbef9a3f7,0xc67178f2]
def gi:List UInt32:= [0x6a09e667,0xbb67ae85,0x3c6ef372,0xa54ff53a,0x510e527f,0x9b05688c,0x1f83d9ab,0x5be0cd19]
def x5 (a:U):AC Tryz.prog 270 [] a λb c=>c=a/\b= .agg (wl gi):=by refine bd hm QU a9q ?_;refine eB ?_;refine aN λh d=> ?_;simp -dsimp -implicitDefEqProofs (disch:=first|omega|assumption|(simp only[bk,Nat.reduceAdd];try omega)) only[go_sem,simprocAttr,putAt,List.take,List.drop,List.replicate,a6a,a5f];exact⟨a,U.af U.a1 d,rfl,rfl⟩
def Xm (a:U):AC Tryz.prog 322 [] a λb c=>c=a/\b= .agg (wl mX):=by refine bd hm RZ a9q ?_;refine eB ?_;refine aN λh d=> ?_;simp -dsimp -implicitDefEqProofs (disch:=first|omega|assumption|(simp only[bk,Nat.reduceAdd];try omega)) only[go_sem,simprocAttr,putAt,List.take,List.drop,List.replicate,a6a,a5f];exact⟨a,U.af U.a1 d,rfl,rfl⟩
def sc (p r:UInt32):List UInt32->List UInt32
 | [a,c,d,x,b,h,k,y]=>
  let o:=y+(rotl b 26^^^rotl b 21^^^rotl b 7)+(b&&&h^^^ ~~~b&&&k)+p+r
  let z:=(rotl a 30^^^rotl a 19^^^rotl a 10)+(a&&&c^^^a&&&d^^^c&&&d)
  [o+z,a,c,d,x+o,b,h,k]
 |C=>C
def iw:List UInt32->List UInt32->List UInt32->List UInt32
 |a::bI,b::ws,v=>iw bI ws (sc a b v)
 | _,_,v=>v
def comp (a:List UInt32) (b:List UInt8):List UInt32:=List.zipWith (·+ ·) (iw mX (sched b) a) a
def jJ (a:Nat) (v b:List UInt32):List UInt32:=List.zipWith (·+ ·) (v.take a) (b.take a)++v.drop a
def Cu: ∀(a:Nat) (b:List UInt32),(grow a b).length=b.length+a
 |0,b=>rfl
 |a+1,b=>by rw[grow,Cu a,more];simp;omega
def Xn (a:List UInt8):(sched a).length=64:=by simp[sched,Cu,first]
def Xo (a:List UInt8) (c:Own) (d:a.length=64) (b:U):AC Tryz.prog 321 [.J (a.map ak) c] b λh k=>k=b/\h= .agg (wl (sched a)):=Xl a c d b
def Cv (v b:List UInt32) (c:v.length=8) (d:b.length=8) (a:Nat) (h:a<8):
  (jJ a v b).length=8/\(jJ a v b).set a ((jJ a v b).getD a 0+b.getD a 0)=jJ (a+1) v b:=by
 match v,c,b,d with
 | [k,o,p,r,x,y,z,C],_,[D,E,F,G,L,P,S,T],_=>rcases(by omega:a=0\/a=1\/a=2\/a=3\/a=4\/a=5\/a=6\/a=7)with rfl|rfl|rfl|rfl|rfl|rfl|rfl|rfl<;>exact⟨rfl,rfl⟩
def Xp (a b:UInt32) (v:List UInt32) (c:v.length=8):(sc a b v).length=8:=by
 match v,c with
 | [d,h,k,o,p,r,x,a],_=>rfl
def Cw: ∀(a b v:List UInt32),v.length=8->(iw a b v).length=8
 | [],_,v,c=>by trivial
 | _:: _,[],v,c=>by trivial
 |d::a,h::b,v,c=>by rw[iw];exact Cw a b _ (Xp d h v c)
theorem Cx (b c v:List UInt32) (a:Nat) (d:a<b.length) (h:a<c.length):iw (b.drop a) (c.drop a) v=iw (b.drop (a+1)) (c.drop (a+1)) (sc (b.getD a 0) (c.getD a 0) v):=by grind[List.drop_eq_getElem_cons,iw,List.getD]
theorem Xq (c x y:List UInt32) (I:List UInt8) (K:Own) (t:c.length=8) (N:x.length=64) (O:y.length=64)
  (Q: ∀o,AC Tryz.prog 322 [] o λT p=>p=o/\T= .agg (wl x))
  (X: ∀o,AC Tryz.prog 321 [.J (I.map ak) K] o λT p=>p=o/\T= .agg (wl y)) (o:U):
  AC Tryz.prog 271 [.agg (wl c),.J (I.map ak) K] o λT p=>p=o/\T= .agg (wl (List.zipWith (·+ ·) (iw x y c) c)):=by
 refine bd hm QW a9q ?_;have z:(wl c).length=8:=by rw[eJ,t]
 have C:(wl x).length=64:=by rw[eJ,N]
 have D:(wl y).length=64:=by rw[eJ,O]
 refine aE @z ?_;refine aN λW Y=> ?_;refine aE @z ?_;refine aN λe u=> ?_;obtain⟨k6,u⟩:=U.gC u;refine aE @z ?_;refine ag (X _) ?_;rintro _ _ ⟨rfl,rfl⟩;refine aE @z ?_;refine ag (Q _) ?_;rintro _ _ ⟨rfl,rfl⟩;refine aE @z ?_;refine aN λw V=> ?_;obtain⟨k7,V⟩:=U.gC V;obtain⟨k8,V⟩:=U.gC V;refine aE @z ?_;refine aN λA S=> ?_;obtain⟨k9,S⟩:=U.gC S;obtain⟨l0,S⟩:=U.gC S;obtain⟨l1,S⟩:=U.gC S;refine aE @z ?_;refine aN λf E=> ?_;obtain⟨l2,E⟩:=U.gC E;obtain⟨l3,E⟩:=U.gC E;obtain⟨l4,E⟩:=U.gC E;obtain⟨l5,E⟩:=U.gC E;refine aE (aK @z @C @D @a4N.{0}) ?_;refine ct (λb p=> ∃(a:Nat) (v:List UInt32),a<=64/\v.length=8/\iw (x.drop a) (y.drop a) v=iw x y c/\b 2= .ptr W 0/\b 4= .ptr e 0/\b 5= .ptr w 0/\b 6= .ptr A 0/\b 7= .ptr f 0/\b 18= .v (.int .i64 a)/\
   p=(((((o.set W (.cells (wl c))).set e (.cells (List.replicate 8 (.v (.int .u32 0))))).set w (.cells (wl y))).set A (.cells (wl x))).set f (.cells (wl v))))
  (λb _=>match b 18 with| .v (.int _ B)=>(64 - B).toNat| _=>0) ⟨0,c,a9p,t,rfl,?_⟩ ?_
 .exact qp
  all_goals (trivial)
 .rintro b p ⟨a,v,Z,H,j9,d,h,F,G,k,L,rfl⟩;have P:(wl v).length=8:=by rw[eJ,H]
  by_cases r:(a:Int)<64
  .obtain⟨g,i,j,l,m,n,q,s,rfl⟩: ∃g i j l m n q s,v= [g,i,j,l,m,n,q,s]:=by
    match v,H with
    | [g,i,j,l,m,n,q,s],_=>simp
   refine aE (gg @d @h @F @G @k @L @r @P @C @D @ho @p8 @a5u.{0} @a5x.{0}) ?_;refine ag (lZ _ _ 26 a9t a9t _) ?_;rintro _ _ ⟨rfl,rfl⟩;refine aE (gg @d @h @F @G @k @L @r @P @C @D @ho @p8 @a5u.{0} @a5x.{0}) ?_;refine ag (lZ _ _ 21 a9t a9t _) ?_;rintro _ _ ⟨rfl,rfl⟩;refine aE (gg @d @h @F @G @k @L @r @P @C @D @ho @p8 @a5u.{0} @a5x.{0}) ?_;refine ag (lZ _ _ 7 a9t a9t _) ?_;rintro _ _ ⟨rfl,rfl⟩;refine aE (gg @d @h @F @G @k @L @r @P @C @D @ho @p8 @a5u.{0} @a5x.{0}) ?_;refine ag (lZ _ _ 30 a9t a9t _) ?_;rintro _ _ ⟨rfl,rfl⟩;refine aE (gg @d @h @F @G @k @L @r @P @C @D @ho @p8 @a5u.{0} @a5x.{0}) ?_;refine ag (lZ _ _ 19 a9t a9t _) ?_;rintro _ _ ⟨rfl,rfl⟩;refine aE (gg @d @h @F @G @k @L @r @P @C @D @ho @p8 @a5u.{0} @a5x.{0}) ?_;refine ag (lZ _ _ 10 a9t a9t _) ?_;rintro _ _ ⟨rfl,rfl⟩;simp -dsimp -implicitDefEqProofs (disch:=first|omega|assumption|(simp only[bk,Nat.reduceAdd];try omega)) only[go_sem,↓reduceIte,Nat.reduceEqDiff,Nat.reduceAdd,Nat.reduceSub,Nat.reduceMul,Nat.reduceLeDiff,Nat.reduceLT,Int.reduceNeg,Int.reduceToNat,Int.reduceAdd,Int.reduceSub,Int.reduceMul,Int.reduceLT,Int.reduceLE,Int.reduceEq,Int.reduceNe,d,h,F,G,k,L,r,P,C,D,ho,p8,a5u,a5x,putAt,List.take,List.drop,List.replicate,a6a,a5f];refine⟨⟨a+1,sc (x.getD a 0) (y.getD a 0) [g,i,j,l,m,n,q,s],a9p,rfl,?_,a9q,rfl⟩,a9p⟩;grind[Cx]
  .obtain rfl:a=64:=a9p;have k0:iw x y c=v:=by rw[<-j9,a6i a9p];rfl
   refine aE (cf @d @h @F @G @k @L @r @P @C @D) ?_;refine ct (λb p=> ∃a:Nat,a<=8/\b 2= .ptr W 0/\b 4= .ptr e 0/\b 7= .ptr f 0/\b 108= .v (.int .i64 a)/\
     p=(((((o.set W (.cells (wl c))).set e (.cells (List.replicate 8 (.v (.int .u32 0))))).set w (.cells (wl y))).set A (.cells (wl x))).set f (.cells (wl (jJ a v c)))))
    (λb _=>match b 108 with| .v (.int _ B)=>(8 - B).toNat| _=>0) ⟨0,a9p,?_⟩ ?_
   .refine aE (aH @d @h @k) ?_;rfl
   .rintro b p ⟨a,Z,d,h,k,M,rfl⟩;by_cases r:(a:Int)<8
    .obtain⟨k1,k2⟩:=Cv v c H t a a9p;have k3:(wl (jJ a v c)).length=8:=by rw[eJ,k1]
     refine aE (cf @d @h @k @M @r @z @k3 @ho @Ct @k2) ?_;grind
    .obtain rfl:a=8:=a9p;have k4:jJ 8 v c=List.zipWith (·+ ·) v c:=by grind[jJ,List.take_of_length_le,List.drop_of_length_le]
     have k5:(wl (List.zipWith (·+ ·) v c)).length=8:=by rw[eJ];simp;omega
     rw[k4];refine aE (c6 @d @h @k @M @r @k5 @a4N.{0}) ?_;refine⟨o,?_,rfl,by rw[k0]⟩;exact U.af (U.af (U.af (U.af (U.af U.a1 Y) u) V) S) E
def Cy (b:List UInt32) (a:List UInt8) (c:Own) (h:b.length=8) (k:a.length=64) (d:U):
  AC Tryz.prog 271 [.agg (wl b),.J (a.map ak) c] d λo p=>p=d/\o= .agg (wl (comp b a)):=
 Xq b mX (sched a) a c h rfl (Xn a) Xm (Xo a c k) d
def x6 (a:List UInt32) (c:List UInt8) (b:a.length=8):(comp a c).length=8:=by simp[comp,Cw _ _ _ b,b]
def bytes (a:List UInt8) (b:Own):R:= .J (a.map ak) b
def cA (a:Nat):List UInt8:= [UInt8.ofNat (a>>>56),UInt8.ofNat (a>>>48),UInt8.ofNat (a>>>40),UInt8.ofNat (a>>>32),UInt8.ofNat (a>>>24),UInt8.ofNat (a>>>16),UInt8.ofNat (a>>>8),UInt8.ofNat (a>>>0)]
theorem Cz (b:Nat) (x:U):AC Tryz.prog 272 [.v (.int .u64 b)] x λC h=> ∃c,bh x h 1 ((cA b).map ak) c/\C= .J ((cA b).map ak) c:=by
 refine bd hm QY a9q ?_;refine eB ?_;refine ct (λd h=> ∃(a:Nat) (c:Own),a<=8/\bh x h 1 (((cA b).take a).map ak) c/\d 0= .v (.int .u64 b)/\d 3= .J (((cA b).take a).map ak) c/\d 4= .v (.int .i64 (56 - 8*(a))))
  (λd _=>match d 4 with| .v (.int _ b)=>(b+8).toNat| _=>0) ⟨0,.nil,a9p,bh.V2 U.a1,?_⟩ ?_
 .refine eB ?_;rfl
 .rintro d h ⟨a,c,G,y,k,o,p⟩;by_cases r:(0)<=56 - 8*(a:Int)
  .refine aE (bm @k @o @p @r @ir) ?_;refine rU U.a1 λL P D=> ?_;refine aE (aK @k @o @p @r) ?_;refine wH (y.mono D.sub) (by simp[cA];omega) λE S F=> ?_;refine aE (aK @k @o @p @r) ?_;refine⟨⟨a+1,E,a9p,?_,?_⟩,a9p⟩
   .have z:(cA b).take (a+1)=(cA b).take a++ [UInt8.ofNat (b>>>(56 - 8*(a:Int)).toNat)]:=by rcases(by omega:a=0\/a=1\/a=2\/a=3\/a=4\/a=5\/a=6\/a=7)with rfl|rfl|rfl|rfl|rfl|rfl|rfl|rfl<;>rfl
    rw[z];exact F
   .have z:(cA b).take (a+1)=(cA b).take a++ [UInt8.ofNat (b>>>(56 - 8*(a:Int)).toNat)]:=by rcases(by omega:a=0\/a=1\/a=2\/a=3\/a=4\/a=5\/a=6\/a=7)with rfl|rfl|rfl|rfl|rfl|rfl|rfl|rfl<;>rfl
    grind
  .obtain rfl:a=8:=a9p;refine aE (aK @k @o @p @r) ?_;exact⟨h,U.a1,c,y,rfl⟩
def p9 (b:List (List UInt8×Own)):List R:=b.map λa=> .J (a.1.map ak) a.2
def chunk (a:List UInt8):List UInt8:=cA a.length++a
def preB (a:UInt8) (b:List (List UInt8)):List UInt8:=a::b.flatMap chunk
def x7 (a:UInt8): ∀b:List (List UInt8),b.length<(preB a b).length
 | []=>by simp[preB]
 |d::c=>by
  have:=x7 a c;simp only[preB,a4S,a5o,a4O,chunk,cA,a4W]at this|-;omega
def CA (b:UInt8) (c:List (List UInt8×Own)) (p:Own) (S:(preB b (c.map (·.1))).length<=70368744177664) (G:U):
  AC Tryz.prog 189 [.v (.int .u8 b.toNat),.J (p9 c) p] G λT r=> ∃p,bh G r 1 ((preB b (c.map (·.1))).map ak) p/\T= .J ((preB b (c.map (·.1))).map ak) p:=by
 refine bd hm OU a9q ?_;refine eB ?_;refine rU U.a1 λV n W=> ?_;refine eB ?_;refine ct (λh r=> ∃(a k:List (List UInt8×Own)) (E:Own),c=a++k/\bh G r 1 ((preB b (a.map (·.1))).map ak) E/\h 5= .J ((preB b (a.map (·.1))).map ak) E/\h 10= .J (p9 c) p/\h 11= .v (.int .i64 c.length)/\h 12= .v (.int .i64 a.length))
  (λh _=>match h 12 with| .v (.int _ e)=>(c.length - e).toNat| _=>0) ⟨[],c,V,rfl,W,?_⟩ ?_
 .refine eB ?_;exact⟨rfl,by simp[p9]⟩
 .rintro h r ⟨a,k,E,rfl,L,x,y,z,C⟩;cases k with
  |nil=>have o: ¬(a.length:Int)<((a++ []).length):=a9q;refine aE (bm @x @y @z @C @o) ?_;simp only[a5R]at*;exact⟨r,U.a1,E,L,rfl⟩
  |cons f k=>
   obtain⟨d,D⟩:=f;have o:(a.length:Int)<((a++(d,D)::k).length):=a9r;have F:(p9 (a++(d,D)::k))[a.length]? =some (.J (d.map ak) D):=by simp[p9]
   have q:(preB b (a.map (·.1))).length+8+d.length<=70368744177664:=by refine a5K ?_ S;simp[preB,chunk,cA];omega
   have g:=x7 b (a.map (·.1));rw[a4Y]at g;refine aE (c6 @x @y @z @C @o @F @hG) ?_;refine ag (Cz d.length _) ?_;rintro _ s ⟨t,i,rfl⟩;refine aE (c6 @x @y @z @C @o @F @hG) ?_;refine mQ (L.mono i.sub) ?_ λu v j=> ?_
   .simp only[cA,a4S,a4W];omega
   refine aE (c6 @x @y @z @C @o @F @hG) ?_;refine mQ j ?_ λl w P=> ?_
   .simp only[cA,a4O,a4S,a4W];omega
   refine aE (c6 @x @y @z @C @o @F @hG) ?_;have m:preB b (a.map (·.1))++cA d.length++d=preB b ((a++ [(d,D)]).map (·.1)):=by simp[preB,chunk]
   rw[m]at P|-;refine⟨⟨a++ [(d,D)],k,l,a9q,P,rfl,?_⟩,?_⟩
   .simp
   omega
def blocks:Nat->List UInt32->List UInt8->List UInt32
 |0,a,_=>a
 |b+1,a,aP=>blocks b (comp a (aP.take 64)) (aP.drop 64)
def pa: ∀(b:Nat) (a:List UInt32) (aP:List UInt8),a.length=8->(blocks b a aP).length=8
 |0,_,_,c=>c
 |b+1,a,aP,c=>by rw[blocks];exact pa b _ _ (x6 a _ c)
theorem tX: ∀(a:Nat) (b:List UInt32) (aP:List UInt8),blocks (a+1) b aP=comp (blocks a b aP) ((aP.drop (64*a)).take 64)
 |0,b,aP=>by rfl
 |a+1,b,aP=>by
  rw[blocks,tX a,blocks,a5B];grind
theorem CB: ∀(a b:Nat) (c:List UInt32) (aP:List UInt8),blocks (a+b) c aP=blocks b (blocks a c aP) (aP.drop (64*a))
 |0,b,c,aP=>by simp[blocks]
 |a+1,b,c,aP=>by
  rw[show a+1+b=(a+b)+1 by omega,blocks,CB a b,blocks,a5B,show 64+64*a=64*(a+1) by omega]
theorem CC: ∀(a:Nat) (b:List UInt32) (aP c:List UInt8),64*a<=aP.length->blocks a b (aP++c)=blocks a b aP
 |0,_,_,_,_=>rfl
 |a+1,b,aP,c,d=>by
  rw[blocks,blocks,a6o a9p,a6p a9p];exact CC a _ _ _ a9r
variable{n b3:R}
section
variable {h:List UInt32}(hh:h.length=8)
include hh
def ma:(wl h++ [n,b3]).length=10:=by simp[wl,hh]
def qw:(wl h++ [n,b3]).drop 9= [b3]:=by rw[show(9)=(wl h).length+1 by rw[eJ,hh],<-a5B,a7w];rfl
theorem qx:(wl h++ [n,b3]).drop 8= [n,b3]:=by grind[wl,eJ,List.drop_left]
theorem qy:(wl h++ [n,b3]).take 8=wl h:=by grind[wl,eJ,List.take_left]
theorem x8 {a:R} :putAt (wl h++ [n,b3]) 9 [a]=wl h++ [n,a]:=by simp_all [eJ,putAt,a7V,a4N]
theorem tY {a:R} :putAt (wl h++ [n,b3]) 8 [a]=wl h++ [a,b3]:=by simp_all [eJ,putAt,a6l]
theorem x9 (a:h5.length=8):putAt (wl h++ [n,b3]) 0 (wl h5)=wl h5++ [n,b3]:=by grind[wl,eJ,putAt,List.take_append,List.drop_append,List.drop_of_length_le]
end
variable{f t e4:U}{Y:br}
theorem U.pb (a:f e=some Y):f.set e Y=f:=by grind[U.set]
theorem U.CD {c:br} (d:(f.set e c).sub t):(f.set e Y).sub (t.set e Y):=λh k a=>by
 rw[U.tD]at a|-;split;simp_all
 .rename_i b;rw[if_neg b]at a;exact d h k (by rw[U.tD,if_neg b];exact a)
theorem Xr (h:List UInt32) (a:h.length=8) (T: ∀o,AC Tryz.prog 270 [] o λV p=>p=o/\V= .agg (wl h)) (b:List UInt8) (W:Own) (s:b.length<=70368744177664) (o:U) (k:Nat) (e:o k=some (.cells (wl h++ [.J [] .nil,.v (.int .u64 0)]))):
  AC Tryz.prog 187 [.ptr k 0,.J (b.map ak) W] o λ_ p=> ∃r,p=o.set k (.cells (wl (blocks (b.length/64) h b)++ [.J ((b.drop (64*(b.length/64))).map ak) r,.v (.int .u64 b.length)])):=by
 refine bd hm OQ a9q ?_;have E:(wl h).length=8:=by rw[eJ,a]
 rw[<-U.pb e];simp -dsimp -implicitDefEqProofs (disch:=first|omega|assumption|(simp only[bk,Nat.reduceAdd];try omega)) only[go_sem,simprocAttr,ma a,qw a,qx a,qy a,x8 a,tY a];refine ag (T _) ?_;rintro _ _ ⟨rfl,rfl⟩;simp -dsimp -implicitDefEqProofs (disch:=first|omega|assumption|(simp only[bk,Nat.reduceAdd];try omega)) only[go_sem,simprocAttr,ma a,qw a,qx a,qy a,x8 a,tY a,x9 a a,E];refine dc U.a1 (by simp[aR]) λt u F=> ?_;have G:=F.sub k _ (U.ai _ _ _);simp -dsimp -implicitDefEqProofs (disch:=first|omega|assumption|(simp only[bk,Nat.reduceAdd];try omega)) only[go_sem,simprocAttr,U.aJ G,U.ae G,ma a,qw a,qx a,qy a,x8 a,tY a,x9 a a,E];refine dY F (by simp[aR]) (by simp[aR]) a9q a9q λv w f=> ?_;refine eB ?_;refine mQ (w:= []) f a9r λg i L=> ?_;have j:=L.sub k _ (U.ai _ _ _);rw[<-U.pb j];simp -dsimp -implicitDefEqProofs (disch:=first|omega|assumption|(simp only[bk,Nat.reduceAdd];try omega)) only[go_sem,simprocAttr,a8z,a5f];refine ct (λx p=> ∃(c:Nat) (r:Own),64*c<=b.length/\x 0= .ptr k 0/\x 4= .J ((b.drop (64*c)).map ak) r/\p=i.set k (.cells (wl (blocks c h b)++ [.J [] .nil,.v (.int .u64 b.length)])))
  (λx _=>match x 4 with| .J xs _=>xs.length| _=>0) ⟨0,g,a9p,?_⟩ ?_
 .simp -dsimp -implicitDefEqProofs (disch:=first|omega|assumption|(simp only[bk,Nat.reduceAdd];try omega)) only[go_sem,simprocAttr,a8z];rfl
 .rintro x p ⟨c,r,A,C,D,rfl⟩;have d:=pa c h b a;generalize P:blocks c h b=z at*;have B:(wl z).length=8:=by rw[eJ,d]
  by_cases y:(64)<=((b.drop (64*c)).length:Int)
  .have l:=y;rw[a5d]at l;simp -dsimp -implicitDefEqProofs (disch:=first|omega|assumption|(simp only[bk,Nat.reduceAdd];try omega)) only[go_sem,simprocAttr,C,D,y,ma d,qy d];have m:((b.drop (64*c)).take (64:Int).toNat).length=64:=a9r;refine ag (Cy z _ _ d m _) ?_;rintro _ _ ⟨rfl,rfl⟩;have S:=x6 z ((b.drop (64*c)).take 64) d;have n:(wl (comp z ((b.drop (64*c)).take 64))).length=8:=by rw[eJ,S]
   simp -dsimp -implicitDefEqProofs (disch:=first|omega|assumption|(simp only[bk,Nat.reduceAdd];try omega)) only[go_sem,simprocAttr,C,D,y,ma d,x9 d S,n];refine⟨⟨c+1,.any,a9p,?_,?_⟩,by simp only[a5d];omega⟩;grind[List.drop_drop]
   .rw[tX,P]
  .simp -dsimp -implicitDefEqProofs (disch:=first|omega|assumption|(simp only[bk,Nat.reduceAdd];try omega)) only[go_sem,simprocAttr,C,D,y,ma d,tY d];rw[a5d]at y;have q:b.length/64=c:=a9p;refine⟨o.set k _,U.CD L.sub,r,?_⟩;rw[q,P]
def Xs (a:List UInt8) (d:Own) (h:a.length<=70368744177664) (b:U) (c:Nat) (k:b c=some (.cells (wl gi++ [.J [] .nil,.v (.int .u64 0)]))):
  AC Tryz.prog 187 [.ptr c 0,.J (a.map ak) d] b λ_ o=> ∃p,o=b.set c (.cells (wl (blocks (a.length/64) gi a)++ [.J ((a.drop (64*(a.length/64))).map ak) p,.v (.int .u64 a.length)])):=
 Xr gi rfl x5 a d h b c k
def eh (a:Nat):Nat:=(55+64 - a%64)%64
def ja (a:Nat) (b:List UInt8):List UInt8:=b++128::List.replicate (eh a) 0++cA (8*a)
def xa (a:UInt32):List UInt8:= [(a>>>24).toUInt8,(a>>>16).toUInt8,(a>>>8).toUInt8,a.toUInt8]
def ei (a:List UInt32):List UInt8:=a.flatMap xa
def cw (a:List UInt8):R:= .agg (a.map ak)
def hM (a:List UInt8):List R:=a.map ak++List.replicate (32 - a.length) (.v (.int .u8 0))
variable{w:List UInt8}
def tZ (a:w.length<=32):(hM w).length=32:=by simp[hM];omega
def xb (a:UInt8) (b:e=w.length) (d:w.length<32):putAt (hM w) e [.v (.int .u8 a.toNat)]=hM (w++ [a]):=by subst b;have c:32 - w.length=(32 -(w.length+1))+1:=a9p;simp only[putAt,hM,c,a7a];simp[a6l,ak]
def u0: ∀a:List UInt32,(ei a).length=4*a.length
 | []=>rfl
 |c::b=>by simp only[ei,a5o,a4O]at*;have:=u0 b;simp only[ei]at this;rw[this];simp[xa];omega
theorem Xt (m:List UInt32) (a08:m.length=8) (k4: ∀F,AC Tryz.prog 270 [] F λn p=>p=F/\n= .agg (wl m)) (r:List UInt32) (x:r.length=8) (a:Nat) (k:List UInt8) (H:Own) (a09:a<=70368744177664) (I:k.length=a%64) (k5:a=0->r=m)
  (F:U) (S:Nat) (T:F S=some (.cells (wl r++ [.J (k.map ak) H,.v (.int .u64 a)]))):
  AC Tryz.prog 188 [.ptr S 0] F λn p=>p=F/\n=cw (ei (blocks ((ja a k).length/64) r (ja a k))):=by
 refine bd hm OS a9q ?_;have K:(wl r).length=8:=by rw[eJ,x]
 refine eB ?_;refine aN λG q=> ?_;have k6:S≠G:=by rintro rfl;rw[q]at T;cases T
 simp -dsimp -implicitDefEqProofs (disch:=first|omega|assumption|(simp only[bk,Nat.reduceAdd];try omega)) only[go_sem,↓reduceIte,Nat.reduceEqDiff,Nat.reduceAdd,Nat.reduceSub,Nat.reduceMul,Nat.reduceLeDiff,Nat.reduceLT,Int.reduceNeg,Int.reduceToNat,Int.reduceAdd,Int.reduceSub,Int.reduceMul,Int.reduceLT,Int.reduceLE,Int.reduceEq,Int.reduceNe,U.ae T,ma x,qw x,qx x,qy x];refine aN λL f=> ?_;obtain⟨M,f⟩:=U.gC f;have k7:S≠L:=by rintro rfl;rw[f]at T;cases T
 simp -dsimp -implicitDefEqProofs (disch:=first|omega|assumption|(simp only[bk,Nat.reduceAdd];try omega)) only[go_sem,↓reduceIte,Nat.reduceEqDiff,Nat.reduceAdd,Nat.reduceSub,Nat.reduceMul,Nat.reduceLeDiff,Nat.reduceLT,Int.reduceNeg,Int.reduceToNat,Int.reduceAdd,Int.reduceSub,Int.reduceMul,Int.reduceLT,Int.reduceLE,Int.reduceEq,Int.reduceNe,U.ae T,ma x,qw x,qx x,qy x,K];refine BV (λb p=>b 0= .ptr S 0/\b 2= .ptr G 0/\b 3= .ptr L 0/\p=(F.set G (.cells (List.replicate 32 (.v (.int .u8 0))))).set L (.cells (wl r))) ?_ ?_ ?_
 .intro N;have k8:a=0:=by simpa using N
  have k9:=k5 k8;subst k9;refine eB ?_;refine ag (k4 _) ?_;rintro _ _ ⟨rfl,rfl⟩;exact gO @K
 .intro _;exact qp
 .rintro b p ⟨z,c,d,rfl⟩;have O:((F.set G (.cells (List.replicate 32 (.v (.int .u8 0))))).set L (.cells (wl r))) S=some (.cells (wl r++ [.J (k.map ak) H,.v (.int .u64 a)])):=by rw[U.ao _ _ k7,U.ao _ _ k6];exact T
  generalize s:((F.set G (.cells (List.replicate 32 (.v (.int .u8 0))))).set L (.cells (wl r)))=l0 at*;refine aE (aH @z @c @d) ?_;refine dc U.a1 (by simp[aR]) λa10 a11 Q=> ?_;have l1:=Q.sub _ _ O;simp -dsimp -implicitDefEqProofs (disch:=first|omega|assumption|(simp only[bk,Nat.reduceAdd];try omega)) only[go_sem,↓reduceIte,Nat.reduceEqDiff,Nat.reduceAdd,Nat.reduceSub,Nat.reduceMul,Nat.reduceLeDiff,Nat.reduceLT,Int.reduceNeg,Int.reduceToNat,Int.reduceAdd,Int.reduceSub,Int.reduceMul,Int.reduceLT,Int.reduceLE,Int.reduceEq,Int.reduceNe,z,c,d,U.ae l1,ma x,qx x];refine mQ (w:= []) Q a9r λa13 a14 l2=> ?_;refine aE (aH @z @c @d) ?_;refine rU (a:=128) U.a1 λa15 a16 l3=> ?_;refine aE (aH @z @c @d) ?_;refine wH (l2.mono l3.sub) a9r λl4 a18 a19=> ?_;refine aE (aK @z @c @d @a5f.{0}) ?_;refine ct (λb p=> ∃(E:Nat) (V:Own),E<=eh a/\b 0= .ptr S 0/\b 2= .ptr G 0/\b 3= .ptr L 0/\b 4= .J ((k++128::List.replicate E 0).map ak) V/\bh l0 p 1 ((k++128::List.replicate E 0).map ak) V)
   (λb _=>match b 4 with| .J xs _=>200 - xs.length| _=>0) ⟨0,l4,a9p,?_⟩ ?_
  .simp -dsimp -implicitDefEqProofs (disch:=first|omega|assumption|(simp only[bk,Nat.reduceAdd];try omega)) only[go_sem,↓reduceIte,Nat.reduceEqDiff,Nat.reduceAdd,Nat.reduceSub,Nat.reduceMul,Nat.reduceLeDiff,Nat.reduceLT,Int.reduceNeg,Int.reduceToNat,Int.reduceAdd,Int.reduceSub,Int.reduceMul,Int.reduceLT,Int.reduceLE,Int.reduceEq,Int.reduceNe,z,c,d];trivial
  .rintro b p ⟨E,V,a27,z,c,d,C,t⟩;have N:eh a<=63:=by unfold eh;omega
   have X:(k++128::List.replicate E 0).length=a%64+1+E:=by simp[I];omega
   by_cases P:E<eh a
   .have l5: ¬(((a%64+1+E)%64:Nat):Int)=56:=by unfold eh at P;omega
    refine aE (c6 @z @c @d @C @X @BY @l5) ?_;refine rU (a:=0) U.a1 λl6 l7 u=> ?_;refine aE (aK @z @c @d @C) ?_;refine wH (t.mono u.sub) a9p λY v i=> ?_;have a29:k++128::List.replicate E 0++ [0]=k++128::List.replicate (E+1) 0:=by simp[a8Z]
    refine aE (aK @z @c @d @C) ?_;grind
   .obtain rfl:E=eh a:=a9p;have l8:(((a%64+1+eh a)%64:Nat):Int)=56:=by unfold eh;omega
    have l9:=t.sub _ _ O;simp -dsimp -implicitDefEqProofs (disch:=first|omega|assumption|(simp only[bk,Nat.reduceAdd];try omega)) only[go_sem,↓reduceIte,Nat.reduceEqDiff,Nat.reduceAdd,Nat.reduceSub,Nat.reduceMul,Nat.reduceLeDiff,Nat.reduceLT,Int.reduceNeg,Int.reduceToNat,Int.reduceAdd,Int.reduceSub,Int.reduceMul,Int.reduceLT,Int.reduceLE,Int.reduceEq,Int.reduceNe,z,c,d,C,X,BY,l8,ne_eq,not_true_eq_false,U.ae l9,ma x,qw x];have W:(8)*(a)=((8*a:Nat):Int):=a9q;rw[W];refine ag (Cz (8*a) _) ?_;rintro _ l7 ⟨l6,u,rfl⟩;refine aE (aK @z @c @d @C) ?_;refine mQ (t.mono u.sub) (by simp[cA];omega) λY v i=> ?_;refine aE (aK @z @c @d @C) ?_;have n0:=i.sub _ _ (by rw[<-s];exact U.ai _ _ _);have Z:=i.sub _ _ (by rw[<-s,U.ao _ _ (a4U M)];exact U.ai _ _ _);have j9:=U.aq (by rw[<-s];exact U.af (U.af U.a1 q) f) i.sub;rw[<-U.pb n0];have n1:k++128::List.replicate (eh a) 0++cA (8*a)=ja a k:=rfl;have a30:(ja a k).length=64*((ja a k).length/64):=by
     have:(ja a k).length=a%64+1+eh a+8:=by simp[ja,I,cA];omega
     rw[this];unfold eh;omega
    rw[n1];generalize ja a k=y at*;refine ct (λb p=> ∃(o:Nat) (V:Own),64*o<=y.length/\b 2= .ptr G 0/\b 3= .ptr L 0/\b 4= .J ((y.drop (64*o)).map ak) V/\p=v.set L (.cells (wl (blocks o r y))))
     (λb _=>match b 4 with| .J xs _=>xs.length| _=>0) ⟨0,Y,a9p,?_⟩ ?_
    .refine aE (c2 @c @d) ?_;rfl
    .rintro b p ⟨o,V,a34,c,d,C,rfl⟩;have w:=pa o r y x;have j:(wl (blocks o r y)).length=8:=by rw[eJ,w]
     by_cases P:(0)<((y.drop (64*o)).length:Int)
     .have n2:=P;rw[a5d]at n2;have a36:64<=(y.drop (64*o)).length:=by rw[a5d];omega
      refine aE (bs @c @d @C @P @j @a4N.{0}) ?_;have n3:((y.drop (64*o)).take 64).length=64:=a9r;refine ag (Cy _ _ _ w n3 _) ?_;rintro _ _ ⟨rfl,rfl⟩;have n4:=x6 (blocks o r y) ((y.drop (64*o)).take 64) w;have n5:(wl (comp (blocks o r y) ((y.drop (64*o)).take 64))).length=8:=by rw[eJ,n4]
      refine aE (bm @c @d @C @j @n5) ?_;refine⟨⟨o+1,.any,a9p,?_,?_⟩,by simp only[a5d];omega⟩;grind[List.drop_drop]
      .rw[tX]
     .rw[a5d]at P;have n9:o=y.length/64:=a9p;refine aE (bm @c @d @C @a5d.{0} @P) ?_;rw[<-n9];generalize a38:blocks o r y=D at*;refine aN λA B=> ?_;obtain⟨a42,B⟩:=U.gC B;have k0:A≠G:=by grind
      refine aE (bm @c @d @C @j @a4N.{0}) ?_;refine ct (λb p=> ∃h:Nat,h<=8/\b 2= .ptr G 0/\b 5= .ptr A 0/\b 50= .agg (wl D)/\b 51= .v (.int .i64 h)/\p=(v.set L (.cells (wl D))).set A (.cells (hM (ei (D.take h)))))
       (λb _=>match b 51 with| .v (.int _ a)=>(8 - a).toNat| _=>0) ⟨0,a9p,?_⟩ ?_
      .refine aE (aH @c @d @C) ?_;rfl
      .rintro b p ⟨h,a43,c,k1,k2,k3,rfl⟩;have e:(ei (D.take h)).length=4*h:=by rw[u0];simp;omega
       by_cases P:(h:Int)<8
       .have a00:(hM (ei (D.take h))).length=32:=tZ a9p;have a01:(4*(h:Int)).toNat=4*h:=a9p;have a02:(4*(h:Int)+1).toNat=4*h+1:=a9p;have a03:(4*(h:Int)+2).toNat=4*h+2:=a9p;have a04:(4*(h:Int)+3).toNat=4*h+3:=a9p;have a47: ∀(g) (l),g.length<32->putAt (hM g) g.length [.v (.int .u8 l.toNat)]=hM (g++ [l]):=λg l a05=>xb l rfl a05;simp -dsimp -implicitDefEqProofs (disch:=first|omega|assumption|(simp only[bk,Nat.reduceAdd];try omega)) only[go_sem,↓reduceIte,Nat.reduceEqDiff,Nat.reduceAdd,Nat.reduceSub,Nat.reduceMul,Nat.reduceLeDiff,Nat.reduceLT,Int.reduceNeg,Int.reduceToNat,Int.reduceAdd,Int.reduceSub,Int.reduceMul,Int.reduceLT,Int.reduceLE,Int.reduceEq,Int.reduceNe,c,k1,k2,k3,P,j,ho,a01,a02,a03,a04,xb,tZ];refine⟨⟨h+1,a9p,a9q,?_⟩,a9p⟩;grind[ei,xa,List.getD,List.take_succ_eq_append_getElem]
       .obtain rfl:h=8:=a9p;have a00:(hM (ei (D.take 8))).length=32:=tZ a9p;have W:D.take 8=D:=a4N a9p;have a06:hM (ei D)=(ei D).map ak:=by rw[W]at e;simp[hM,e]
        have a07:((ei D).map ak).length=32:=by rw[W]at e;simp[e]
        have a48:(ei D).length=32:=by rw[W]at e;exact e
        rw[W,a06];refine aE (la @c @k1 @k2 @k3 @P @a07 @a4N.{0} (U.aJ Z) (U.ae Z) @k0 (a4U k0) (a4U M) @rT) ?_;refine⟨F,?_,rfl,rfl⟩;exact U.af (U.af (U.af j9 f) (U.bF j9 B)) q
def Xu (b:U):AC Tryz.prog 186 [] b λc d=> ∃a,b a=none/\c= .ptr a 0/\d=b.set a (.cells (wl gi++ [.J [] .nil,.v (.int .u64 0)])):=by refine bd hm OO a9q ?_;refine eB ?_;refine ag (x5 _) ?_;rintro _ _ ⟨rfl,rfl⟩;have h:(wl gi).length=8:=rfl;have k:putAt (List.replicate 8 (R.v (Value.int IntKind.u32 0))++ [R.J [] Own.nil]++ [R.v (Value.int IntKind.u64 0)]) 0 (wl gi)=wl gi++ [.J [] .nil,.v (.int .u64 0)]:=rfl;simp -dsimp -implicitDefEqProofs (disch:=first|omega|assumption|(simp only[bk,Nat.reduceAdd];try omega)) only[go_sem,↓reduceIte,Nat.reduceEqDiff,Nat.reduceAdd,Nat.reduceSub,Nat.reduceMul,Nat.reduceLeDiff,Nat.reduceLT,Int.reduceNeg,Int.reduceToNat,Int.reduceAdd,Int.reduceSub,Int.reduceMul,Int.reduceLT,Int.reduceLE,Int.reduceEq,Int.reduceNe,h,k];refine aN λa o=> ?_;refine eB ?_;exact⟨_,U.a1,a,o,rfl,rfl⟩
def fc (a:List UInt8):List UInt8:=
 ei (blocks ((ja a.length (a.drop (64*(a.length/64)))).length/64) (blocks (a.length/64) gi a) (ja a.length (a.drop (64*(a.length/64)))))
def o5 (a:List UInt8):(fc a).length=32:=by rw[fc,u0,pa _ _ _ (pa _ _ _ rfl)]
def CE (a:List UInt8) (c:Own) (d:a.length<=70368744177664) (b:U):AC Tryz.prog 121 [.J (a.map ak) c] b λk o=>o=b/\k=cw (fc a):=by
 refine bd hm MN a9q ?_;refine eB ?_;refine aN λG p=> ?_;refine eB ?_;refine ag (Xu _) ?_;rintro _ _ ⟨h,r,rfl,rfl⟩;obtain⟨x,y⟩:=U.gC r;refine eB ?_;refine ag (Xs a c d _ h (U.ai _ _ _)) ?_;rintro _ _ ⟨z,rfl⟩;refine eB ?_;have C:(a.drop (64*(a.length/64))).length=a.length%64:=a9r;refine ag (Xt gi rfl x5 (blocks (a.length/64) gi a) (pa _ _ _ rfl) a.length (a.drop (64*(a.length/64))) z d C (λD=> ?_) _ h (U.ai _ _ _)) ?_
 .rw[D];rfl
 rintro _ _ ⟨rfl,rfl⟩;have E:((fc a).map ak).length=32:=by rw[a4Y,o5]
 have L:=o5 a;have F:cw (ei (blocks ((ja a.length (a.drop (64*(a.length/64)))).length/64) (blocks (a.length/64) gi a) (ja a.length (a.drop (64*(a.length/64))))))= .agg ((fc a).map ak):=rfl;rw[F];generalize fc a=P at*;refine aE (c2 @E (a4U x)) ?_;exact⟨b,U.af (U.af U.a1 p) y,rfl,by rw[a4N a9p];rfl⟩
def a4F (a:List (List UInt8)):Prop:= ∀b∈a,b.length=32
def aZ:(cw w).cells=w.map ak:=rfl
def ba (a:w.length=32):(.agg ((w.take 32).map ak):R)=cw w:=by rw[a4N (by simp[a])];rfl
def Xv (a:List (List UInt8)) (b:Own) (c:List (List UInt8×Own)) (d:Own) (h:Bool):br:= .cells [.J (a.map cw) b,.J (p9 c) d,.v (.bool h)]
def PS (c:U) (d:Nat) (h k:List (List UInt8)) (o:Bool) (p:U):Prop:=
 ∃r b a,a.map (·.1)=k/\bh (c.set d (Xv h r a b o)) p 1 (p9 a) b
def u1:List UInt8:=List.replicate 32 0
def eY:br:= .cells (List.replicate 32 (.v (.int .u8 0)))
def Xw (a:List UInt8):br:= .cells (a.map ak)
theorem xc {a:List UInt8} (b:cw w=cw a):w=a:=by
 have c:w.map ak=a.map ak:=by simpa[cw] using b
 have d:=congrArg bytesOf c;rw[rp,rp]at d;simp_all
theorem Xx {a:List UInt8}:peq (.agg (w.map ak)) (.agg (a.map ak))=decide (w=a):=by
 by_cases b:w=a
 .subst b;simp[Hc]
 .have: ¬peq (.agg (w.map ak)) (.agg (a.map ak))=true:=λc=>b (xc ((pW _ _).1 c));simp_all
theorem CF (a:w.length=32):dm [(32,.int .u8)] (w.map ak):=by
 refine⟨by simp[a],?_,?_⟩
 .intro c b;obtain⟨d,_,rfl⟩:=a5h.1 (a4Z b);rfl
 .simp only[dm];simp_all
variable{I:Bool}
def Xy {a:List UInt8}{b:R->Prop} (c:w.length=32) (d:a.length=32):tG I [(32,.int .u8)] (cw w) (cw a) b=b (.v (.bool (xor I (decide (w=a))))):=by have h:=CF c;have k:=CF d;show(dm _ _/\dm _ _/\b (.v (.bool (xor I (peq (.agg (w.map ak)) (.agg (a.map ak)))))))= _;rw[Xx];simp[h,k]
end Go.Proofs.YtlgnfcaolejgeaaGreat
set_option maxHeartbeats 1000000
namespace Go.Proofs.YtlgnfcaolejgeaaGreat
open Go Go.bz
structure BF where
 x:List UInt8
 y:List UInt8
 cJ:List (List UInt8)
 sd:List (List UInt8)
 ix:Bool
end Go.Proofs.YtlgnfcaolejgeaaGreat
set_option maxHeartbeats 1000000
namespace Go.Proofs.YtlgnfcaolejgeaaGreat
open Go Go.bz
def u2 (a:List UInt8) (b:Own):br:= .cells [.J (a.map ak) b,.v (.int .i64 0)]
def cx (c:U) (d:Nat) (a:List UInt8) (h:U):Prop:= ∃b,bh (c.set d (u2 a b)) h 1 (a.map ak) b
def u3 (h k:U) (d:Nat) (a b:List UInt8) (y:Own) (c:cx h d a k) (D:a.length+b.length<=70368744177664):
  AC Tryz.prog 168 [.ptr d 0,.v (.bool true),.J (b.map ak) y] k λ_ z=>cx h d (a++b) z:=by
 obtain⟨E,c⟩:=c;have C:=c.sub _ _ (U.ai _ _ _);refine bd hm Of a9q ?_;refine aE (aK @a5G (U.ae C) @aZ @ba) ?_;refine mQ c a9p λo F p=> ?_;have r:=p.sub _ _ (U.ai _ _ _);refine aE (aK (U.ae r) (U.aJ r) @aZ @ba) ?_;have x:=p.set (ob:=u2 (a++b) o) (U.ai _ _ _);rw[U.set_set]at x;exact⟨_,U.a1,o,x⟩
def mY (c k:U) (a:Nat) (b:List UInt8) (d:UInt8) (h:cx c a b k) (o:b.length+1<=70368744177664):
  AC Tryz.prog 103 [.ptr a 0,.v (.int .u8 d.toNat)] k λ_ p=>cx c a (b++ [d]) p:=by
 refine bd hm Mg a9q ?_;refine aE (c2 @aZ @ba) ?_;refine rU U.a1 λr x y=> ?_;refine aE (c2 @aZ @ba) ?_;obtain⟨z,h⟩:=h;refine ag (u3 c x a b [d] r ⟨z,h.mono y.sub⟩ o) ?_;intro E C D;refine aE (c2 @aZ @ba) ?_;exact⟨C,U.a1,D⟩
def ck (a:Int):Nat:=(BitVec.ofInt 64 a^^^BitVec.ofInt 64 9223372036854775808).toNat
def hN (a:Int):List UInt8:=cA (ck a)
theorem CG (a:Int):bn .xor (.int .u64 (IntKind.u64.wrap a)) (.int .u64 9223372036854775808)=some (.int .u64 (ck a)):=by
 have b:BitVec.ofInt 64 (IntKind.u64.wrap a)=BitVec.ofInt 64 a:=by rw[kr];apply BitVec.eq_of_toInt_eq;grind
 have c:bn .xor (.int .u64 (IntKind.u64.wrap a)) (.int .u64 9223372036854775808)=some (.int .u64 (IntKind.u64.wrap (BitVec.ofInt 64 (IntKind.u64.wrap a)^^^BitVec.ofInt 64 9223372036854775808).toNat)):=rfl;rw[c,b];have d:=(BitVec.ofInt 64 a^^^BitVec.ofInt 64 9223372036854775808).isLt;rw[wrap_u64 a9p a9p];rfl
theorem Xz (o C:U) (b:Nat) (p:List UInt8) (h:Int) (E:cx o b p C) (G:p.length+8<=70368744177664):
  AC Tryz.prog 254 [.ptr b 0,.v (.int .i64 h)] C λ_ c=>cx o b (p++hN h) c:=by
 refine bd hm QI a9q ?_;refine aE (aH @CG @aZ @ba) ?_;generalize F:ck h=k;refine ct (λd c=> ∃a:Nat,a<=8/\cx o b (p++(cA k).take a) c/\d 0= .ptr b 0/\d 4= .v (.int .u64 k)/\d 5= .v (.int .i64 (56 - 8*(a))))
  (λd _=>match d 5 with| .v (.int _ h)=>(h+8).toNat| _=>0) ⟨0,a9p,by simpa using E,?_⟩ ?_
 .exact gO (c2 @aZ @ba)
 .rintro d c ⟨a,L,D,r,x,y⟩;by_cases z:(0)<=56 - 8*(a:Int)
  .refine aE (c6 @r @x @y @z @ir @aZ @ba) ?_;refine ag (mY o c b _ _ D ?_) ?_
   .simp;omega
   intro P S T;refine aE (bs @r @x @y @z @aZ @ba) ?_;refine⟨⟨a+1,a9p,?_,a9r⟩,a9p⟩;have V:(cA k).take (a+1)=(cA k).take a++ [UInt8.ofNat (k>>>(56 - 8*(a:Int)).toNat)]:=by rcases(by omega:a=0\/a=1\/a=2\/a=3\/a=4\/a=5\/a=6\/a=7)with rfl|rfl|rfl|rfl|rfl|rfl|rfl|rfl<;>rfl
   grind
  .obtain rfl:a=8:=a9p;refine aE (bs @r @x @y @z @aZ @ba) ?_;refine⟨c,U.a1,?_⟩;rw[hN,F];exact D
end Go.Proofs.YtlgnfcaolejgeaaGreat
namespace Go.bz
open Go
def CH (a:Bool) (c:R) (b:R->Prop):Prop:=
 match c with
 | .J xs d=>match d with
  | .nil=>b (.v (.bool (!a)))
  | .buf _ _=>b (.v (.bool a))
  | _=>(xs= []->b (.v (.bool (!a))))/\b (.v (.bool a))
 | .an _ _ _ _=>b (.v (.bool a))
 | _=>False
variable{s a7:R -> U -> Prop}{I:Bool}{K:Ctx}{j:Fr}{f t e4:U}{Z e9:Operand}
def o6:G K (.mA I Z) j f s=CH I (al j Z) (bZ (λa=>s a f) ()):=rfl
variable{g B e0:List R}{M e6 h4:Own}
def o7 {a:R->Prop}{b:cz a} (c:M= .nil->g= []) (d:g= []->a (.v (.bool (!I)))) (h:a (.v (.bool I))):CH I (.J g M) (bZ a b):=by
 cases M with
 |nil=>exact d (c rfl)
 |buf k o=>exact h
 |any=>trivial
 |zero=>trivial
end Go.bz
namespace Go.Proofs.YtlgnfcaolejgeaaGreat
open Go Go.bz
def xd (a:List UInt8) (d:Own) (b:U) (k:d= .nil->a= []) (C:a.length<=70368744177664):
  AC Tryz.prog 172 [.J (a.map ak) d] b λo p=> ∃h,bh b p 1 (a.map ak) h/\o= .J (a.map ak) h:=by
 refine bd hm Oo a9q ?_;simp -dsimp -implicitDefEqProofs (disch:=first|omega|assumption|(simp only[bk,Nat.reduceAdd];try omega)) only[go_sem,simprocAttr,aZ,ba,↓o6];refine o7 (λc=>by rw[k c];rfl) (λc=> ?_) ?_
 .have r:a= []:=by simpa using c
  subst r;refine aE (aH @a5H @aZ @ba) ?_;exact⟨b,U.a1,.nil,bh.nil U.a1,rfl⟩
 .refine aE (c2 @aZ @ba) ?_;refine dc U.a1 (by simp[aR]) λD E x=> ?_;refine aE (c2 @aZ @ba) ?_;refine mQ (w:= []) x a9r λy z F=> ?_;refine aE (aH @a5f.{0} @aZ @ba) ?_;exact⟨z,U.a1,y,by trivial,rfl⟩
def CI (k b:U) (d:Nat) (a:List UInt8) (c:cx k d a b) (o:a.length<=70368744177664):
  AC Tryz.prog 106 [.ptr d 0] b λp r=> ∃h,bh b r 1 (a.map ak) h/\p= .J (a.map ak) h:=by
 obtain⟨x,c⟩:=c;have y:=c.sub _ _ (U.ai _ _ _);refine bd hm Mm a9q ?_;refine aE (aH (U.ae y) @aZ @ba) ?_;refine ag (xd a x b (λz=> ?_) o) ?_
 .subst z;have:=c.2;simpa using this
 rintro _ C ⟨D,E,rfl⟩;refine aE (c2 @aZ @ba) ?_;exact⟨C,U.a1,D,E,rfl⟩
end Go.Proofs.YtlgnfcaolejgeaaGreat
namespace Go.bz
open Go
end Go.bz
namespace Go.Proofs.YtlgnfcaolejgeaaGreat
open Go Go.bz
def xe (a:Int) (b c:List UInt8):List R:= .v (.int .i64 a)::(b.map ak++c.map ak)
def XA (a:Int) (b c:List UInt8):R:= .agg (xe a b c)
def XB (a:Int) (b c:List UInt8):List UInt8:=preB 68 [hN a,b,c]
end Go.Proofs.YtlgnfcaolejgeaaGreat
namespace Go.bz
open Go
variable{f t e4:U}{g B e0:List R}{e i v O b8 j0:Nat}
def XC (a:g.length=e):rW 1 e (f.set i (.ro g)) (.ptr i 0)=some (.J g .any):=V5 (U.ai _ _ _) a
end Go.bz
namespace Go.Proofs.YtlgnfcaolejgeaaGreat
open Go Go.bz
structure iy where
 n:Int
 h:List UInt8
 d:List UInt8
 deriving DecidableEq
def iy.ok (a:iy):Prop:=a.h.length=32/\a.d.length=32
def iy.C (a:iy):List R:=xe a.n a.h a.d
def iy.V (a:iy):R:=XA a.n a.h a.d
def iy.sum (a:iy):List UInt8:=fc (XB a.n a.h a.d)
def cx.mono {b c d:U}{h:Nat}{k:List UInt8} (a:cx b h k c) (o:c.sub d):cx b h k d:=by obtain⟨p,a⟩:=a;exact⟨p,a.mono o⟩
def cx.sub {a c:U}{d:Nat}{h:List UInt8} (b:cx a d h c) (k:a d=none):a.sub c:=by obtain⟨o,b⟩:=b;exact U.aq (U.af U.a1 k) b.sub
theorem cx.base {b c d:U}{h:Nat}{k:List UInt8} (a:cx b h k d) (o:c.sub b):cx c h k d:=by obtain⟨p,a⟩:=a;exact⟨p,a.base (U.kX o)⟩
variable{f t e4:U}{w:List UInt8}{e i v O b8 j0:Nat}
def cx.cell (a:cx t e w f): ∃b,f e=some (u2 w b):=by obtain⟨b,a⟩:=a;exact⟨b,a.sub _ _ (U.ai _ _ _)⟩
def cx.new {d h:U}{c a:Nat}{p:List UInt8}{ob:br} (b:cx d c p h) (k:h a=none):a≠c/\d a=none/\cx (d.set a ob) c p (h.set a ob):=by
 obtain⟨r,x⟩:=b.cell;have o:a≠c:=by rintro rfl;rw[k]at x;cases x
 obtain⟨r,b⟩:=b;have y:=U.bF b.sub k;rw[U.ao _ _ o]at y;refine⟨o,y,r,?_⟩;rw[U.dX _ o];exact b.new k
variable{Y:br}
def cx.get (a:cx f i w t) (b:e≠i) (c:f e=some Y):t e=some Y:=by obtain⟨d,a⟩:=a;exact a.sub _ _ (by rw[U.ao _ _ b];exact c)
def CJ (d h:U) (a:Nat) (b c:List UInt8) (k:c.length=32) (o:cx d a b h) (y:b.length+32<=70368744177664):
  AC Tryz.prog 170 [.ptr a 0,cw c] h λ_ p=>cx d a (b++c) p:=by
 refine bd hm Oj a9q ?_;refine aE (aH @k @aZ @ba) ?_;refine aN λz r=> ?_;refine aE (aK @k @XC @aZ @ba) ?_;refine ag (u3 d _ a b c .any (o.mono (U.af U.a1 r)) a9p) ?_;intro C D x;refine aE (c2 @aZ @ba) ?_;exact⟨_,U.a1,x⟩
def CK (a:Int):(hN a).length=8:=rfl
end Go.Proofs.YtlgnfcaolejgeaaGreat
