import Derived.Test.YtlgnfcaolejgeaaGreatMB
set_option linter.all false
namespace Go.bz
open Go
abbrev cB.{a}{b:Sort a} (_:b):Type:=Unit
variable{b0:Type}
def bZ (a:b0->Prop) (_:cB a) (b:b0):Prop:=a b
def bO {a:Type} (b:b0->a->Prop) (_:cB b) (c:b0) (d:a):Prop:=b c d
def cw (a:Prop) (_:cB a):Prop:=a
def jE {a:b0->Prop}{c:cB a}{b:b0}:bZ a c b=a b:=rfl
def SA {b:Type}{a:b0->b->Prop}{h:cB a}{c:b0}{d:b}:bO a h c d=a c d:=rfl
variable{N b4 h2 h9 j2:Prop}
def Br {a:cB N}:cw N a=N:=rfl
def iV (b:U) (c:Nat->Prop):Prop:= ∀a,b a=none->c a
def gS (a b:Prop):Prop:=a/\b
def rP {a:cB N} (b:b4):gS b4 (cw N a)=N:=by simp[gS,cw,b]
def rQ {a:cB N}:gS True (cw N a)=N:=by simp[gS,cw]
variable{h7:dH}{e3:cb}{n b3:R}{s a7:R -> U -> Prop}{I:Bool}{K:Ctx}{e8:gh -> Fr -> U -> Prop}{j:Fr}{j6:Fr -> U -> Prop}{b5:FuncId}{f t e4:U}{b1:Int}{e2:IntKind}{g A e1:List R}{e i v O b9 j1:Nat}{j5:Nat -> Prop}{Y:br}{Z e9:Operand}{M e6 h5:Own}{m:Program}{b2:TypeId}{e5:Value}
section
def SB:bS K .skip e8 j f=e8 .norm j f:=rfl
def SC:bS K .ret e8 j f=e8 .ret j f:=rfl
def SD:bS K (.exit e) e8 j f=e8 (.exit e) j f:=rfl
def SE {a:dH}:bS K (.seq h7 a) e8 j f=bS K h7 (eO (bS K a e8) e8) j f:=rfl
def SF:bS K (.block e h7) e8 j f=bS K h7 (kY e e8) j f:=rfl
def SG {a:List c7}:bS K (.plain a) e8 j f=iR K a (e8 .norm) j f:=rfl
def SH {a:List c7}{b:List dj}:bS K (.draw a b) e8 j f=can K (nth a) (e8 .norm) b j f:=rfl
def kr (b:R) (c d:Prop):Prop:=
 match b with
 | .v (.bool a)=>(a=true->c)/\(a=false->d)
 | _=>False
def wC {a:dH}:bS K (.cond Z h7 a) e8 j f=kr (ak j Z) (cw (bS K h7 e8 j f) ()) (cw (bS K a e8 j f) ()):=rfl
def Bs {a:cB N}:kr (.v (.bool true)) (cw N a) b4=N:=by simp[kr,cw]
def Bt {a:cB N}:kr (.v (.bool false)) b4 (cw N a)=N:=by simp[kr,cw]
def SI:bS K (.loop h7) e8 j f=cw (bS K (.loop h7) e8 j f) ():=rfl
def SJ:eO j6 e8 .norm j f=j6 j f:=rfl
def SK:eO j6 e8 .ret j f=e8 .ret j f:=rfl
def SL:eO j6 e8 (.exit e) j f=e8 (.exit e) j f:=rfl
def SM:kY e e8 .norm j f=e8 .norm j f:=rfl
def SN:kY e e8 .ret j f=e8 .ret j f:=rfl
def SO:kY i e8 (.exit e) j f=(if e=i then e8 .norm j f else e8 (.exit e) j f):=by simp only[kY];split<;>rfl
def SP:kY e e8 (.exit e) j f=e8 .norm j f:=by simp[kY]
def SQ:iR K [] j6 j f=j6 j f:=rfl
def SR {a:Option Nat}{b:List c7}:iR K (⟨a,e3,none⟩::b) j6 j f=G K e3 j f (λc d=>iR K b j6 (dk j a c) d):=rfl
def hI (b:R) (c:Bool) (d a:Prop):Prop:=
 match b with
 | .v (.bool h)=>if h=c then d else a
 | .aL []=>a
 | _=>False
def SS {a:Option Nat}{b:List c7}:
  iR K (⟨a,e3,some (e,I)⟩::b) j6 j f=hI (j e) I (cw (G K e3 j f (λc d=>iR K b j6 (dk j a c) d)) ()) (cw (iR K b j6 (dk j a (.aL [])) f) ()):=rfl
def SU {a:cB N}:hI (.v (.bool true)) true (cw N a) b4=N:=by simp[hI,cw]
def SV {a:cB N}:hI (.v (.bool false)) false (cw N a) b4=N:=by simp[hI,cw]
def SX {a:cB N}:hI (.v (.bool true)) false b4 (cw N a)=N:=by simp[hI,cw]
def SY {a:cB N}:hI (.v (.bool false)) true b4 (cw N a)=N:=by simp[hI,cw]
def SZ {a:cB N}:hI (.aL []) I b4 (cw N a)=N:=rfl
def T0 {a:Bool}:hI (.v (.bool I)) a N b4=((I=a->N)/\(I=(!a)->b4)):=by cases I<;>cases a<;>simp[hI]
def T1 {a:Nat->c7}:can K a j6 [] j f=j6 j f:=rfl
def lT (a:c7) (b:c7->Prop):Prop:=b a
def T2 {a:Option Nat}{b:Option (Nat×Bool)}{c:c7->Prop}:lT ⟨a,e3,b⟩ c=c ⟨a,e3,b⟩:=rfl
def T3 {a:Nat->c7}{b:List dj}:can K a j6 (⟨e,[],[]⟩::b) j f=lT (a e) (bZ (λc=>T K c (λd h=>can K a j6 b d h) j f) ()):=by simp only[can,a6h,false_implies,implies_true,true_and,lT,bZ]
def T4 {a:Nat->c7}{b c:List Nat}{d:List dj}:can K a j6 (⟨e,i::b,c⟩::d) j f=gS (lT (a i) (bZ (λh=>Def K h j) ())) (cw (can K a j6 (⟨e,b,c⟩::d) j f) ()):=by simp only[can,a5g,forall_eq_or_imp,gS,lT,bZ,cw];exact propext and_assoc
def rR (c:Ctx) (a:c7) (b:Fr) (d:U):Prop:=
 match a.dst with
 |some h=>E c a b d λk _=>k=b h
 |none=>True
def nV (b:Ctx) (c:Nat->c7) (d:Fr) (h:U):List Nat->Prop->Prop
 | [],a=>a
 |k::o,a=>gS (lT (c k) (bZ (λp=>rR b p d h) ())) (cw (nV b c d h o a) ())
def T5 {a:Nat->c7}:nV K a j f [] N=N:=rfl
def T6 {a:Nat->c7}{b:List Nat}:nV K a j f (e::b) N=gS (lT (a e) (bZ (λc=>rR K c j f) ())) (cw (nV K a j f b N) ()):=rfl
theorem Bu {a:Nat->c7}{b:Prop}: ∀c,nV K a j f c b=((∀d∈c,hl K a d j f)/\b)
 | []=>by simp[nV]
 |d::h=>by simp only[nV,Bu h,gS,lT,bZ,cw,a5g,forall_eq_or_imp,hl,rR];grind
def T7 {a:Nat->c7}{b:List Nat}{c:List dj}:can K a j6 (⟨e,[],i::b⟩::c) j f=lT (a e) (bZ (λk=>T K k (λd h=>nV K a d h (i::b) (can K a j6 c d h)) j f) ()):=by simp only[can,a6h,false_implies,implies_true,true_and,lT,bZ,Bu]
def T8 {a:Option Nat}:Def K ⟨a,e3,none⟩ j=G K e3 j U.emp (λ_ _=>True):=rfl
def T9:rR K ⟨some e,e3,none⟩ j f=G K e3 j f (λa _=>a=j e):=rfl
def Ta {a:cB (λ_:Nat=>True)}:iV f (bZ (λ_=>True) a)=True:=by simp[iV,bZ]
def Tb {a:c7}{b:List c7}:nth (a::b) 0=a:=rfl
def Tc {b:c7}{a:List c7}:nth (b::a) (e+1)=nth a e:=rfl
def Td {a:Option Nat}:T K ⟨a,e3,none⟩ j6 j f=G K e3 j f (λb c=>j6 (dk j a b) c):=rfl
def Te {a:Option Nat}:T K ⟨a,e3,some (e,I)⟩ j6 j f=hI (j e) I (cw (G K e3 j f (λb c=>j6 (dk j a b) c)) ()) (cw (j6 (dk j a (.aL [])) f) ()):=rfl
def Tf:dk j (some i) n e=if e=i then n else j e:=rfl
def Tg:dk j none n e=j e:=rfl
def dC (a:Option R) (b:R->Prop):Prop:=
 match a with
 |some a=>b a
 |none=>False
def ks [Decidable N] {a:R->Prop}:dC (if N then some n else none) a=(N/\a n):=by split<;>simp[dC, *]
def Th {a:R->Prop}:dC (some n) a=a n:=rfl
def mS (a:R) (b:R->Prop):Prop:=b a
def Ti {a:R->Prop}:mS n a=a n:=rfl
def p0 (a:Option (List R)) (b:List R->Prop):Prop:=
 match a with
 |some a=>b a
 |none=>False
def Tj {a:List R->Prop}:p0 (some g) a=a g:=rfl
section
def Tk:G K (.eZ Z) j f s=mS (ak j Z) (bZ (λa=>s a f) ()):=rfl
def tE (a b c:R):Option R:=
 match a with
 | .v (.bool d)=>some (if d then b else c)
 | _=>none
def Tl:tE (.v (.bool true)) n b3=some n:=rfl
def Tm:tE (.v (.bool false)) b3 n=some n:=rfl
def Tn {a:Operand}:G K (.pick e9 Z a) j f s=dC (tE (ak j e9) (ak j Z) (ak j a)) (bZ (λb=>s b f) ()):=by simp only[G,tE];generalize ak j e9=Z;cases Z<;>first|rfl|(rename_i v;cases v<;>rfl)
def To:G K (.alloc b2 g) j f s=iV f (bZ (λa=>s (.ptr a 0) (f.set a (.cells g))) ()):=rfl
def Tp:G K (.box b2 Z) j f s=mS (ak j Z) (bZ (λa=>gS (0<a.cells.length) (cw (iV f (bZ (λb=>s (.ptr b 0) (f.set b (.cells a.cells))) ())) ())) ()):=rfl
def Tq:G K (.kg b2 Z) j f s=mS (ak j Z) (bZ (λa=>gS (0<a.cells.length) (cw (iV f (bZ (λb=>s (.ptr b 0) (f.set b (.ro a.cells))) ())) ())) ()):=rfl
def dn (b:Bool) (a:Nat) (c:U) (d:R):Option R:=
 match d with
 | .ptr h off=>match c.read h with
  |some cs=>if off+a<=cs.length then some (aX b a (cs.drop off))else none
  |none=>none
 | .bV cs=>if a<=cs.length then some (aX b a cs)else none
 | _=>none
def qh (d:Bool) (b c:Nat) (a:Option (List R)):Option R:=
 match a with
 |some a=>if c+b<=a.length then some (aX d b (a.drop c))else none
 |none=>none
def Tr:dn I e f (.ptr i v)=qh I e v (f.read i):=rfl
def Bv (a:i+e<=g.length):qh I e i (some g)=some (aX I e (g.drop i)):=by simp[qh,a]
def Ts (a:e<=g.length):dn I e f (.bV g)=some (aX I e g):=by simp[dn,a]
def Tt:G K (.load I e Z) j f s=dC (dn I e f (ak j Z)) (bZ (λa=>s a f) ()):=by
 simp only[G,dn];generalize ak j Z=b;cases b<;>first
  |rfl
  |(simp only[ks,jE];done)
  |(rename_i c h;simp only[];generalize f.read c=d;cases d<;>first|rfl|(simp only[ks,jE]))
def eg (a:U) (b:Nat):Option (List R):=
 match a b with
 |some (.cells cs)=>some cs
 | _=>none
def wD (a:U) (b:Nat) (k:R) (c:List R) (o:U->Prop):Prop:=
 match k with
 | .ptr d off=>p0 (eg a d) λh=>gS (c.length=b/\off+b<=h.length) (o (a.set d (.cells (putAt h off c))))
 | _=>False
def Tu {a:U->Prop}:wD f e (.ptr i v) g a=p0 (eg f i) (bZ (λb=>gS (g.length=e/\v+e<=b.length) (cw (p0 (some (putAt b v g)) (bZ (λc=>a (f.set i (.cells c))) ())) ())) ()):=rfl
def Tv:G K (.store e Z e9) j f s=wD f e (ak j Z) (ak j e9).cells (bZ (λa=>s (.aL []) a) ()):=by
 simp only[G,wD];generalize ak j Z=b;cases b<;>first
  |rfl
  |(
    rename_i c h;simp only[eg];cases f c with
    |none=>rfl
    |some d=>cases d with
     |cells cs=>exact propext and_assoc.symm
     | _=>rfl)
def rS (a:R):Option R:=
 match a with
 | .ptr b off=>some (.ptr b off)
 | .bV cs=>some (.bV cs)
 | .bG c cz cs=>some (.bG c cz cs)
 | _=>none
def Tw:rS (.ptr e i)=some (.ptr e i):=rfl
def Tx:rS (.bV g)=some (.bV g):=rfl
def Ty:G K (.pY Z) j f s=dC (rS (ak j Z)) (bZ (λa=>s a f) ()):=by simp only[G,rS];generalize ak j Z=b;cases b<;>first|rfl|(rename_i v;cases v<;>rfl)
def rT (a:Nat) (b:R):Option R:=
 match b with
 | .ptr c d=>some (.ptr c (d+a))
 | .bV cs=>some (.bV (cs.drop a))
 | _=>none
def Tz:rT e (.ptr i v)=some (.ptr i (v+e)):=rfl
def TA:rT e (.bV g)=some (.bV (g.drop e)):=rfl
def TB:G K (.kS e Z) j f s=dC (rT e (ak j Z)) (bZ (λa=>s a f) ()):=by simp only[G,rT];generalize ak j Z=b;cases b<;>first|rfl|(rename_i v;cases v<;>rfl)
def lU (b c:Nat) (d h:R):Option R:=
 match d,h with
 | .ptr k o,.v (.int _ a)=>if 0<=a/\a<c then some (.ptr k (o+a.toNat*b))else none
 | .bV cs,.v (.int _ a)=>if 0<=a/\a<c then some (.bV (cs.drop (a.toNat*b)))else none
 | _,_=>none
def rU (a:0<=b1) (b:b1<i):lU e i (.ptr v O) (.v (.int e2 b1))=some (.ptr v (O+b1.toNat*e)):=by simp[lU,a,b]
def TC (a:0<=b1) (b:b1<i):lU e i (.bV g) (.v (.int e2 b1))=some (.bV (g.drop (b1.toNat*e))):=by simp[lU,a,b]
def TD:G K (.pZ e i Z e9) j f s=dC (lU e i (ak j Z) (ak j e9)) (bZ (λa=>s a f) ()):=by
 simp only[G,lU];generalize ak j Z=b;generalize ak j e9=c;cases b<;>first
  |rfl
  |(cases c<;>first
    |rfl
    |(rename_i d;cases d<;>first
      |rfl
      |(simp only[ks,jE];exact propext and_assoc.symm)))
def eA (b:Nat) (a:Option R):Option R:=
 match a with
 |some a=>if a.cells.length=b then some (.bV a.cells)else none
 |none=>none
def jG (a:n.cells.length=e):eA e (some n)=some (.bV n.cells):=by simp[eA,a]
def cP (b:Nat) (h k:R):Option R:=
 match h,k with
 | .J xs _,.v (.int _ a)=>if 0<=a then eA b xs[a.toNat]? else none
 | .bx c off len _ d,.v (.int _ a)=>if d=b/\0<=a/\a<len then some (.ptr c (off+a.toNat*b))else none
 | .an c len _ d,.v (.int _ a)=>if d=b/\0<=a/\a<len then some (.ptr c (a.toNat*b))else none
 | _,_=>none
def hJ (a:0<=b1):cP e (.J g M) (.v (.int e2 b1))=eA e g[b1.toNat]? :=by simp[cP,a]
theorem jH (a:0<=b1) (b:b1<v):cP e (.an i v O e) (.v (.int e2 b1))=some (.ptr i (b1.toNat*e)):=by simp[cP,a,b]
theorem tF (a:0<=b1) (b:b1<O):cP e (.bx i v O b9 e) (.v (.int e2 b1))=some (.ptr i (v+b1.toNat*e)):=by simp[cP,a,b]
theorem TE:G K (.dG e Z e9) j f s=dC (cP e (ak j Z) (ak j e9)) (bZ (λc=>s c f) ()):=by
 simp only[G,cP];generalize ak j Z=d;generalize ak j e9=h;cases d<;>first
  |rfl
  |(cases h<;>first
    |rfl
    |(rename_i k;cases k<;>first
      |rfl
      |(
        simp only[ks,jE];apply propext;constructor
        .rintro⟨o,p,r,x⟩;exact⟨⟨o,p,r⟩,x⟩
        simp_all)
      |(
        rename_i y C D a;by_cases b:0<=a
        .simp only[b,true_and,if_true,eA];generalize y[a.toNat]? =z;cases z<;>first|rfl|(simp only[ks,jE])
        .simp[b,dC])))
def Bw (c:Bool) (a b:Nat) (d:R):Option R:=
 match d with
 | .agg cs=>if a+b<=cs.length then some (aX c b (cs.drop a))else none
 | _=>none
def TF (a:e+i<=g.length):Bw I e i (.agg g)=some (aX I i (g.drop e)):=by simp[Bw,a]
def tG (c:Bool) (a d:Nat) (h k:R):Option R:=
 match h,k with
 | .agg cs,.v (.int _ b)=>if 0<=b/\b<d/\b.toNat*a+a<=cs.length then some (aX c a (cs.drop (b.toNat*a)))else none
 | _,_=>none
def TG (a:0<=b1) (b:b1<i) (c:b1.toNat*e+e<=g.length):tG I e i (.agg g) (.v (.int e2 b1))=some (aX I e (g.drop (b1.toNat*e))):=by simp[tG,a,b,c]
theorem TH:G K (.q0 I e i Z e9) j f s=dC (tG I e i (ak j Z) (ak j e9)) (bZ (λa=>s a f) ()):=by
 simp only[G,tG];generalize ak j Z=b;generalize ak j e9=c;cases b<;>first
  |rfl
  |(cases c<;>first
    |rfl
    |(rename_i d;cases d<;>first
      |rfl
      |(simp only[ks,jE];grind)))
def p1 (c:Fr) (a:List R):List (Nat×Nat×Operand)->(List R->Prop)->Prop
 | [],b=>b a
 |(off,cp,h)::k,b=>mS (ak c h) λd=>gS (d.cells.length=cp/\off+cp<=a.length) (p0 (some (putAt a off d.cells)) λo=>p1 c o k b)
def TI {a:List R->Prop}:p1 j g [] a=a g:=rfl
def TJ {a:List (Nat×Nat×Operand)}{b:List R->Prop}:p1 j g ((e,i,Z)::a) b=mS (ak j Z) (bZ (λc=>gS (c.cells.length=i/\e+i<=g.length) (cw (p0 (some (putAt g e c.cells)) (bZ (λd=>p1 j d a b) ())) ())) ()):=rfl
theorem Bx {b:List R->Prop}: ∀(c:List (Nat×Nat×Operand)) (a:List R),kn j a c b=p1 j a c b
 | [],_=>rfl
 |(off,cp,h)::d,a=>by
  simp only[kn,p1,mS,gS,p0,Bx d];grind
def TK {a:List (Nat×Nat×Operand)}:G K (.lH g a) j f s=p1 j g a λb=>s (.agg b) f:=Bx a g
def fb (b:R):Option R:=
 match b with
 | .J xs _=>some (.v (.int .i64 xs.length))
 | .bx _ _ a _ _=>some (.v (.int .i64 a))
 | .an _ a _ _=>some (.v (.int .i64 a))
 | _=>none
def TL:fb (.an i e v O)=some (.v (.int .i64 e)):=rfl
def TM:fb (.J g M)=some (.v (.int .i64 g.length)):=rfl
def TN:fb (.bx i v e O b9)=some (.v (.int .i64 e)):=rfl
def TO:G K (.len Z) j f s=dC (fb (ak j Z)) (bZ (λa=>s a f) ()):=by simp only[G,fb];generalize ak j Z=b;cases b<;>rfl
def iW (c:BinOp) (a b:R):Option R:=
 match a,b with
 | .v a,.v b=>(bn c a b).map .v
 | _,_=>none
theorem rV {a:BinOp}{b:Value}:iW a (.v e5) (.v b)=(bn a e5 b).map .v:=rfl
def TP {a:BinOp}:G K (.bin a Z e9) j f s=dC (iW a (ak j Z) (ak j e9)) (bZ (λb=>s b f) ()):=by
 simp only[G,iW];generalize ak j Z=c;generalize ak j e9=d;cases c<;>first
  |rfl
  |(cases d<;>first
    |rfl
    |(rename_i v h;simp only[];generalize bn a v h=k;cases k<;>rfl))
def wE (b:UnOp) (a:R):Option R:=
 match a with
 | .v a=>(nP b a).map .v
 | _=>none
def TQ {a:UnOp}:wE a (.v e5)=(nP a e5).map .v:=rfl
def TR {a:UnOp}:G K (.un a Z) j f s=dC (wE a (ak j Z)) (bZ (λb=>s b f) ()):=by simp only[G,wE];generalize ak j Z=c;cases c<;>first|rfl|(rename_i v;simp only[];generalize nP a v=d;cases d<;>rfl)
def wF (a:IntKind) (b:R):Option R:=
 match b with
 | .v (.int _ c)=>some (.v (.int a (a.wrap c)))
 | _=>none
def TS {a:IntKind}:wF e2 (.v (.int a b1))=some (.v (.int e2 (e2.wrap b1))):=rfl
def TT:G K (.iN e2 Z) j f s=dC (wF e2 (ak j Z)) (bZ (λa=>s a f) ()):=by simp only[G,wF];generalize ak j Z=b;cases b<;>first|rfl|(rename_i v;cases v<;>rfl)
def nW (a:Ctx) (b:FuncId) (c:List R) (d:U) (h:R->U->Prop):Prop:=hE a.p b c d h (up a.k)
def TU {a:List Operand}:G K (.fU b5 a) j f s=nW K b5 (a.map (ak j)) f (bO s ()):=rfl
def wG (a:Nat) (b:R):Option R:=
 match b with
 | .aL c=>c[a]?
 | _=>none
def TV:wG e (.aL g)=g[e]? :=rfl
def TW:G K (.ext Z e) j f s=dC (wG e (ak j Z)) (bZ (λa=>s a f) ()):=by simp only[G,wG];generalize ak j Z=b;cases b<;>first|rfl|(rename_i c;cases c[e]? <;>rfl)
def TX (c:Bool) (a b:R):Option R:=
 match a,b with
 | .v (.bool a),.v (.bool b)=>some (.v (.bool (xor c (a==b))))
 | _,_=>none
def TY {a b:Bool}:TX I (.v (.bool a)) (.v (.bool b))=some (.v (.bool (xor I (a==b)))):=rfl
def rW (a:Bool) (b c:R):Option R:=
 match b,c with
 | .ptr _ _,.v (.pointer none)=>some (.v (.bool a))
 | .bV _,.v (.pointer none)=>some (.v (.bool a))
 | .v (.pointer none),.v (.pointer none)=>some (.v (.bool (!a)))
 | _,_=>none
def TZ:rW I (.ptr e i) (.v (.pointer none))=some (.v (.bool I)):=rfl
def U0:rW I (.bV g) (.v (.pointer none))=some (.v (.bool I)):=rfl
def U1:rW I (.v (.pointer none)) (.v (.pointer none))=some (.v (.bool (!I))):=rfl
def U2:G K (.q2 I Z e9) j f s=dC (rW I (ak j Z) (ak j e9)) (bZ (λd=>s d f) ()):=by
 simp only[G,rW];generalize ak j Z=h;generalize ak j e9=c;cases h<;>first
  |rfl
  |(rename_i v;cases v<;>first
    |rfl
    |(cases c<;>first|rfl|(rename_i b;cases b<;>first|rfl|(rename_i a;cases a<;>rfl)))
    |(rename_i a;cases a<;>first|rfl|(cases c<;>first|rfl|(rename_i b;cases b<;>first|rfl|(rename_i a;cases a<;>rfl)))))
  |(cases c<;>first|rfl|(rename_i b;cases b<;>first|rfl|(rename_i a;cases a<;>rfl)))
def intOf (a:R):Option Int:=
 match a with
 | .v (.int _ b)=>some b
 | _=>none
end
def p2 (a:List (Nat×Option (Bool×Nat))) (b:R->U->Prop):gh->Fr->U->Prop:=qe ⟨0,0,.skip,a⟩ b
def bc (c:m.follows .mixedOrders=true) {a:List (Nat×Option (Bool×Nat))} (d:dr m O i=some ⟨e,v,h7,a⟩) (h:g.length<=e)
  (k:bS (Ctx.of m) h7 (p2 a s) (lR g) f):AC m i g f s:=by
 refine IY c d h ?_;have b:qe ⟨e,v,h7,a⟩ s=p2 a s:=by funext b j f;rfl
 rw[b];exact k
def U3:lR g e=g.getD e (.aL []):=rfl
theorem U4 {c:aq}:qe c s .ret j f=dC (iT j f c.results) λd=> ∃b,b.sub f/\s d b:=by
 apply propext;simp only[qe];constructor
 .rintro⟨d,b,a,h,k⟩;rw[a];exact⟨b,h,k⟩
 .intro a;cases o:iT j f c.results with
  |none=>rw[o]at a;exact a.elim
  |some d=>rw[o]at a;obtain⟨b,h,k⟩:=a;grind
def U5 {a:List (Nat×Option (Bool×Nat))}:p2 a s .ret j f=dC (iT j f a) (bZ (λc=> ∃b,b.sub f/\s c b) ()):=U4
def U6 {a:List (Nat×Option (Bool×Nat))}:p2 a s .norm j f=p2 a s .ret j f:=rfl
def U7:iT j f []=some (.aL []):=rfl
def U8 {a:Nat×Option (Bool×Nat)}:iT j f [a]=gi j f a:=by simp only[iT,fr];cases gi j f a<;>rfl
def U9:gi j f (e,none)=some (j e):=rfl
def By (a:Bool) (b:Nat) (c:U) (d:R):Option R:=
 match d with
 | .ptr h off=>qh a b off (c.read h)
 | _=>none
def Ua:By I e f (.ptr i v)=qh I e v (f.read i):=rfl
def Ub:gi j f (e,some (I,i))=By I i f (j e):=by rfl
def U.tH:(f.set i Y) e=if e=i then some Y else f e:=rfl
def U.Bz:(f.set e (.cells g)).read e=some g:=by simp[U.read,U.set]
def U.Uc:(f.set e (.ro g)).read e=some g:=by simp[U.read,U.set]
def U.Ud (a:e≠i):(f.set i Y).read e=f.read e:=by simp[U.read,U.set,a]
def U.Ue:eg (f.set e (.cells g)) e=some g:=by simp[eg,U.set]
def U.Uf (a:e≠i):eg (f.set i Y) e=eg f e:=by simp[eg,U.set,a]
def U.af (a:f e=some (.cells g)):f.read e=some g:=by simp[U.read,a]
def U.Ug (a:f e=some (.ro g)):f.read e=some g:=by simp[U.read,a]
def U.aI (a:f e=some (.cells g)):eg f e=some g:=by simp[eg,a]
theorem U.gI (a:(f.set i Y) e=none):e≠i/\f e=none:=by grind[U.set]
def U.BA {b a:br} (c:i≠e):((f.set e b).set i a).set e Y=((f.set e Y).set i a):=by rw[U.dZ _ c,U.set_set]
def U.BB {c a b:br} (d:i≠e) (h:v≠e):(((f.set e c).set i a).set v b).set e Y=(((f.set e Y).set i a).set v b):=by rw[U.dZ _ h,BA d]
def U.BC {d a b c:br} (h:i≠e) (k:v≠e) (o:O≠e):((((f.set e d).set i a).set v b).set O c).set e Y=((((f.set e Y).set i a).set v b).set O c):=by rw[U.dZ _ o,BB h k]
def U.BD {h a b c d:br} (k:i≠e) (o:v≠e) (p:O≠e) (r:b9≠e):(((((f.set e h).set i a).set v b).set O c).set b9 d).set e Y=(((((f.set e Y).set i a).set v b).set O c).set b9 d):=by rw[U.dZ _ r,BC k o p]
def U.BE {k a b c d h:br} (o:i≠e) (p:v≠e) (r:O≠e) (x:b9≠e) (y:j1≠e):((((((f.set e k).set i a).set v b).set O c).set b9 d).set j1 h).set e Y=((((((f.set e Y).set i a).set v b).set O c).set b9 d).set j1 h):=by rw[U.dZ _ y,BD o p r x]
def U.BG {a:Nat}{p b c d h k o:br} (r:i≠e) (x:v≠e) (y:O≠e) (z:b9≠e) (C:j1≠e) (D:a≠e):(((((((f.set e p).set i b).set v c).set O d).set b9 h).set j1 k).set a o).set e Y=(((((((f.set e Y).set i b).set v c).set O d).set b9 h).set j1 k).set a o):=by rw[U.dZ _ D,BE r x y z C]
def U.BH {a b:Nat}{x c d h k o p r:br} (y:i≠e) (z:v≠e) (C:O≠e) (D:b9≠e) (E:j1≠e) (F:a≠e) (G:b≠e):((((((((f.set e x).set i c).set v d).set O h).set b9 k).set j1 o).set a p).set b r).set e Y=((((((((f.set e Y).set i c).set v d).set O h).set b9 k).set j1 o).set a p).set b r):=by rw[U.dZ _ G,BG y z C D E F]
def U.Uh {a b c:Nat}{z d h k o p r x y:br} (C:i≠e) (D:v≠e) (E:O≠e) (F:b9≠e) (G:j1≠e) (L:a≠e) (P:b≠e) (S:c≠e):(((((((((f.set e z).set i d).set v h).set O k).set b9 o).set j1 p).set a r).set b x).set c y).set e Y=(((((((((f.set e Y).set i d).set v h).set O k).set b9 o).set j1 p).set a r).set b x).set c y):=by rw[U.dZ _ S,BH C D E F G L P]
def aN {b:cB j5} (c: ∀a,f a=none->j5 a):iV f (bZ j5 b):=c
def cu {h:cB (bS K (.loop h7) e8 j f)} (a:Fr->U->Prop) (b:Fr->U->Nat) (k:a j f) (o: ∀j f,a j f->bS K h7 (eO (λc d=>a c d/\b c d<b j f) e8) j f):
  cw (bS K (.loop h7) e8 j f) h:=⟨a,b,k,o⟩
theorem ai {c:cB s} (d:AC K.p b5 g f a7) (h: ∀a b,a7 a b->s a b):nW K b5 g f (bO s c):=(d.mono h).p
theorem U.a1:f.sub f:=λ_ _ a=>a
theorem U.ae (a:t.sub f) (c:t e=none):t.sub (f.set e Y):=λd h b=>by
 rw[U.tH];split;simp_all
 .exact a _ _ b
theorem U.kZ (b:t.sub f):(t.set e Y).sub (f.set e Y):=λd h a=>by
 rw[U.tH]at a|-;split;simp_all
 .rename_i c;rw[if_neg c]at a;exact b _ _ a
end
theorem wrap_i64 (c: -9223372036854775808<=b1) (d:b1<9223372036854775808):IntKind.i64.wrap b1=b1:=by have a:((2:Int)^IntKind.i64.bits)=18446744073709551616:=rfl;have b:((2:Int)^(IntKind.i64.bits - 1))=9223372036854775808:=rfl;simp only[IntKind.wrap,a,b,IntKind.signed,a6f,decide_eq_true_eq];omega
theorem kt:IntKind.u64.wrap b1=b1%18446744073709551616:=by have a:((2:Int)^IntKind.u64.bits)=18446744073709551616:=rfl;rfl
def wH:IntKind.u32.wrap b1=b1%4294967296:=by have a:((2:Int)^IntKind.u32.bits)=4294967296:=rfl;rfl
def tI:IntKind.u8.wrap b1=b1%256:=by have a:((2:Int)^IntKind.u8.bits)=256:=rfl;rfl
theorem wrap_u64 (a:0<=b1) (b:b1<18446744073709551616):IntKind.u64.wrap b1=b1:=by rw[kt];omega
def wrap_u32 (a:0<=b1) (b:b1<4294967296):IntKind.u32.wrap b1=b1:=by rw[wH];omega
theorem wrap_u8 (a:0<=b1) (b:b1<256):IntKind.u8.wrap b1=b1:=by rw[tI];omega
def Ui (a:UInt8):IntKind.u32.wrap (a.toNat:Int)=(a.toUInt32.toNat:Int):=by have:=a.toNat_lt;rw[wrap_u32 a9k a9k];simp
def Uj (a:UInt8):IntKind.u64.wrap (a.toNat:Int)=(a.toUInt64.toNat:Int):=by have:=a.toNat_lt;rw[wrap_u64 a9k a9k];simp
def Uk (a:UInt32):IntKind.u8.wrap (a.toNat:Int)=(a.toUInt8.toNat:Int):=by rw[tI];simp
def Ul (a:UInt64):IntKind.u8.wrap (a.toNat:Int)=(a.toUInt8.toNat:Int):=by rw[tI];simp
section
variable (a b:Int)
def Um:bn .add (.int .i64 a) (.int .i64 b)=some (.int .i64 (IntKind.i64.wrap (a+b))):=rfl
def Un:bn .sub (.int .i64 a) (.int .i64 b)=some (.int .i64 (IntKind.i64.wrap (a - b))):=rfl
def Uo:bn .mul (.int .i64 a) (.int .i64 b)=some (.int .i64 (IntKind.i64.wrap (a*b))):=rfl
def Up (c:b≠0):bn .quo (.int .i64 a) (.int .i64 b)=some (.int .i64 (IntKind.i64.wrap (a.tdiv b))):=by simp[bn,fp,hF,c]
def Uq (c:b≠0):bn .rem (.int .i64 a) (.int .i64 b)=some (.int .i64 (a.tmod b)):=by simp[bn,fp,hF,c]
variable (k:IntKind)
def Ur:bn .eql (.int k a) (.int k b)=some (.bool (decide (a=b))):=by simp[bn,fp,hF]
def Us:bn .neq (.int k a) (.int k b)=some (.bool (decide (a≠b))):=by simp[bn,fp,hF]
def Ut:bn .lss (.int k a) (.int k b)=some (.bool (decide (a<b))):=by simp[bn,fp,hF]
def Uu:bn .leq (.int k a) (.int k b)=some (.bool (decide (a<=b))):=by simp[bn,fp,hF]
def Uv:bn .gtr (.int k a) (.int k b)=some (.bool (decide (b<a))):=by simp[bn,fp,hF]
def Uw:bn .geq (.int k a) (.int k b)=some (.bool (decide (b<=a))):=by simp[bn,fp,hF]
def Ux (c:Bool):nP .not (.bool c)=some (.bool !c):=rfl
end
def Uy (a b:Int):bn .add (.int .u64 a) (.int .u64 b)=some (.int .u64 (IntKind.u64.wrap (a+b))):=rfl
def Uz (a b:Int):bn .sub (.int .u64 a) (.int .u64 b)=some (.int .u64 (IntKind.u64.wrap (a - b))):=rfl
def UA (a b:Int):bn .mul (.int .u64 a) (.int .u64 b)=some (.int .u64 (IntKind.u64.wrap (a*b))):=rfl
theorem rX (c:Nat) (d:IntKind) (b:Int) (k:0<=b) (o:b<64):bn .shr (.int .u64 c) (.int d b)=some (.int .u64 (c>>>b.toNat:Nat)):=by
 obtain⟨a,rfl⟩: ∃a:Nat,b=a:=⟨b.toNat,a9k⟩;have h:min a IntKind.u64.bits=a:=by simp[IntKind.bits];omega
 have p:(2)^a=((2^a:Nat):Int):=a9l;simp only[bn,fp,if_true,nO,if_neg (show¬(a:Int)<0 by omega),a5l,h,a5G];grind
def iq (a:Nat):IntKind.u8.wrap (a:Int)=((UInt8.ofNat a).toNat:Int):=by rw[tI];simp
variable{B:List UInt8}
theorem UB (a:0<=b1) (b:b1.toNat<B.length):cP 1 (.J (B.map al) M) (.v (.int e2 b1))=some (.bV [.v (.int .u8 (B.getD b1.toNat 0).toNat)]):=by
 rw[hJ a,a5i,a4H b];have:B.getD b1.toNat 0=B[b1.toNat]:=by simp_all
 rw[this];rfl
def UC (a:Decidable True): @decide True a=true:=a9l
def UD (a:Decidable False): @decide False a=false:=a9l
def BI:aX true e g= .agg (g.take e):=rfl
def BJ:R.cells (.J g M)= [.J g M]:=rfl
def BK:R.cells (.v e5)= [.v e5]:=rfl
def BL:R.cells (.ptr e i)= [.ptr e i]:=rfl
def BM:R.cells (.bV g)= [.bV g]:=rfl
def BN:R.cells (.iface b2 n)= [.iface b2 n]:=rfl
def hK:R.cells (.agg g)=g:=rfl
theorem qi (a:g.length=A.length):putAt A 0 g=g:=by simp[putAt,a]
def UE:aX false 1 (n::g)=n:=rfl
section
variable (x y:UInt32)
def UF:bn .add (.int .u32 x.toNat) (.int .u32 y.toNat)=some (.int .u32 (x+y).toNat):=by rfl
def BO:bn .sub (.int .u32 x.toNat) (.int .u32 y.toNat)=some (.int .u32 (x - y).toNat):=by have:=x.toNat_lt;have:=y.toNat_lt;simp only[bn,fp,hF,wH,UInt32.toNat_sub];simp;omega
def BP:bn .mul (.int .u32 x.toNat) (.int .u32 y.toNat)=some (.int .u32 (x*y).toNat):=by rfl
theorem qj (a:Nat) (b:a<4294967296):IntKind.u32.wrap (a:Int)=a:=wrap_u32 a9k a9k
def ofInt_u32:BitVec.ofInt 32 (x.toNat:Int)=x.toBitVec:=by simp
def UG:bn .and (.int .u32 x.toNat) (.int .u32 y.toNat)=some (.int .u32 (x&&&y).toNat):=by have a:bn .and (.int .u32 x.toNat) (.int .u32 y.toNat)=some (.int .u32 (IntKind.u32.wrap (BitVec.ofInt 32 (x.toNat)&&&BitVec.ofInt 32 (y.toNat)).toNat)):=rfl;rw[a,ofInt_u32,ofInt_u32,qj _ (a8I _)];rfl
def UH:bn .or (.int .u32 x.toNat) (.int .u32 y.toNat)=some (.int .u32 (x|||y).toNat):=by have a:bn .or (.int .u32 x.toNat) (.int .u32 y.toNat)=some (.int .u32 (IntKind.u32.wrap (BitVec.ofInt 32 (x.toNat)|||BitVec.ofInt 32 (y.toNat)).toNat)):=rfl;rw[a,ofInt_u32,ofInt_u32,qj _ (a8I _)];rfl
def UI:bn .xor (.int .u32 x.toNat) (.int .u32 y.toNat)=some (.int .u32 (x^^^y).toNat):=by have a:bn .xor (.int .u32 x.toNat) (.int .u32 y.toNat)=some (.int .u32 (IntKind.u32.wrap (BitVec.ofInt 32 (x.toNat)^^^BitVec.ofInt 32 (y.toNat)).toNat)):=rfl;rw[a,ofInt_u32,ofInt_u32,qj _ (a8I _)];rfl
def UJ:nP .xor (.int .u32 x.toNat)=some (.int .u32 (~~~x).toNat):=by
 have a:nP .xor (.int .u32 x.toNat)=some (.int .u32 (IntKind.u32.wrap (BitVec.ofInt 32 4294967295^^^BitVec.ofInt 32 (x.toNat)).toNat)):=rfl;rw[a,ofInt_u32,qj _ (a8I _)];have:(BitVec.ofInt 32 4294967295^^^x.toBitVec)= ~~~x.toBitVec:=by rw[BitVec.not_def];rfl
 rw[this];rfl
theorem UK (c:IntKind) (a:Int) (h:0<=a) (k:a<32):bn .shl (.int .u32 x.toNat) (.int c a)=some (.int .u32 (x<<<UInt32.ofNat a.toNat).toNat):=by
 obtain⟨b,rfl⟩: ∃b:Nat,a=b:=⟨a.toNat,a9k⟩;have hm:b<32:=a9k;have d:min b IntKind.u32.bits=b:=by simp[IntKind.bits];omega
 simp only[bn,fp,if_true,nO,if_neg (show¬(b:Int)<0 by omega),a5l,d,wH,UInt32.toNat_shiftLeft,UInt32.toNat_ofNat',a6X];grind
theorem UL (c:IntKind) (a:Int) (h:0<=a) (k:a<32):bn .shr (.int .u32 x.toNat) (.int c a)=some (.int .u32 (x>>>UInt32.ofNat a.toNat).toNat):=by
 obtain⟨b,rfl⟩: ∃b:Nat,a=b:=⟨a.toNat,a9k⟩;have hm:b<32:=a9k;have d:min b IntKind.u32.bits=b:=by simp[IntKind.bits];omega
 simp only[bn,fp,if_true,nO,if_neg (show¬(b:Int)<0 by omega),a5l,d,UInt32.toNat_shiftRight,UInt32.toNat_ofNat',a5G];grind
end
def aT (a:Nat) (b:List R):Prop:= ∀c∈b,c.cells.length=a
def UM:aT e []=True:=by simp[aT]
def BQ:aT e (n::g)=(n.cells.length=e/\aT e g):=by simp[aT]
theorem UN:aT e (g++A)=(aT e g/\aT e A):=by grind[aT]
theorem tJ:aT 1 (B.map al)=True:=by simp[aT,al,R.cells]
def bf (a b:U) (h:Nat) (c:List R) (k:Own):Prop:=
 a.sub b/\match k with
  | .buf d o=>a d=none/\b d=some (.buf h c.length o)
  | .any=>False
  | _=>c= []
theorem U.au (c:f.sub t) (d:t.sub e4):f.sub e4:=λa b h=>d a b (c a b h)
def U.bF (b:f.sub t) (a:t e=none):f e=none:=by
 cases bW:f e with
 |none=>rfl
 |some c=>rw[b e c bW]at a;cases a
theorem bf.nil (a:t.sub f) {b:Nat}:bf t f b [] .nil:=⟨a,rfl⟩
def bf.zero (a:t.sub f) {b:Nat}:bf t f b [] .zero:=⟨a,rfl⟩
def bf.sub {a:Nat}{b:List R}{c:Own} (d:bf t f a b c):t.sub f:=d.1
theorem bf.base {o:Own} (b:bf t f e g o) (c:e4.sub t):bf e4 f e g o:=by
 refine⟨U.au c b.1,?_⟩;have a:=b.2;cases o with
 |buf d h=>exact⟨U.bF c a.1,a.2⟩
 | _=>exact a
def bf.mono (b:bf t f e g M) (c:f.sub e4):bf t e4 e g M:=by
 refine⟨U.au b.1 c,?_⟩;have a:=b.2;cases M with
 |buf d h=>exact⟨a.1,c _ _ a.2⟩
 | _=>exact a
theorem bf.set {c a:Nat}{d:List R}{b:Own}{ob p:br} (h:bf t f c d b) (k:t a=some p):bf (t.set a ob) (f.set a ob) c d b:=by
 refine⟨U.kZ h.1,?_⟩;have o:=h.2;cases b with
 |buf r x=>
  have y:r≠a:=by rintro rfl;rw[o.1]at k;cases k
  grind[U.ao]
 | _=>exact o
theorem bf.new {ob:br} (a:bf t f i g M) (b:f e=none):bf (t.set e ob) (f.set e ob) i g M:=by
 refine⟨U.kZ a.1,?_⟩;have c:=a.2;cases M with
 |buf d h=>
  have k:d≠e:=by rintro rfl;rw[c.2]at b;cases b
  grind[U.ao]
 | _=>exact c
def lV (d x:Nat) (c:U) (y z:R) (k:R->U->Prop):Prop:=
 match y,z with
 | .J xs r,.J a _=>(∀o∈xs,o.cells.length=d)/\(∀o∈a,o.cells.length=d)/\(xs.length+a.length)*x<=140737488355328/\xs.length+a.length<=9223372036854775807/\
   match r with
   | .buf p C=>c p=some (.buf d xs.length C)/\ ∀b h,(b=p\/c b=none)->k (.J (xs++a) (.buf b h)) ((c.del p).set b (.buf d (xs.length+a.length) h))
   | .any=>False
   | _=>xs= []/\(if a= []then k (.J [] r) c else∀b h,c b=none->k (.J a (.buf b h)) (c.set b (.buf d a.length h)))
 | _,_=>False
def UO:G K (.app e i Z e9) j f s=lV e i f (ak j Z) (ak j e9) (bO s ()):=rfl
theorem ea {C:cB s} (a:bf t f e g M) (D:aT e g) (E:aT e A) (F:(g.length+A.length)*i<=140737488355328) (G:g.length+A.length<=9223372036854775807)
  (c: ∀p r,bf t r e (g++A) p->s (.J (g++A) p) r):lV e i f (.J g M) (.J A e6) (bO s C):=by
 have d:=a.2;refine⟨D,E,F,G,?_⟩;cases M with
 |any=>trivial
 |nil=>
  obtain rfl:g= []:=d;refine⟨rfl,?_⟩;split
  .rename_i h;subst h;exact c _ _ ⟨a.1,rfl⟩
  .intro k x b;refine c _ _ ⟨U.ae a.1 (U.bF a.1 b),U.bF a.1 b,?_⟩;rw[U.ah];simp
 |zero=>
  obtain rfl:g= []:=d;refine⟨rfl,?_⟩;split
  .rename_i h;subst h;exact c _ _ ⟨a.1,rfl⟩
  .intro k x b;refine c _ _ ⟨U.ae a.1 (U.bF a.1 b),U.bF a.1 b,?_⟩;rw[U.ah];simp
 |buf L T=>
  refine⟨d.2,λk x b=>c _ _ ?_⟩;have y:t k=none:=by rcases b with rfl|b;exact d.1;exact U.bF a.1 b
  refine⟨U.ae (λz P o=> ?_) y,y,?_⟩
  .have S:z≠L:=by rintro rfl;rw[d.1]at o;cases o
   rw[U.eG _ S];exact a.1 z P o
  .rw[U.ah,a4J]
def jI (d:Nat) (b:U) (a:List R) (h:R->U->Prop):Prop:=
 (∀k∈a,k.cells.length=d)/\(if a.length=0 then h (.J [] .zero) b else∀c,b c=none->h (.J a (.buf c a.length)) (b.set c (.buf d a.length a.length)))
def UP {a:List Operand}:G K (.kh e a) j f s=jI e f (a.map (ak j)) (bO s ()):=by simp only[G,jI,bO,a4T]
def dd {k:cB s} (a:t.sub f) (o:aT e g) (b: ∀c d,bf t d e g c->s (.J g c) d):jI e f g (bO s k):=by
 refine⟨o,?_⟩;split
 .rename_i p;obtain rfl:=a4N p;exact b _ _ ⟨a,rfl⟩
 .intro r h;exact b _ _ ⟨U.ae a (U.bF a h),U.bF a h,by rw[U.ah]⟩
def cG (a:Option R) (b:Nat):Option Int:=
 match a with
 |none=>some b
 |some c=>intOf c
def fW (a:Own) (b c:Option R):Own:=
 match b,c with
 |none,none=>a
 | _,_=> .any
def dI (c:Nat) (a:R) (d h:Option R):Option R:=
 match a with
 | .J xs p=>match cG d 0,cG h xs.length with
  |some a,some b=>if 0<=a/\a<=b/\b<=xs.length/\xs.all (λr=>decide (r.cells.length=c))then some (.J ((xs.take b.toNat).drop a.toNat) (fW p d h))else none
  | _,_=>none
 | .bx k off len cap o=>match cG d 0,cG h len with
  |some a,some b=>if o=c/\0<=a/\a<=b/\b<=len/\a<len then some (.bx k (off+a.toNat*c) (b.toNat - a.toNat) (cap - a.toNat) c)else none
  | _,_=>none
 | .an k len cap o=>match cG d 0,cG h len with
  |some a,some b=>if o=c/\0<=a/\a<=b/\b<=len/\(d.isSome=true->a<len)then some (q6 d.isSome k a.toNat b.toNat cap c)else none
  | _,_=>none
 | _=>none
def wI (a:Option Operand) (b:Nat):db j a b=cG (a.map (ak j)) b:=by
 cases a with
 |none=>rfl
 |some a=>simp only[db,cG,a5I,intOf];rfl
def UQ (a b:Option Operand):vL M a b=fW M (a.map (ak j)) (b.map (ak j)):=by cases a<;>cases b<;>rfl
theorem UR {a d:Option Operand}:G K (.oR e Z a d) j f s=dC (dI e (ak j Z) (a.map (ak j)) (d.map (ak j))) (bZ (λo=>s o f) ()):=by
 have p:a.isSome=(a.map (ak j)).isSome:=a9l;simp only[G,dI,wI,UQ (j:=j) a d,p];generalize ak j Z=r;generalize a.map (ak j)=h;generalize d.map (ak j)=k;cases r<;>try rfl
 .rename_i x D;simp only[];generalize cG h 0=b;generalize cG k x.length=c;cases b<;>cases c<;>try rfl
  simp only[ks,jE,a4Z,decide_eq_true_eq];grind
 .rename_i y E len z C;simp only[];generalize cG h 0=b;generalize cG k len=c;cases b<;>cases c<;>try rfl
  simp only[ks,jE];grind
 .rename_i y len z C;simp only[];generalize cG h 0=b;generalize cG k len=c;cases b<;>cases c<;>try rfl
  simp only[ks,jE];grind
def US (a:0<=b1) (b:b1<=v):dI e (.an i v O e) none (some (.v (.int e2 b1)))=some (.an i b1.toNat O e):=by simp[dI,cG,intOf,a,b,q6]
def UT (a:aT e g):dI e (.J g M) none none=some (.J g M):=by
 have:(g.all λb=>decide (b.cells.length=e))=true:=by simpa[aT] using a
 simp[dI,cG,fW,this]
theorem qk (a:0<=b1) (b:b1<=g.length) (c:aT e g):dI e (.J g M) (some (.v (.int e2 b1))) none=some (.J (g.drop b1.toNat) .any):=by
 have:(g.all λd=>decide (d.cells.length=e))=true:=by simpa[aT] using c
 simp[dI,cG,fW,intOf,this,a,b]
theorem nX (a:0<=b1) (b:b1<=g.length) (c:aT e g):dI e (.J g M) none (some (.v (.int e2 b1)))=some (.J (g.take b1.toNat) .any):=by grind[decide,aT,dI,cG,fW,intOf]
theorem BR {b:IntKind}{a:Int} (c:0<=b1) (d:b1<=a) (h:a<=g.length) (k:aT e g):dI e (.J g M) (some (.v (.int e2 b1))) (some (.v (.int b a)))=some (.J ((g.take a.toNat).drop b1.toNat) .any):=by grind[decide,aT,dI,cG,fW,intOf]
def wJ (b:Bool) (a:List (Nat×c8)) (c d:R) (h:R->Prop):Prop:=
 match c,d with
 | .agg cs,.agg cz=>dz a cs/\dz a cz/\h (.v (.bool (xor b (peq (.agg cs) (.agg cz)))))
 | _,_=>False
variable{j4:List (Nat × c8)}
def UU:G K (.eqv I j4 Z e9) j f s=wJ I j4 (ak j Z) (ak j e9) (bZ (λa=>s a f) ()):=rfl
theorem UW {a:R->Prop}:wJ I j4 (.agg g) (.agg A) a=gS (dz j4 g/\dz j4 A) (cw (a (.v (.bool (xor I (peq (.agg g) (.agg A)))))) ()):=by simp only[wJ,gS,cw];grind
def UX:(B.map al).drop e=(B.drop e).map al:=a9l
def UY:(B.map al).take e=(B.take e).map al:=a9l
def bf.UZ (a:t.sub f):bf t f 1 (([]:List UInt8).map al) .nil:=⟨a,rfl⟩
theorem mT {a:List UInt8}{d:cB s} (h:bf t f 1 (B.map al) M) (k:B.length+a.length<=140737488355328)
  (o: ∀b c,bf t c 1 ((B++a).map al) b->s (.J ((B++a).map al) b) c):lV 1 1 f (.J (B.map al) M) (.J (a.map al) e6) (bO s d):=by
 grind[ea,tJ]
def wK {a:UInt8}{d:cB s} (h:bf t f 1 (B.map al) M) (k:B.length+1<=140737488355328)
  (o: ∀b c,bf t c 1 ((B++ [a]).map al) b->s (.J ((B++ [a]).map al) b) c):lV 1 1 f (.J (B.map al) M) (.J [al a] e6) (bO s d):=
 mT (a:= [a]) h k o
def rY {a:UInt8}{d:cB s} (h:t.sub f) (k: ∀b c,bf t c 1 [al a] b->s (.J [al a] b) c):jI 1 f [.v (.int .u8 a.toNat)] (bO s d):=
 dd (g:= [a].map al) h (by rw[tJ];trivial) k
def wL (a:e<B.length):(B.map al)[e]? =some (.v (.int .u8 (B.getD e 0).toNat)):=by
 rw[a5i,a4H a];have:B.getD e 0=B[e]:=by simp[a]
 rw[this];rfl
def BS {b c:Fr->U->Prop} (d: ∀j f,b j f->c j f): ∀(h:List c7) (j:Fr) (f:U),iR K h b j f->iR K h c j f
 | [],j,f,a=>d j f a
 | _::k,j,f,a=>rH (λj f a=>BS d k j f a) a
def BT {b:Nat->c7}{c d:Fr->U->Prop} (h: ∀j f,c j f->d j f): ∀(k:List dj) (j:Fr) (f:U),can K b c k j f->can K b d k j f
 | [],j,f,a=>h j f a
 | _::o,j,f,a=>⟨a.1,rH (λj f a=>⟨a.1,BT h o j f a.2⟩) a.2⟩
theorem iX: ∀(o:dH) {h k:gh->Fr->U->Prop} (_: ∀c j f,h c j f->k c j f) (j:Fr) (f:U),bS K o h j f->bS K o k j f
 | .skip,_,_,b,j,f,a=>b _ j f a
 | .ret,_,_,b,j,f,a=>b _ j f a
 | .exit _,_,_,b,j,f,a=>b _ j f a
 | .plain ops,_,_,b,j,f,a=>BS (b _) ops j f a
 | .draw _ y,_,_,b,j,f,a=>BT (b _) y j f a
 | .seq d p,h,k,b,j,f,a=>iX d (λc j f a=>by
   cases c with
   |norm=>exact iX p b j f a
   |exit x=>exact b _ j f a
   |ret=>exact b _ j f a) j f a
 | .block x d,h,k,b,j,f,a=>iX d (λc j f a=>by
   cases c with
   |norm=>exact b _ j f a
   |exit G=>simp only[kY]at a|-;grind
   |ret=>exact b _ j f a) j f a
 | .cond o d p,h,k,b,j,f,a=>by
   simp only[wC,Br,kr]at a|-;split at a
   .exact⟨λr=>iX d b j f (a.1 r),λr=>iX p b j f (a.2 r)⟩
   .trivial
 | .loop d,h,k,b,j,f,a=>by
   obtain⟨z,C,D,E⟩:=a;exact⟨z,C,D,λj f F=>iX d (λc j f a=>by
    cases c with
    |norm=>exact a
    |exit x=>exact b _ j f a
    |ret=>exact b _ j f a) j f (E j f F)⟩
def BU {b c:dH}{k:cB (bS K b (eO (bS K h7 e8) e8) j f)}{o:cB (bS K c (eO (bS K h7 e8) e8) j f)} (d:Fr->U->Prop)
  (p:I=true->bS K b (eO d e8) j f) (r:I=false->bS K c (eO d e8) j f) (x: ∀j f,d j f->bS K h7 e8 j f):
  kr (.v (.bool I)) (cw (bS K b (eO (bS K h7 e8) e8) j f) k) (cw (bS K c (eO (bS K h7 e8) e8) j f) o):=by
 have hm: ∀h j f,eO d e8 h j f->eO (bS K h7 e8) e8 h j f:=λh j f a=>by
  cases h with
  |norm=>exact x j f a
  |exit y=>exact a
  |ret=>exact a
 exact⟨λa=>iX b hm j f (p a),λa=>iX c hm j f (r a)⟩
def rZ (b c:R):Option R:=
 match b,c with
 | .v (.string d),.v (.int _ a)=>if 0<=a then(match d.data[a.toNat]? with|some h=>some (.v (.int .u8 h.toNat))|none=>none)else none
 | _,_=>none
def V0:G K (.lG Z e9) j f s=dC (rZ (ak j Z) (ak j e9)) (bZ (λc=>s c f) ()):=by
 simp only[G,rZ];generalize ak j Z=d;generalize ak j e9=h;cases d<;>first
  |rfl
  |(rename_i v;cases v<;>first
    |rfl
    |(cases h<;>first
      |rfl
      |(rename_i k o;cases o<;>first
        |rfl
        |(
          rename_i r a;simp only[];by_cases b:0<=a
          .simp only[b,true_and,if_true];generalize k.data[a.toNat]? =p;cases p<;>rfl
          .simp[b,dC]))))
def s0 (a b:Nat) (c:U) (d:R):Option R:=
 match d with
 | .ptr h off=>match c h with
  |some (.ro cs)=>if off+b*a<=cs.length then some (.J (ef a b (cs.drop off)) .any)else none
  | _=>none
 | _=>none
def V1:G K (.jx e i Z none none) j f s=dC (s0 e i f (ak j Z)) (bZ (λa=>s a f) ()):=by
 simp only[G,s0,db];generalize ak j Z=b;cases b<;>first
  |rfl
  |(
    rename_i c k;simp only[];generalize f c=d;cases d with
    |none=>simp[dC]
    |some h=>cases h with
     |ro cs=>simp only[ks,jE];simp
     | _=>simp[dC])
def V2 (a:f i=some (.ro g)) (b:g.length=e):s0 1 e f (.ptr i 0)=some (.J g .any):=by simp[s0,a,b,ef,a4I]
theorem wM (a:e<64):bn .shl (.int .i64 b1) (.int e2 (e:Int))=some (.int .i64 (IntKind.i64.wrap (b1*2^e))):=by
 have b:min e IntKind.i64.bits=e:=by simp[IntKind.bits];omega
 simp_all [bn,fp,nO]
def BV (a b:Option R):Option R:=
 match a,b with
 |some a,some b=>some (.aL [a,b])
 | _,_=>none
def V3:BV (some n) (some b3)=some (.aL [n,b3]):=rfl
def V4 {a b:Nat×Option (Bool×Nat)}:iT j f [a,b]=BV (gi j f a) (gi j f b):=by simp only[iT,fr];cases gi j f a<;>cases gi j f b<;>rfl
def BW (a b c:Option R):Option R:=
 match a,b,c with
 |some a,some b,some c=>some (.aL [a,b,c])
 | _,_,_=>none
def V5 {a:R}:BW (some n) (some b3) (some a)=some (.aL [n,b3,a]):=rfl
def V6 {a b c:Nat×Option (Bool×Nat)}:iT j f [a,b,c]=BW (gi j f a) (gi j f b) (gi j f c):=by simp only[iT,fr];cases gi j f a<;>cases gi j f b<;>cases gi j f c<;>rfl
def V7:((0:Nat):Int)=0:=rfl
def V8:((1:Nat):Int)=1:=rfl
def V9:((e:Int).tmod (i:Int))=((e%i:Nat):Int):=rfl
def BX:((e:Int).tmod 64)=((e%64:Nat):Int):=V9 (i:=64)
def s3:=
 a4F @SB<|
 a4F @SC<|
 a4F @SD<|
 a4F @SE<|
 a4F @SF<|
 a4F @SG<|
 a4F @SH<|
 a4F @wC<|
 a4F @SI<|
 a4F @jE<|
 a4F @SA<|
 a4F @SJ<|
 a4F @SK<|
 a4F @SL<|
 a4F @SM<|
 a4F @SN<|
 a4F @SP<|
 a4F @SO<|
 a4F @SQ<|
 a4F @SR<|
 a4F @SS<|
 a4F @T1<|
 a4F @T3<|
 a4F @T4<|
 a4F @T7<|
 a4F @T5<|
 a4F @T6<|
 a4F @T8<|
 a4F @T9<|
 a4F @Td<|
 a4F @Te<|
 a4F @Tb<|
 a4F @Tc<|
 a4F @Tk<|
 a4F @Tn<|
 a4F @To<|
 a4F @Tp<|
 a4F @Tq<|
 a4F @Tt<|
 a4F @Tv<|
 a4F @Ty<|
 a4F @TB<|
 a4F @TD<|
 a4F @TE<|
 a4F @TH<|
 a4F @TK<|
 a4F @TO<|
 a4F @TP<|
 a4F @TR<|
 a4F @TT<|
 a4F @TU<|
 a4F @TW<|
 a4F @UO<|
 a4F @UP<|
 a4F @UR<|
 a4F @V0<|
 a4F @V1<|
 a4F @UU<|
 a4F @U2<|
 a4F @Tf<|
 a4F @Tg<|
 a4F @U3<|
 a4F @TI<|
 a4F @TJ<|
 a4F @U5<|
 @U6
def s4:=
 a4F @Bs<|
 a4F @Bt<|
 a4F @SU<|
 a4F @SV<|
 a4F @SX<|
 a4F @SY<|
 a4F @SZ<|
 a4F @Ta<|
 a4F @eq_self.{1}<|
 a4F @T2<|
 a4F @a5q.{0}<|
 a4F @a5s.{0}<|
 a4F @UW<|
 a4F @Option.map_none.{0,0}<|
 a4F @UT<|
 a4F @qk<|
 a4F @nX<|
 a4F @BR<|
 a4F @UX<|
 a4F @UY<|
 a4F @Th<|
 a4F @Ti<|
 a4F @Tj<|
 a4F @rQ<|
 a4F @rP<|
 a4F @Tl<|
 a4F @Tm<|
 a4F @Tr<|
 a4F @Ts<|
 a4F @Bv<|
 a4F @Tu<|
 a4F @Tw<|
 a4F @Tx<|
 a4F @Tz<|
 a4F @TA<|
 a4F @rU<|
 a4F @TC<|
 a4F @UB<|
 a4F @tF<|
 a4F @jG<|
 a4F @TF<|
 a4F @TG<|
 a4F @TM<|
 a4F @TN<|
 a4F @rV<|
 a4F @TQ<|
 a4F @TS<|
 a4F @TV<|
 a4F @TY<|
 a4F @TZ<|
 a4F @U0<|
 a4F @U1<|
 a4F @a5I.{0,0}<|
 a4F @U8<|
 a4F @U9<|
 a4F @U7<|
 a4F @Ub<|
 a4F @Ua<|
 a4F @qi<|
 a4F @a5f.{0,0}<|
 a4F @a6u.{0,0}<|
 a4F @Um<|
 a4F @Un<|
 a4F @Uo<|
 a4F @Up<|
 a4F @Uq<|
 a4F @Ur<|
 a4F @Us<|
 a4F @Ut<|
 a4F @Uu<|
 a4F @Uv<|
 a4F @Uw<|
 a4F @Ux<|
 a4F @UF<|
 a4F @BO<|
 a4F @BP<|
 a4F @UG<|
 a4F @UH<|
 a4F @UI<|
 a4F @UJ<|
 a4F @UK<|
 a4F @UL<|
 a4F @wrap_i64<|
 a4F @Ui<|
 a4F @Uj<|
 a4F @Uk<|
 a4F @Ul<|
 a4F @Uy<|
 a4F @Uz<|
 a4F @UA<|
 a4F @rX<|
 a4F @wrap_u64<|
 a4F @UE<|
 a4F @BI<|
 a4F @a4T.{0,0}<|
 a4F @a4M.{0}<|
 a4F @a4R.{0}<|
 a4F @U.Bz<|
 a4F @U.Uc<|
 a4F @U.Ud<|
 a4F @U.Ue<|
 a4F @U.Uf<|
 a4F @U.set_set<|
 a4F @U.BA<|
 a4F @U.BB<|
 a4F @U.BC<|
 a4F @U.BD<|
 a4F @U.BE<|
 a4F @U.BG<|
 a4F @U.BH<|
 a4F @U.Uh<|
 a4F @BJ<|
 a4F @BK<|
 a4F @BL<|
 a4F @BM<|
 a4F @BN<|
 a4F @hK<|
 a4F @a6N.{0}<|
 a4F @and_self<|
 a4F @a5h<|
 a4F @a5y<|
 a4F @a7C<|
 a4F @a5l<|
 a4F @true_and<|
 a4F @and_true<|
 a4F @a6H<|
 a4F @a5n<|
 a4F @UC<|
 @UD
def fX:=
 a4F @V7<|
 a4F @V8<|
 a4F @V4<|
 a4F @V3<|
 a4F @V6<|
 @V5
def bk:=
 a4F @a4M.{0}<|
 a4F @a4R.{0}<|
 a4F @a4T.{0,0}<|
 a4F @a4J.{0}<|
 a4F @a6z.{0}<|
 a4F @List.length_range<|
 a4F @a4K.{0}<|
 a4F @a4Y.{0}<|
 a4F @BJ<|
 a4F @BK<|
 a4F @BL<|
 a4F @BM<|
 a4F @BN<|
 a4F @hK<|
 a4F @tJ<|
 a4F @UM<|
 a4F @BQ<|
 a4F @UN<|
 a4F @and_true<|
 a4F @true_and<|
 a4F @a5h<|
 a4F @eq_self.{1}<|
 @and_self
def bb (a:List UInt8):R:= .v (.string ⟨a.toArray⟩)
theorem toList_mk (a:List UInt8):(⟨a.toArray⟩:ByteArray).toList=a:=a9l
theorem BY (a b:List UInt8):bn .eql (.string ⟨a.toArray⟩) (.string ⟨b.toArray⟩)=some (.bool (decide (a=b))):=by grind[bn,pX,toList_mk]
theorem BZ (a b:List UInt8):bn .neq (.string ⟨a.toArray⟩) (.string ⟨b.toArray⟩)=some (.bool (decide (a≠b))):=by grind[bn,pX,toList_mk]
def nY (a:List UInt8):(⟨a.toArray⟩:ByteArray).size=a.length:=by rfl
variable{u:bl}{l h8:World}
section
def Va:rR K ⟨some e,e3,some (i,I)⟩ j f=hI (j i) I (cw (G K e3 j f (λa _=>a=j e)) ()) (cw ((.aL []:R)=j e) ()):=rfl
def Vb {a:Option Nat}:Def K ⟨a,e3,some (e,I)⟩ j=hI (j e) I (cw (G K e3 j U.emp (λ_ _=>True)) ()) (cw True ()):=rfl
def mU (a:R):Option R:=
 match a with
 | .J xs _=>match bytesOf xs with
  |some b=>some (.v (.string ⟨b.toArray⟩))
  |none=>none
 | _=>none
def C0:mU (.J (B.map al) M)=some (.v (.string ⟨B.toArray⟩)):=by simp[mU,ry]
def Vc:G K (.q3 Z) j f s=dC (mU (ak j Z)) (bZ (λa=>s a f) ()):=by simp only[G,mU];generalize ak j Z=b;cases b<;>first|rfl|(rename_i c h;simp only[];generalize bytesOf c=d;cases d<;>rfl)
def ql (d:Bool) (a b:R):Option R:=
 match a,b with
 | .v (.int c a),.v (.int h b)=>if c=h then some (.v (.int c (if d then max a b else min a b)))else none
 | _,_=>none
def Vd {a:Int}:ql true (.v (.int e2 b1)) (.v (.int e2 a))=some (.v (.int e2 (max b1 a))):=by simp[ql]
def Ve {a:Int}:ql false (.v (.int e2 b1)) (.v (.int e2 a))=some (.v (.int e2 (min b1 a))):=by simp[ql]
def Vf:G K (.lI I e2 Z e9) j f s=dC (ql I (ak j Z) (ak j e9)) (bZ (λa=>s a f) ()):=by
 simp only[G,ql];generalize ak j Z=b;generalize ak j e9=c;cases b<;>first
  |rfl
  |(rename_i v;cases v<;>first
    |rfl
    |(cases c<;>first
      |rfl
      |(rename_i d;cases d<;>first|rfl|(simp only[ks,jE]))))
def s5 (a:R):Option R:=
 match a with
 | .v (.string b)=>some (.v (.int .i64 b.size))
 | _=>none
def wN:s5 (.v (.string ⟨B.toArray⟩))=some (.v (.int .i64 B.length)):=by rfl
def Vg:G K (.q1 Z) j f s=dC (s5 (ak j Z)) (bZ (λa=>s a f) ()):=by simp only[G,s5];generalize ak j Z=b;cases b<;>first|rfl|(rename_i v;cases v<;>rfl)
def qm (a:R) (d h:Option R):Option R:=
 match a with
 | .v (.string b)=>match cG d 0,cG h b.size with
  |some a,some c=>if 0<=a/\a<=c/\c<=b.size then some (.v (.string (b.extract a.toNat c.toNat)))else none
  | _,_=>none
 | _=>none
def wO (a:List UInt8) (b c:Nat):(⟨a.toArray⟩:ByteArray).extract b c=⟨((a.take c).drop b).toArray⟩:=by apply ByteArray.ext;simp only[ByteArray.data_extract];simp[a6a]
def Vh (a:0<=b1) (b:b1<=B.length):qm (.v (.string ⟨B.toArray⟩)) (some (.v (.int e2 b1))) none=some (.v (.string ⟨(B.drop b1.toNat).toArray⟩)):=by simp[qm,cG,intOf,nY,a,b,wO]
def Vi (a:0<=b1) (b:b1<=B.length):qm (.v (.string ⟨B.toArray⟩)) none (some (.v (.int e2 b1)))=some (.v (.string ⟨(B.take b1.toNat).toArray⟩)):=by simp[qm,cG,intOf,nY,a,b,wO]
def Vj {b:IntKind}{a:Int} (c:0<=b1) (d:b1<=a) (h:a<=B.length):qm (.v (.string ⟨B.toArray⟩)) (some (.v (.int e2 b1))) (some (.v (.int b a)))=some (.v (.string ⟨((B.take a.toNat).drop b1.toNat).toArray⟩)):=by simp[qm,cG,intOf,nY,c,d,h,wO]
theorem C1 (a:0<=b1) (b:b1<B.length):rZ (.v (.string ⟨B.toArray⟩)) (.v (.int e2 b1))=some (.v (.int .u8 (B.getD b1.toNat 0).toNat)):=by grind[List.getD,rZ]
def C2 (c:Nat) (h:U) (r x:R) (p:R->U->Prop):Prop:=
 match r,x with
 | .bx d off a _ k,.J b _=>k=c/\(∀o∈b,o.cells.length=c)/\match h d with
  |some (.cells cs)=>off+a*c<=cs.length/\p (.v (.int .i64 (min b.length a))) (h.set d (.cells (putAt cs off (flat (b.take a)))))
  | _=>False
 | .an d a _ k,.J b _=>k=c/\(∀o∈b,o.cells.length=c)/\match h d with
  |some (.cells cs)=>a*c<=cs.length/\p (.v (.int .i64 (min b.length a))) (h.set d (.cells (putAt cs 0 (flat (b.take a)))))
  | _=>False
 | _,_=>False
def Vk:G K (.mC e Z e9) j f s=C2 e f (ak j Z) (ak j e9) (bO s ()):=rfl
def C3 {a:cB s} (b:aT e g) (c:f v=some (.cells A)) (d:O+i*e<=A.length)
  (h:s (.v (.int .i64 (min g.length i))) (f.set v (.cells (putAt A O (flat (g.take i)))))):C2 e f (.bx v O i b9 e) (.J g M) (bO s a):=by
 refine⟨rfl,b,?_⟩;rw[c];trivial
def tK (c b:Nat) (k:U) (a:R) (o p:Option R):Option R:=
 match a with
 | .ptr h off=>match cG o 0,cG p b with
  |some a,some d=>match k.read h with
   |some cs=>if 0<=a/\a<=d/\d<=b/\off+b*c<=cs.length/\a<b then some (.bx h (off+a.toNat*c) (d.toNat - a.toNat) (b - a.toNat) c)else none
   |none=>none
  | _,_=>none
 | _=>none
def wP (a:f.read v=some g) (b:O+e*i<=g.length) (c:0<e):tK i e f (.ptr v O) none none=some (.bx v O e e i):=by simp[tK,cG,a,b,c]
theorem Vl {a b:Option Operand}:G K (.ki i e Z a b false) j f s=dC (tK i e f (ak j Z) (a.map (ak j)) (b.map (ak j))) (bZ (λc=>s c f) ()):=by
 simp only[G,tK,wI];generalize ak j Z=d;generalize a.map (ak j)=h;generalize b.map (ak j)=k;cases d<;>try rfl
 rename_i o y;simp only[];generalize cG h 0=p;generalize cG k e=r;generalize f.read o=x;cases p<;>cases r<;>cases x<;>first
  |rfl
  |(simp[dC];done)
  |(
    simp only[ks,jE,a5L,if_false];grind)
def nZ (d:Nat) (b:U) (a:List R) (h:R->U->Prop):Prop:=
 (∀k∈a,k.cells.length=d)/\(if a.length=0 then h (.J [] .zero) b else∀c,b c=none->h (.an c a.length a.length d) (b.set c (.cells (flat a))))
def Vm {a:List Operand}:G K (.kk e a) j f s=nZ e f (a.map (ak j)) (bO s ()):=by simp only[G,nZ,bO,a4T]
def o0 {a:cB s}:nZ e f [] (bO s a)=s (.J [] .zero) f:=by simp[nZ,bO]
def eP {b:cB s} (c:aT e g) (d:g≠ []) (h: ∀a,f a=none->s (.an a g.length g.length e) (f.set a (.cells (flat g)))):nZ e f g (bO s b):=by refine⟨c,?_⟩;rw[if_neg (λk=>d (a4N k))];exact h
def C4 (d h:Nat) (k:List R) (c:U) (o p:R) (r:R->U->Prop):Prop:=
 match o,p with
 | .v (.int _ a),.v (.int _ x)=>a=x/\0<=a/\a<=9223372036854775807/\a*h<=281474976710656/\ ∀b,c b=none->r (.an b a.toNat a.toNat d) (c.set b (.cells (List.replicate a.toNat k).flatten))
 | _,_=>False
def Vn:G K (.kj e i g Z e9) j f s=C4 e i g f (ak j Z) (ak j e9) (bO s ()):=rfl
theorem wQ {b:IntKind}{c:cB s} (d:e*v<=281474976710656) (h:e<=9223372036854775807) (k: ∀a,f a=none->s (.an a e e i) (f.set a (.cells (List.replicate e g).flatten))):
  C4 i v g f (.v (.int e2 (e:Int))) (.v (.int b (e:Int))) (bO s c):=⟨rfl,a9k,a9k,a9k,λa o=>by
 grind[bO,Int.toNat_natCast]⟩
def jJ (c z:Nat) (d:U) (E F:R) (x:R->U->Prop):Prop:=
  match mL d c F with
  |some (b,y)=>match E with
    | .J xs D=>xs= []/\(D= .nil\/D= .zero)/\b*z<=140737488355328/\b<=9223372036854775807/\
      (if b=0 then x (.J [] D) d else∀h k p,d h=none->b<=k->k<=maxLen->p.length=(k - b)*c->x (.an h b k c) (d.set h (.cells (y++p))))
    | .an r a k C=>match d r with
      |some (.cells cs)=>C=c/\cs.length=k*c/\(a+b)*z<=140737488355328/\a+b<=9223372036854775807/\
        (if a+b<=k then x (.an r (a+b) k c) (d.set r (.cells (putAt cs (a*c) y)))
         else∀h o p,d h=none->a+b<=o->o<=maxLen->p.length=(o -(a+b))*c->x (.an h (a+b) o c) (d.set h (.cells (cs.take (a*c)++y++p))))
      |some (.fT cs)=>C=c/\cs.length=k*c/\(a+b)*z<=140737488355328/\a+b<=9223372036854775807/\
        (if a+b<=k then x (.an r (a+b) k c) (d.set r (.fT (putAt cs (a*c) y)))
         else∀h o p,d h=none->a+b<=o->o<=maxLen->p.length=(o -(a+b))*c->x (.an h (a+b) o c) (d.set h (.cells (cs.take (a*c)++y++p))))
      | _=>False
    | .bx r off a k C=>match d r with
      |some (.cells cs)=>C=c/\off+k*c<=cs.length/\(a+b)*z<=140737488355328/\a+b<=9223372036854775807/\
        (if a+b<=k then x (.bx r off (a+b) k c) (d.set r (.cells (putAt cs (off+a*c) y)))
         else∀h o p,d h=none->a+b<=o->o<=maxLen->p.length=(o -(a+b))*c->x (.an h (a+b) o c) (d.set h (.cells ((cs.drop off).take (a*c)++y++p))))
      | _=>False
    | _=>False
  |none=>False
def Vo:G K (.lJ e i Z e9) j f s=jJ e i f (ak j Z) (ak j e9) (bO s ()):=rfl
def ar (p r:U) (a:Nat) (d:List R) (h:R):Prop:=
 p.sub r/\((d= []/\(h= .J [] .nil\/h= .J [] .zero))\/ ∃k b c o,h= .an k b c a/\p k=none/\r k=some (.cells o)/\o.length=c*a/\o.take (b*a)=d/\d.length=b*a/\b<=c/\c<=maxLen)
theorem ar.nil {a b:U}{c:Nat} (d:a.sub b):ar a b c [] (.J [] .nil):=⟨d,.inl ⟨rfl,.inl rfl⟩⟩
def ar.zero {a b:U}{c:Nat} (d:a.sub b):ar a b c [] (.J [] .zero):=⟨d,.inl ⟨rfl,.inr rfl⟩⟩
def ar.mono {a:R} (d:ar f t e g a) (c:t.sub e4):ar f e4 e g a:=by
 obtain⟨h,b⟩:=d;refine⟨U.au h c,?_⟩;rcases b with b|⟨k,o,p,r,x,y,z,C⟩
 .exact .inl b
 .exact .inr ⟨k,o,p,r,x,y,c _ _ z,C⟩
theorem ar.base (c:ar f e4 e g n) (b:t.sub f):ar t e4 e g n:=by
 obtain⟨d,a⟩:=c;refine⟨U.au b d,?_⟩;rcases a with a|⟨h,k,o,p,r,x,y⟩
 .exact .inl a
 .exact .inr ⟨h,k,o,p,r,U.bF b x,y⟩
def ar.new {ob:br} (h:ar t f i g n) (k:f e=none):ar (t.set e ob) (f.set e ob) i g n:=by
 obtain⟨o,a⟩:=h;refine⟨U.kZ o,?_⟩;rcases a with a|⟨c,p,r,x,y,z,b,C⟩
 .exact .inl a
 .have d:c≠e:=by rintro rfl;rw[k]at b;cases b
  exact .inr ⟨c,p,r,x,y,by rw[U.ao _ _ d];exact z,by rw[U.ao _ _ d];exact b,C⟩
theorem ar.src (b:ar t f e g n): ∃a,g.length=a*e/\bN f e n=some (a,g)/\fb n=some (.v (.int .i64 a)):=by
 obtain⟨h,c⟩:=b;rcases c with ⟨rfl,rfl|rfl⟩|⟨k,a,o,p,rfl,r,x,y,z,d,C,D⟩
 .exact⟨0,a9l,rfl,rfl⟩
 .exact⟨0,a9l,rfl,rfl⟩
 .refine⟨a,d,?_,rfl⟩;simp_all [a4W,bN,U.af]
theorem ff {l:cB s} (m:ar t f e A n) (G:0<e) (q:bN f e b3=some (i,g)) (h:g.length=i*e) (u:(A.length+g.length)*v<=140737488355328*e) (w:A.length+g.length<=9223372036854775807)
  (r: ∀L P,ar t P e (A++g) L->s L P):jJ e v f n b3 (bO s l):=by
 obtain⟨b,B⟩:=m;unfold jJ;rw[vM q];simp only[bO];have db: ∀a,A.length=a*e->(a+i)*v<=140737488355328/\a+i<=9223372036854775807:=by
  intro a H;have x:A.length+g.length=(a+i)*e:=by rw[H,h,a5Q]
  rw[x]at u w;constructor
  .have:(a+i)*v*e<=140737488355328*e:=by grind
   exact Nat.le_of_mul_le_mul_right this G
  .have:(a+i)*1<=(a+i)*e:=a9a _ G;omega
 rcases B with ⟨rfl,Y⟩|⟨I,a,c,y,rfl,S,K,z,T,V,Z,M⟩
 .obtain⟨C,W⟩:=db 0 a9l;have j9: ∀k,(k= .nil\/k= .zero)->(([]:List R)= []/\(k= .nil\/k= .zero)/\i*v<=140737488355328/\i<=9223372036854775807/\
   (if i=0 then s (.J [] k) f else∀d c o,f d=none->i<=c->c<=maxLen->o.length=(c - i)*e->s (.an d i c e) (f.set d (.cells (g++o))))):=by
   intro k N;refine⟨rfl,N,by simpa using C,a9k,?_⟩;split
   .rename_i hm;subst hm;have:g= []:=a4N (by simpa using h);subst this;refine r _ _ ⟨b,.inl ⟨rfl,?_⟩⟩;simp_all
   .intro d c o p D E F;refine r _ _ ⟨U.ae b (U.bF b p),.inr ⟨d,i,c,g++o,rfl,U.bF b p,U.ah _ _ _,?_,?_,by trivial,D,E⟩⟩
    .rw[a4J,h,F,<-a5Q];congr 1;omega
    .rw[<-h,a7q];rfl
  grind
 .obtain⟨C,W⟩:=db a V;simp only[K];refine⟨trivial,z,C,W,?_⟩;have O:(y.take (a*e)).length=a*e:=by rw[T,V]
  split
  .rename_i j;have Q:a*e+g.length<=y.length:=by rw[h,z,<-a5Q];exact a4W _ j
   refine r _ _ ⟨U.ae b S,.inr ⟨I,a+i,c,_,rfl,S,U.ah _ _ _,?_,?_,by grind,j,M⟩⟩
   .rw[eH _ _ _ Q,z]
   .have x:(a+i)*e=(y.take (a*e)++g).length:=by grind
    rw[putAt,x,a7q,T]
  .intro d X o p D E F;refine r _ _ ⟨U.ae b (U.bF b p),.inr ⟨d,a+i,X,_,rfl,U.bF b p,U.ah _ _ _,?_,?_,by grind,D,E⟩⟩
   .rw[a4J,a4J,O,h,F,<-a5Q,<-a5Q];congr 1;omega
   .have x:(a+i)*e=(y.take (a*e)++g).length:=by grind
    grind
theorem C5:bN f 1 (.J (B.map al) M)=some (B.length,B.map al):=by grind[al,decide,R.cells,bN,rB]
def wR (a:U) (b:R):Option R:=
 match bN a 1 b with
 |some (_,xs)=>match bytesOf xs with
  |some c=>some (.v (.string ⟨c.toArray⟩))
  |none=>none
 |none=>none
def Vp (a:bN f 1 n=some (e,B.map al)):wR f n=some (.v (.string ⟨B.toArray⟩)):=by simp[wR,a,ry]
def tL (a:R):Option R:=
 match a with
 | .v (.string b)=>some (.J (b.data.toList.map al) .any)
 | _=>none
def Vq:tL (.v (.string ⟨B.toArray⟩))=some (.J (B.map al) .any):=by rfl
def Vr:G K (.q4 Z) j f s=dC (tL (ak j Z)) (bZ (λa=>s a f) ()):=by simp only[G,tL];generalize ak j Z=b;cases b<;>first|rfl|(rename_i v;cases v<;>rfl)
theorem aY.frozen {v:Value} (h:Holds u f l) (k:f O=some (.ro g)) (o:e*i<=g.length) (p:aY u v (.an O e b9 i)):aY u v (.J (ef i e g) .any):=by
 obtain⟨r,x,T,L,P,c,S⟩:=h.dN O _ k;have V:=c.1;cases p with
 |an O e b9 i hk y=>
  obtain⟨z,C,d⟩:=vU hk o r;by_cases D:e=0
  .subst D;have:=a4N d;rw[this];exact .dh _ _ _ (λE=>by cases E) trivial
  .refine .J O 0 e b9 i (λa=>x.getD a Go.undef) _ .any hk d.symm y z ?_ ?_ ?_ trivial;grind;grind
   .intro a F b;rw[C]at b;have G:a<e*i:=by grind
    rw[a5H G]at b;exact c.2 a F b
end
def s6:=
 a4F @Vm<|
 a4F @Vo<|
 a4F @Vn<|
 a4F @Vr<|
 a4F @Vc<|
 a4F @Vf<|
 a4F @Vg<|
 a4F @Vk<|
 a4F @Vl<|
 a4F @Va<|
 @Vb
def s7:=
 a4F @Vq<|
 a4F @jH<|
 a4F @TL<|
 a4F @US<|
 a4F @C0<|
 a4F @Vd<|
 a4F @Ve<|
 a4F @wN<|
 a4F @Vh<|
 a4F @Vi<|
 a4F @Vj<|
 a4F @wP<|
 a4F @BZ<|
 a4F @BY<|
 a4F @C1<|
 a4F @ite_true.{1}<|
 a4F @ite_false.{1}<|
 a4F @a5C<|
 a4F @a5B<|
 a4F @a7r<|
 a4F @Bool.true_xor<|
 a4F @a6f<|
 a4F @a6Y<|
 a4F @decide_true<|
 @decide_false
section
def Vs {a b:List Operand}:G K (.bG b5 a b) j f s=mS (.bG b5 (a.map (ak j)) (b.map (ak j))) (bZ (λc=>s c f) ()):=rfl
def wS (a:Ctx) (b:R) (c:List R) (d:U) (h:R->U->Prop):Prop:=
 match b with
 | .bG fn cz cs=>gf a.p fn=true/\hE a.p fn (cz++c++cs) d h (up a.k)
 | _=>False
def Vt {a:List Operand}:G K (.iO Z a) j f s=wS K (ak j Z) (a.map (ak j)) f (bO s ()):=rfl
def fE {c:cB s} (d:gf K.p b5=true) (h:AC K.p b5 (g++e1++A) f a7) (k: ∀a b,a7 a b->s a b):wS K (.bG b5 g A) e1 f (bO s c):=⟨d,(h.mono k).p⟩
def Vu:G K (.q5 b2 Z) j f s=mS (.iface b2 (ak j Z)) (bZ (λa=>s a f) ()):=rfl
def p3 (d:TypeId) (a:Bool) (b:R) (h:R):Option R:=
 match h with
 | .iface k c=>if k=d then some (if a then .aL [c,.v (.bool true)]else c)else if a=true then some (.aL [b,.v (.bool false)])else none
 | .v .nilIface=>if a=true then some (.aL [b,.v (.bool false)])else none
 | _=>none
def Vv:p3 b2 true b3 (.iface b2 n)=some (.aL [n,.v (.bool true)]):=by simp[p3]
def Vw {a:TypeId} (b:a≠b2):p3 b2 true n (.iface a b3)=some (.aL [n,.v (.bool false)]):=by simp[p3,b]
def Vx:p3 b2 true n (.v .nilIface)=some (.aL [n,.v (.bool false)]):=by rfl
def Vy:p3 b2 false b3 (.iface b2 n)=some n:=by simp[p3]
def C6 (a:Bool) (b:R):Option R:=
 match b with
 | .iface _ _=>some (.v (.bool a))
 | .v .nilIface=>some (.v (.bool (!a)))
 | _=>none
def Vz:C6 I (.iface b2 n)=some (.v (.bool I)):=rfl
def VA:C6 I (.v .nilIface)=some (.v (.bool (!I))):=rfl
def C7 (a:Bool) (b:R):Option R:=
 match b with
 | .bG _ _ _=>some (.v (.bool a))
 | .v .nilFunc=>some (.v (.bool (!a)))
 | _=>none
def VB:C7 I (.bG e g A)=some (.v (.bool I)):=rfl
def VC:C7 I (.v .nilFunc)=some (.v (.bool (!I))):=rfl
def VD (a:Ctx) (b:R) (c:U):Prop:=
 match b with
 | .iface d h=>up a.k (.iface d h) c
 | _=>False
def VE:G K (.mE Z) j f s=VD K (ak j Z) f:=rfl
def wT (b:R) (c:U) (d:Nat->ByteArray->Prop):Prop:=
 match b with
 | .v (.string h)=> ∀a,c a=none->d a h
 | _=>False
def VF:G K (.kl Z) j f s=wT (ak j Z) f (bO (λa b=>s (.ptr a 0) (f.set a (.it b 0))) ()):=rfl
def C8 {a:Nat->ByteArray->Prop}{b:cB a}:wT (.v (.string ⟨B.toArray⟩)) f (bO a b)=iV f (bZ (λc=>a c ⟨B.toArray⟩) ()):=rfl
def wU (h:R) (b:U) (c:R->U->Prop):Prop:=
 match h with
 | .ptr d off=>off=0/\match b d with
  |some (.it a pos)=>if pos<a.size then c (.aL [.v (.bool true),.v (.int .i64 pos),.v (.int .i32 (Utf8.decode a pos).1)]) (b.set d (.it a (pos+(Utf8.decode a pos).2)))else c (.aL [.v (.bool false)]) b
  | _=>False
 | _=>False
def VG:G K (.mF Z) j f s=wU (ak j Z) f (bO s ()):=rfl
def VH {a:cB s} (b:f i=some (.it ⟨B.toArray⟩ e)) (c:e<B.length)
  (d:s (.aL [.v (.bool true),.v (.int .i64 e),.v (.int .i32 (Utf8.decode ⟨B.toArray⟩ e).1)]) (f.set i (.it ⟨B.toArray⟩ (e+(Utf8.decode ⟨B.toArray⟩ e).2)))):wU (.ptr i 0) f (bO s a):=by
 refine⟨rfl,?_⟩;rw[b];simp only[nY,if_pos c];exact d
def VI {a:cB s} (b:f e=some (.it ⟨B.toArray⟩ i)) (c: ¬i<B.length) (d:s (.aL [.v (.bool false)]) f):wU (.ptr e 0) f (bO s a):=by refine⟨rfl,?_⟩;rw[b];simp only[nY,if_neg c];exact d
def wV (a:R):Option R:=
 match a with
 | .J [] .nil=>some (.v (.pointer none))
 | .an b _ cap _=>if 0<cap then some (.ptr b 0)else none
 | _=>none
def VJ:wV (.J [] .nil)=some (.v (.pointer none)):=rfl
def VK (a:0<i):wV (.an e v i O)=some (.ptr e 0):=by simp[wV,a]
def VL:bS K .refuse e8 j f=False:=rfl
def U.VM:(f.set e (.oM b2 g)).read e=some g:=by simp[U.read,U.set]
def VN:(R.bG e g A).cells= [.bG e g A]:=rfl
def VO:rS (.bG e g A)=some (.bG e g A):=rfl
def s8 (a:Bool) (b:U) (h k:R):Option R:=
 match h,k with
  | .ptr _ _,.v (.pointer none)=>some (.v (.bool a))
  | .v (.pointer none),.ptr _ _=>some (.v (.bool a))
  | .v (.pointer none),.v (.pointer none)=>some (.v (.bool (!a)))
  | .ptr c o,.ptr d p=>if vN b c=true/\vN b d=true then some (.v (.bool (xor a (decide (c=d/\o=p)))))else none
  | _,_=>none
def VP (a:vN f e=true):s8 I f (.ptr e i) (.ptr e i)=some (.v (.bool (!I))):=by simp[s8,a]
def VQ:s8 I f (.ptr e i) (.v (.pointer none))=some (.v (.bool I)):=rfl
def VR:s8 I f (.v (.pointer none)) (.ptr e i)=some (.v (.bool I)):=rfl
def VS:s8 I f (.v (.pointer none)) (.v (.pointer none))=some (.v (.bool (!I))):=rfl
end
def VT:(true==true)=true:=rfl
def VU:(true==false)=false:=rfl
def VV:(false==true)=false:=rfl
def VW:(false==false)=true:=rfl
def C9:=
 a4F @Vs<|
 a4F @Vt<|
 a4F @Vu<|
 a4F @VE<|
 a4F @VF<|
 a4F @VG<|
 @VL
def Ca:=
 a4F @VT<|
 a4F @VU<|
 a4F @VV<|
 a4F @VW<|
 a4F @Vv<|
 a4F @Vw<|
 a4F @Vx<|
 a4F @Vy<|
 a4F @Vz<|
 a4F @VA<|
 a4F @VB<|
 a4F @VC<|
 a4F @C8<|
 a4F @VJ<|
 a4F @VK<|
 a4F @U.VM<|
 a4F @VN<|
 a4F @VO<|
 a4F @VP<|
 a4F @VQ<|
 a4F @VR<|
 @VS
noncomputable def jK (b:R->Option R) (c v:R):R->Option R:=λa=> @ite _ (a=c) (Classical.propDecidable _) (some v) (b a)
def tM {a:R->Option R}{v:R}:jK a n v n=some v:=by simp[jK]
def qn {a:R->Option R}{v:R} (b:n≠b3):jK a b3 v n=a n:=by simp[jK,b]
def wW (b:R): ∀(a:List (R×R×Nat)) (c:Nat),dB a b c=(dB a b 0).map λd=>(d.1+c,d.2)
 | [],_=>rfl
 |h::a,c=>by
  unfold dB;split
  .simp
  .rw[wW b a (c+1),wW b a (0+1)];cases dB a b 0<;>simp[a8t,Nat.add_left_comm,a8j]
theorem la (b:R×R×Nat) (d:List (R×R×Nat)) (a:R):dB (b::d) a 0= @ite _ (a=b.1) (Classical.propDecidable _) (some (0,b.2.1)) ((dB d a 0).map λh=>(h.1+1,h.2)):=by
 conv=>lhs;unfold dB
 rw[wW a d (0+1)];by_cases c:a=b.1
 .rw[if_pos ((ru _ _).2 c),if_pos c]
 .rw[if_neg (λk=>c ((ru _ _).1 k)),if_neg c]
theorem Cb (b v:R) (o:Nat) (a:R): ∀c:List (R×R×Nat),dB c b 0=none->(dB (c++ [(b,v,o)]) a 0).map (·.2)=jK (λa=>(dB c a 0).map (·.2)) b v a
 | [],_=>by
  grind[la,jK,dB]
 |p::c,h=>by
  rw[la]at h;split at h
  .cases h
  .next r=>
   have x:dB c b 0=none:=by simp_all
   have ih:=Cb b v o a c x;rw[a5V,la];by_cases d:a=p.1
   .have k:a≠b:=λy=>r (by rw[<-y];exact d);rw[if_pos d,qn k];rw[la,if_pos d]
   .rw[if_neg d];by_cases k:a=b;simp_all [tM]
    .rw[qn k]at ih|-;rw[la,if_neg d,a8f,a8f];exact ih
theorem Cc (c v k:R) (b:R): ∀(d:List (R×R×Nat)) (o:Nat),dB d c 0=some (o,v)->(dB (d.modify o λh=>(h.1,k,h.2.2)) b 0).map (·.2)=jK (λb=>(dB d b 0).map (·.2)) c k b
 | [],_,a=>by trivial
 |h::d,o,a=>by
  rw[la]at a;split at a
  .next p=>
   simp only[a4S,a5R]at a;obtain⟨rfl,_⟩:=a;rw[a8M,la];by_cases a:b=c
   .subst a;rw[tM];simp[p]
   simp_all [qn,la]
  .next p=>
   cases r:dB d c 0 with
   |none=>rw[r]at a;cases a
   |some y=>
    rw[r]at a;simp only[a5I,a4S,a5R]at a;obtain⟨rfl,rfl⟩:=a;have ih:=Cc c y.2 k b d y.1 r;rw[a8N,la];by_cases a:b=h.1
    .have x:b≠c:=λz=>p (by rw[<-z];exact a);rw[if_pos a,qn x];rw[la,if_pos a]
    .rw[if_neg a];by_cases x:b=c;simp_all [tM]
     .rw[qn x]at ih|-;rw[la,if_neg a,a8f,a8f];exact ih
structure lb (rs:List (Nat×c8)) (us:List (R×R×Nat)) (a:Nat) (b:R->Option R):Prop where
 val: ∀k,(dB us k 0).map (·.2)=b k
 keys:rv rs us
 born:(us.map (·.2.2)).Nodup
 lt: ∀c∈us,c.2.2<a
def lb.new:lb j4 [] 0 λ_=>none:=⟨λ_=>rfl,λb a=>by simp at a,a9l,λb a=>by simp at a⟩
theorem VX (a:List (R×R×Nat)) (c:Nat) (v:R):(a.modify c λb=>(b.1,v,b.2.2)).map (·.2.2)=a.map (·.2.2):=by
 induction a generalizing c with
 |nil=>simp
 |cons b a ih=>grind
theorem mem_modify {b:List (R×R×Nat)}{v:R}{a:R×R×Nat} (d:a∈b.modify e λa=>(a.1,v,a.2.2)): ∃c∈b,a.1=c.1/\a.2.2=c.2.2:=by
 induction b generalizing e with
 |nil=>simp at d
 |cons c b ih=>grind
theorem lb.set {a:List (R×R×Nat)}{p:R->Option R} (b:lb j4 a i p) {v:R} (r:dB a n 0=some (e,v)):lb j4 (a.modify e λc=>(c.1,b3,c.2.2)) i (jK p n b3) where
 val:=λx=>by
  rw[Cc n v b3 x a e r];simp only[jK];rw[b.val]
 keys:=λc d=>by
  obtain⟨h,k,o,_⟩:=mem_modify d;rw[o];exact b.keys h k
 born:=by rw[VX];exact b.born
 lt:=λc d=>by
  obtain⟨h,k,_,o⟩:=mem_modify d;rw[o];exact b.lt h k
theorem lb.push {d:List (R×R×Nat)}{h:R->Option R} (b:lb j4 d e h) {v:R} (x:dz j4 g) (o:dB d (.agg g) 0=none):lb j4 (d++ [(.agg g,v,e)]) (e+1) (jK h (.agg g) v) where
 val:=λp=>by
  rw[Cb _ v e p d o];simp only[jK];rw[b.val]
 keys:=λc a=>by
  rcases a4X.1 a with a|a
  .exact b.keys c a
  simp_all
 born:=by rw[a5J,List.nodup_append];refine⟨b.born,a9l,?_⟩;intro y r z k;obtain⟨c,a,rfl⟩:=a5c.1 r;simp at k;subst k;exact Nat.ne_of_lt (b.lt c a)
 lt:=λc a=>by
  rcases a4X.1 a with a|a
  .exact Nat.lt_succ_of_lt (b.lt c a)
  simp_all
def qo (c:U) (d:Nat) (h:List (Nat×c8)) (k:R->Option R):Prop:= ∃a b,c d=some (.mp a b)/\lb h a b k
def a4x (h:U) (k:Nat) (o:List (Nat×c8)) (p:R->Option R) (r:R) (x:Nat):Prop:=
 ∃a b,h k=some (.mp a b)/\ ∀v,∃c,Hb a (x:Int)=some c/\lb o (a.modify c λd=>(d.1,v,d.2.2)) b (jK p r v)
section
def VY:G K .km j f s=iV f (bZ (λa=>s (.gQ a) (f.set a (.mp [] 0))) ()):=rfl
def tN (a:Bool) (b:List (Nat×c8)) (c:R) (h:U) (k o:R) (d:R->Prop):Prop:=
 match k,o with
 | .gQ p,.agg cs=>match h p with
  |some (.mp us _)=>dz b cs/\rv b us/\(match dB us (.agg cs) 0 with
   |some (_,v)=>d (if a then .aL [v,.v (.bool true)]else v)
   |none=>d (if a then .aL [c,.v (.bool false)]else c))
  | _=>False
 | _,_=>False
def VZ:G K (.lK I j4 n Z e9) j f s=tN I j4 n f (ak j Z) (ak j e9) (bZ (λa=>s a f) ()):=by simp only[G,tN];generalize ak j Z=b;generalize ak j e9=c;rfl
def Cd {c:R->Option R}{a:R->Prop}{k:cB a} (o:qo f e j4 c) (p:dz j4 g)
  (r: ∀v,c (.agg g)=some v->a (if I then .aL [v,.v (.bool true)]else v)) (x:c (.agg g)=none->a (if I then .aL [n,.v (.bool false)]else n)):tN I j4 n f (.gQ e) (.agg g) (bZ a k):=by
 obtain⟨y,C,z,d⟩:=o;simp only[tN,z];refine⟨p,d.keys,?_⟩;have b:=d.val (.agg g);cases h:dB y (.agg g) 0 with
 |none=>rw[h]at b;exact x b.symm
 |some D=>rw[h]at b;exact r _ b.symm
def tO (a:List (Nat×c8)) (b:U) (d h v:R) (k:U->Prop):Prop:=
 match d,h with
 | .gQ c,.agg cs=>match b c with
  |some (.mp us clock)=>dz a cs/\rv a us/\k (b.set c (.mp (kR us (.agg cs) v clock).1 (kR us (.agg cs) v clock).2))
  | _=>False
 | _,_=>False
def W0 {v:Operand}:G K (.lL j4 Z e9 v) j f s=tO j4 f (ak j Z) (ak j e9) (ak j v) (bZ (λa=>s (.aL []) a) ()):=by simp only[G,tO];generalize ak j Z=b;generalize ak j e9=c;rfl
def W1 {v:R}{c:R->Option R}{a:U->Prop}{o:cB a} (p:qo f e j4 c) (d:dz j4 g)
  (r: ∀h,qo (f.set e h) e j4 (jK c (.agg g) v)->a (f.set e h)):tO j4 f (.gQ e) (.agg g) v (bZ a o):=by
 obtain⟨x,z,y,b⟩:=p;simp only[tO,y];refine⟨d,b.keys,r _ ⟨_,_,U.ah _ _ _,?_⟩⟩;unfold kR;cases k:dB x (.agg g) 0 with
 |none=>exact b.push d k
 |some C=>exact b.set k
end
theorem wX {a b:List UInt8}:iW .neq (bb a) (bb b)=some (.v (.bool (!decide (a=b)))):=by grind[bb,rV,BZ]
def qp {a b:List UInt8}:iW .eql (bb a) (bb b)=some (.v (.bool (decide (a=b)))):=by simp only[bb,rV,BY a b];rfl
def W2:wR f (.J (B.map al) M)=some (bb B):=Vp C5
def p4 {a:List UInt8}{b:Own}:mU (.J (a.map al) b)=some (bb a):=C0
def mV (k:(∀a,R.J a .nil∈g->a= [])->AC m b5 g f s):AC m b5 g f s:=λb o p c r=>by
 refine k (λa x=> ?_) b o p c r;obtain⟨d,y,z⟩:=a5t x;have h:=c.2 d _ (by rw[a4H y,z]);generalize b.getD d undef=v at h;cases h with
 |dh=>rfl
 |J C off len cap D E a F hk hlen G L P hH S T=>trivial
def W3:=
 a4F @VY<|
 a4F @VZ<|
 @W0
def W4:=
 a4F @wX<|
 a4F @qp<|
 a4F @W2<|
 @p4
def qq:=a4F s3 (a4F s6 (a4F C9 W3))
def W5:=a4F s4<|a4F fX<|a4F s7<|a4F Ca W4
attribute [go_sem ↓] qq
attribute [go_sem] W5 a6m ne_eq not_true_eq_false not_false_eq_true a6r a6E ak ofConst cU
def aj (a:N) (b:h2) (c:N->b4=h2:=by intro d;simp -dsimp -implicitDefEqProofs (disch:=first|omega|assumption|(simp only[bk,Nat.reduceAdd];try omega)) only[go_sem,simprocAttr,-List.reduceReplicate,d];rfl):b4:=(c a).mpr b
def bT (a:b4) (b:N=b4:=by simp -dsimp -implicitDefEqProofs (disch:=first|omega|assumption|(simp only[bk,Nat.reduceAdd];try omega)) only[go_sem,simprocAttr,-List.reduceReplicate];rfl):N:=b.mpr a
def aE (a:N) (b:h2) (c:N->b4=h2:=by intro d;simp -dsimp -implicitDefEqProofs (disch:=first|omega|assumption|(simp only[bk,Nat.reduceAdd];try omega)) only[go_sem,simprocAttr,d];rfl):b4:=(c a).mpr b
def eB (a:b4) (b:N=b4:=by simp -dsimp -implicitDefEqProofs (disch:=first|omega|assumption|(simp only[bk,Nat.reduceAdd];try omega)) only[go_sem,simprocAttr];rfl):N:=b.mpr a
def cp (a:N) (b:N->b4=True:=by intro c;simp -dsimp -implicitDefEqProofs (disch:=first|omega|assumption|(simp only[bk,Nat.reduceAdd];try omega)) only[go_sem,simprocAttr,-List.reduceReplicate,c]):b4:=of_eq_true (b a)
def mW (a:N=True:=by simp -dsimp -implicitDefEqProofs (disch:=first|omega|assumption|(simp only[bk,Nat.reduceAdd];try omega)) only[go_sem,simprocAttr,-List.reduceReplicate]):N:=of_eq_true a
def gT (a:N) (b:N->b4=True:=by intro c;simp -dsimp -implicitDefEqProofs (disch:=first|omega|assumption|(simp only[bk,Nat.reduceAdd];try omega)) only[go_sem,simprocAttr,c]):b4:=of_eq_true (b a)
def qs (a:N=True:=by simp -dsimp -implicitDefEqProofs (disch:=first|omega|assumption|(simp only[bk,Nat.reduceAdd];try omega)) only[go_sem,simprocAttr]):N:=of_eq_true a
def c2 (a:N) (b:b4):N/\b4:=⟨a,b⟩
def aH (a:N) (b:b4) (c:h2):N/\b4/\h2:=⟨a,b,c⟩
def aJ (a:N) (b:b4) (c:h2) (d:h9):N/\b4/\h2/\h9:=⟨a,b,c,d⟩
def bm (a:N) (b:b4) (c:h2) (d:h9) (h:j2):N/\b4/\h2/\h9/\j2:=⟨a,b,c,d,h⟩
def bs {a:Prop} (b:N) (c:b4) (d:h2) (h:h9) (k:j2) (o:a):N/\b4/\h2/\h9/\j2/\a:=⟨b,c,d,h,k,o⟩
def c6 {a b:Prop} (c:N) (d:b4) (h:h2) (k:h9) (o:j2) (p:a) (r:b):N/\b4/\h2/\h9/\j2/\a/\b:=⟨c,d,h,k,o,p,r⟩
def bt {a b c:Prop} (d:N) (h:b4) (k:h2) (o:h9) (p:j2) (r:a) (x:b) (y:c):N/\b4/\h2/\h9/\j2/\a/\b/\c:=⟨d,h,k,o,p,r,x,y⟩
def cW {a b c d:Prop} (h:N) (k:b4) (o:h2) (p:h9) (r:j2) (x:a) (y:b) (z:c) (C:d):N/\b4/\h2/\h9/\j2/\a/\b/\c/\d:=⟨h,k,o,p,r,x,y,z,C⟩
def cf {a b c d h:Prop} (k:N) (o:b4) (p:h2) (r:h9) (x:j2) (y:a) (z:b) (C:c) (D:d) (E:h):N/\b4/\h2/\h9/\j2/\a/\b/\c/\d/\h:=⟨k,o,p,r,x,y,z,C,D,E⟩
def gj {a b c d h k:Prop} (o:N) (p:b4) (r:h2) (x:h9) (y:j2) (z:a) (C:b) (D:c) (E:d) (F:h) (G:k):N/\b4/\h2/\h9/\j2/\a/\b/\c/\d/\h/\k:=⟨o,p,r,x,y,z,C,D,E,F,G⟩
def gU {a b c d h k o:Prop} (p:N) (r:b4) (x:h2) (y:h9) (z:j2) (C:a) (D:b) (E:c) (F:d) (G:h) (L:k) (P:o):N/\b4/\h2/\h9/\j2/\a/\b/\c/\d/\h/\k/\o:=⟨p,r,x,y,z,C,D,E,F,G,L,P⟩
def lf {a b c d h k o p:Prop} (r:N) (x:b4) (y:h2) (z:h9) (C:j2) (D:a) (E:b) (F:c) (G:d) (L:h) (P:k) (S:o) (T:p):N/\b4/\h2/\h9/\j2/\a/\b/\c/\d/\h/\k/\o/\p:=⟨r,x,y,z,C,D,E,F,G,L,P,S,T⟩
def ft {a b c d h k o p r:Prop} (x:N) (y:b4) (z:h2) (C:h9) (D:j2) (E:a) (F:b) (G:c) (L:d) (P:h) (S:k) (T:o) (V:p) (W:r):N/\b4/\h2/\h9/\j2/\a/\b/\c/\d/\h/\k/\o/\p/\r:=⟨x,y,z,C,D,E,F,G,L,P,S,T,V,W⟩
def p5 {a b c d h k o p r x:Prop} (y:N) (z:b4) (C:h2) (D:h9) (E:j2) (F:a) (G:b) (L:c) (P:d) (S:h) (T:k) (V:o) (W:p) (e:r) (f:x):N/\b4/\h2/\h9/\j2/\a/\b/\c/\d/\h/\k/\o/\p/\r/\x:=⟨y,z,C,D,E,F,G,L,P,S,T,V,W,e,f⟩
def lW {a b c d h k o p r x y:Prop} (z:N) (C:b4) (D:h2) (E:h9) (F:j2) (G:a) (L:b) (P:c) (S:d) (T:h) (V:k) (W:o) (e:p) (f:r) (g:x) (i:y):N/\b4/\h2/\h9/\j2/\a/\b/\c/\d/\h/\k/\o/\p/\r/\x/\y:=⟨z,C,D,E,F,G,L,P,S,T,V,W,e,f,g,i⟩
def mX {a b c d h k o p r x y z:Prop} (C:N) (D:b4) (E:h2) (F:h9) (G:j2) (L:a) (P:b) (S:c) (T:d) (V:h) (W:k) (e:o) (f:p) (g:r) (i:x) (j:y) (l:z):N/\b4/\h2/\h9/\j2/\a/\b/\c/\d/\h/\k/\o/\p/\r/\x/\y/\z:=⟨C,D,E,F,G,L,P,S,T,V,W,e,f,g,i,j,l⟩
def wY {a b c d h k o p r x y z C:Prop} (D:N) (E:b4) (F:h2) (G:h9) (L:j2) (P:a) (S:b) (T:c) (V:d) (W:h) (e:k) (f:o) (g:p) (i:r) (j:x) (l:y) (m:z) (n:C):N/\b4/\h2/\h9/\j2/\a/\b/\c/\d/\h/\k/\o/\p/\r/\x/\y/\z/\C:=⟨D,E,F,G,L,P,S,T,V,W,e,f,g,i,j,l,m,n⟩
def Ce {a b c d h k o p r x y z C D:Prop} (E:N) (F:b4) (G:h2) (L:h9) (P:j2) (S:a) (T:b) (V:c) (W:d) (e:h) (f:k) (g:o) (i:p) (j:r) (l:x) (m:y) (n:z) (q:C) (s:D):N/\b4/\h2/\h9/\j2/\a/\b/\c/\d/\h/\k/\o/\p/\r/\x/\y/\z/\C/\D:=⟨E,F,G,L,P,S,T,V,W,e,f,g,i,j,l,m,n,q,s⟩
def o1 {a b c d h k o p r x y z C D E:Prop} (F:N) (G:b4) (L:h2) (P:h9) (S:j2) (T:a) (V:b) (W:c) (e:d) (f:h) (g:k) (i:o) (j:p) (l:r) (m:x) (n:y) (q:z) (s:C) (t:D) (u:E):N/\b4/\h2/\h9/\j2/\a/\b/\c/\d/\h/\k/\o/\p/\r/\x/\y/\z/\C/\D/\E:=⟨F,G,L,P,S,T,V,W,e,f,g,i,j,l,m,n,q,s,t,u⟩
section
def W6:G K (.mG Z) j f s=dC (rz (ak j Z)) (bZ (λa=>s a f) ()):=by simp only[G];rfl
def W7:rz (.an i v e O)=some (.v (.int .i64 e)):=rfl
def W8:rz (.J [] .nil)=some (.v (.int .i64 0)):=rfl
def cg (d:Nat) (x:R) (h k o:Option R):Option R:=
 match x with
 | .an p len cap r=>match cG h 0,cG k len,cG o cap with
  |some a,some c,some b=>if r=d/\0<=a/\a<=c/\c<=b/\b<=cap then
    some (if h.isSome=true then(if a<b then .bx p (a.toNat*d) (c.toNat - a.toNat) (b.toNat - a.toNat) d else .J [] .zero)else .an p c.toNat b.toNat d)
   else none
  | _,_,_=>none
 | .bx p off len cap r=>match cG h 0,cG k len,cG o cap with
  |some a,some c,some b=>if r=d/\0<=a/\a<=c/\c<=b/\b<=cap then
    some (if a<b then .bx p (off+a.toNat*d) (c.toNat - a.toNat) (b.toNat - a.toNat) d else .J [] .zero)
   else none
  | _,_,_=>none
 | .J [] .nil=>match cG h 0,cG k 0,cG o 0 with
  |some a,some c,some b=>if a=0/\c=0/\b=0 then some (.J [] .nil)else none
  | _,_,_=>none
 | .J [] .zero=>match cG h 0,cG k 0,cG o 0 with
  |some a,some c,some b=>if a=0/\c=0/\b=0 then some (.J [] .zero)else none
  | _,_,_=>none
 | _=>none
def W9 {a b c:Option Operand}:rA j e n a b c=cg e n (a.map (ak j)) (b.map (ak j)) (c.map (ak j)):=by simp only[rA,cg,wI,Option.isSome_map];rfl
def Wa {a b c:Option Operand}:G K (.lM e Z a b c) j f s=dC (cg e (ak j Z) (a.map (ak j)) (b.map (ak j)) (c.map (ak j))) (bZ (λd=>s d f) ()):=by simp only[G,W9];rfl
theorem hL (a:v<=i):cg e (.an O b9 i e) none (some (.v (.int e2 (v:Int)))) none=some (.an O v i e):=by grind[cg,cG,intOf]
theorem gk (a:e<=v) (b:v<=O) (c:e<O):cg i (.an b9 v O i) (some (.v (.int e2 (e:Int)))) none none=some (.bx b9 (e*i) (v - e) (O - e) i):=by grind[cg,cG,intOf]
def tP (a:e=v):cg i (.an O e v i) (some (.v (.int e2 (e:Int)))) none none=some (.J [] .zero):=by subst a;simp[cg,cG,intOf]
theorem Cf {a:IntKind} (b:e<=O) (c:O<=v) (d:e<v):cg i (.an b9 j1 v i) (some (.v (.int e2 (e:Int)))) (some (.v (.int a (O:Int)))) none=some (.bx b9 (e*i) (O - e) (v - e) i):=by grind[cg,cG,intOf]
def Wb:cg e (.J [] .zero) (some (.v (.int e2 0))) none none=some (.J [] .zero):=by rfl
def Wc:cg e (.J [] .nil) (some (.v (.int e2 0))) none none=some (.J [] .nil):=by rfl
def wZ:cg e (.J [] .nil) none (some (.v (.int e2 0))) none=some (.J [] .nil):=by rfl
def Cg (a:Option U) (b:U->Prop):Prop:=
 match a with
 |some c=>b c
 |none=>False
def Wd {a:U->Prop}{b:cB a}:Cg (some f) (bZ a b)=a f:=rfl
def Ch (a:Option (R×U)) (b:R->U->Prop):Prop:=
 match a with
 |some (c,d)=>b c d
 |none=>False
def We {a:cB s}:Ch (some (n,f)) (bO s a)=s n f:=rfl
def Wf:G K (.mH e g Z) j f s=Cg (kT e g (ak j Z) f) (bZ (λa=>s (.aL []) a) ()):=by simp only[G];rfl
def Wg:G K (.mI e Z e9) j f s=Ch (lN e (ak j Z) (ak j e9) f) (bO s ()):=by simp only[G];rfl
def Wh:G K (.mK Z e9) j f s=dC (kU (ak j Z) (ak j e9) f) (bZ (λa=>s a f) ()):=by simp only[G];rfl
def x0 (a:f i=some (.cells g)) (b:v+O*e<=g.length):kT e A (.bx i v O b9 e) f=some (f.set i (.cells (putAt g v (List.replicate O A).flatten))):=by simp[kT,a,b]
def Wi:kT e g (.J [] M) f=some f:=rfl
def hn (a:bN f e n=some (b9,A)) (b:f v=some (.cells g)) (c:O+i*e<=g.length):lN e (.bx v O i j1 e) n f=some (.v (.int .i64 (min b9 i:Nat)),f.set v (.cells (putAt g O (A.take (i*e))))):=by simp[lN,a,b,c]
def x1 (a:cO n=some e) (b:cO b3=some i) (c:e≠i) (d:ko f e=true) (h:ko f i=true):kU n b3 f=some (.v (.bool false)):=by simp[kU,a,b,c,d,h]
def qt (a:f e=some (.cells g)) (b:g≠ []):ko f e=true:=by
 cases g with
 |nil=>trivial
 |cons c g=>simp[ko,a]
def s9 (c p:Nat) (r:List R) (k:U) (y z:R) (x:R->U->Prop):Prop:=
 match y,z with
  | .an C d cap D,.v (.int .i64 a)=>match k.read C with
   |some cs=>D=c/\cs.length=cap*c/\0<=a/\cap<d+a.toNat/\(d+a.toNat)*p<=140737488355328/\d+a.toNat<=9223372036854775807/\
    ∀h b o,k h=none->d+a.toNat<=b->b<=maxLen->o.length=(b -(d+a.toNat))*c->x (.an h (d+a.toNat) b c) (k.set h (.cells (cs.take (d*c)++(List.replicate a.toNat r).flatten++o)))
   |none=>False
  | .J xs E,.v (.int .i64 a)=>xs= []/\E= .nil/\0<a/\a.toNat*p<=140737488355328/\a<=9223372036854775807/\
    ∀h b o,k h=none->a.toNat<=b->b<=maxLen->o.length=(b - a.toNat)*c->x (.an h a.toNat b c) (k.set h (.cells ((List.replicate a.toNat r).flatten++o)))
  | _,_=>False
def Wj:G K (.mJ e i g Z e9) j f s=s9 e i g f (ak j Z) (ak j e9) (bO s ()):=rfl
def x2 {d:cB s} (h:f j1=some (.cells g)) (k:g.length=O*v) (o:O<e+i) (p:(e+i)*b9<=140737488355328) (r:e+i<=9223372036854775807)
  (x: ∀b a c,f b=none->e+i<=a->a<=maxLen->c.length=(a -(e+i))*v->s (.an b (e+i) a v) (f.set b (.cells (g.take (e*v)++(List.replicate i A).flatten++c)))):s9 v b9 A f (.an j1 e O v) (.v (.int .i64 (i:Int))) (bO s d):=by
 simp only[s9,U.af h,a5l];exact⟨trivial,k,a9k,o,p,r,x⟩
def Ci {d:cB s} (o:0<e) (h:e*v<=140737488355328) (p:e<=9223372036854775807)
  (k: ∀b a c,f b=none->e<=a->a<=maxLen->c.length=(a - e)*i->s (.an b e a i) (f.set b (.cells ((List.replicate e g).flatten++c)))):s9 i v g f (.J [] .nil) (.v (.int .i64 (e:Int))) (bO s d):=by
 simp only[s9,a5l];exact⟨trivial,trivial,a9k,h,a9k,k⟩
def View (c:U) (h:R) (k:U) (o:R):Prop:= ∀(a:bl) (b:World) (v:Value),Holds a c b->aY a v h-> ∃d,Step a c b d k b/\aY d v o
def AC.view (k:AC m b5 g f s) (o: ∀a b,s a b-> ∃c d,View b a d c/\a7 c d):AC m b5 g f a7:=
 λp r x y z=>(k p r x y z).mono λ_ _ C=>by
  obtain⟨v,a,D,b,E,h,F,G⟩:=C;obtain⟨c,d,L,P⟩:=o a b G;obtain⟨S,T,V⟩:=L D _ v h.holds F;exact⟨v,c,S,d,E,h.trans T,V,P⟩
theorem View.refl {a:U}{b:R}:View a b a b:=λc k v d h=>⟨c,.refl d,h⟩
theorem View.J {s:U}{a:List R}{o:Own}:View s (.J a o) s (.J a .any):=λb E v c d=>by
 refine⟨b,.refl c,?_⟩;cases d with
 |dh h cap dm bW k=>exact .dh h cap .any bW trivial
 |J p off len cap r x a dm hk hlen y z C hH D k=>exact .J p off len cap r x a .any hk hlen y z C hH D trivial
theorem View.an {b:U}{c n cap k:Nat}{a:List R} (h:b c=some (.cells a)) (o:n*k<=a.length):View b (.an c n cap k) (b.set c (.ro a)) (.J (ef k n a) .any):=λy z v p r=>by
 obtain⟨x,d⟩:=Step.freeze p h;exact⟨x,d,aY.frozen d.holds (U.ah _ _ _) o (r.mono d.le)⟩
theorem ku:ef 1 e g=g.take e:=by rfl
theorem Wk (c:i<=v):ef e i (g.take (v*e))=ef e i g:=by
 unfold ef;by_cases hk:e=1;grind
 .simp only[hk,if_false];refine a6l λa b=> ?_;have b:a<i:=by simpa using b
  have d:a*e+e<=v*e:=by have:(a+1)*e<=v*e:=a4W _ a9k;grind
  rw[a6a,a5W,a6p a9k]
theorem View.dQ (o:ar t f e g n): ∃a d,g.length=a*e/\t.sub d/\View f n d (.J (ef e a g) .any):=by
 obtain⟨b,p⟩:=o;rcases p with ⟨rfl,rfl|rfl⟩|⟨h,a,F,r,rfl,x,y,G,z,C,L,P⟩
 .refine⟨0,f,a9l,b,?_⟩;grind[ef,View.J]
 .refine⟨0,f,a9l,b,?_⟩;grind[ef,View.J]
 .refine⟨a,f.set h (.ro r),C,λk D c=> ?_,?_⟩
  .have E:k≠h:=by rintro rfl;rw[x]at c;cases c
   rw[U.ao _ _ E];exact b k D c
  .rw[<-z,Wk (a5n a)];exact View.an y (by grind)
theorem View.trans {a b c:U}{d h k:R} (r:View a d b h) (x:View b h c k):View a d c k:=λy o v z C=>by
 obtain⟨D,p,E⟩:=r y o v z C;obtain⟨F,G,L⟩:=x D o v p.holds E;exact⟨F,p.trans G,L⟩
theorem View.aL {c d:U}{b h:R}{a k:List R} (x:View c b d h):View c (.aL (a++b::k)) d (.aL (a++h::k)):=λy z v C D=>by
 cases D with
 |aL E cs F o=>
  have G:=o a.length b a9l;obtain⟨L,p,S⟩:=x y z _ C G;refine⟨L,p,.aL E _ (by simpa using F) λr P T=> ?_⟩;by_cases V:r=a.length;simp_all
  .refine(o r P ?_).mono p.le;grind
theorem View.agg {d h:U}{b c:R}{a k:List R} (S:c.one=true) (x:View d b h c):View d (.agg (a++b::k)) h (.agg (a++c::k)):=λy z v C D=>by
 cases D with
 |agg E cs T F o=>
  have G:=o a.length b a9l;obtain⟨L,p,V⟩:=x y z _ C G;refine⟨L,p,.agg E _ (λW e=> ?_) (by simpa using F) λr P f=> ?_⟩;grind;by_cases g:r=a.length;simp_all
  .refine(o r P ?_).mono p.le;grind
end
def eI:=
 a4F @W6<|
 a4F @Wa<|
 a4F @Wf<|
 a4F @Wg<|
 a4F @Wh<|
 a4F @Wj<|
 a4F @Wd<|
 a4F @We<|
 a4F @W7<|
 a4F @W8<|
 @wZ
def dA (a:N) (b:h2) (c:N->b4=h2:=by intro d;simp -dsimp -implicitDefEqProofs (disch:=first|omega|assumption|(simp only[bk,Nat.reduceAdd];try omega)) only[go_sem,simprocAttr,-List.reduceReplicate,↓eI,d];rfl):b4:=(c a).mpr b
def Cj (a:b4) (b:N=b4:=by simp -dsimp -implicitDefEqProofs (disch:=first|omega|assumption|(simp only[bk,Nat.reduceAdd];try omega)) only[go_sem,simprocAttr,-List.reduceReplicate,↓eI];rfl):N:=b.mpr a
def wr:dH->List Nat
 | .plain ops| .draw ops _=>ops.filterMap (·.dst)
 | .seq a b| .cond _ a b=>wr a++wr b
 | .block _ a| .loop a=>wr a
 | _=> []
def ho (b:List Nat) (c d:Fr):Prop:= ∀a,a∉b->d a=c a
theorem ho.trans {a:List Nat}{b c d:Fr} (o:ho a b c) (p:ho a c d):ho a b d:=λh k=>(p h k).trans (o h k)
def ho.put {c:List Nat}{b:Option Nat} (d: ∀a,b=some a->a∈c):ho c j (dk j b n):=λa h=>tx j b n a λk=>h (d a k)
section
def Ck {a:List Nat}{k:Fr->U->Prop}{o:Fr}: ∀(b:List c7),(∀c∈b,∀p,c.dst=some p->p∈a)-> ∀(j:Fr) (f:U),ho a o j->iR K b k j f->iR K b (λr d=>k r d/\ho a o r) j f
 | [],_,j,f,cv,h=>⟨h,cv⟩
 |c::y,x,j,f,cv,h=>mP (λE d z=>Ck y (λC D=>x C (a6c _ D)) _ d (cv.trans (ho.put (x c (a6B ..)))) z) h
def Cl {b:List Nat}{c:Nat->c7}{h:Fr->U->Prop}{k:Fr} (o: ∀z p,(c z).dst=some p->p∈b): ∀(r:List dj) (j:Fr) (f:U),ho b k j->can K c h r j f->can K c (λx d=>h x d/\ho b k x) r j f
 | [],j,f,cv,a=>⟨a,cv⟩
 |C::D,j,f,cv,a=>⟨a.1,mP (λE d y=>⟨y.1,Cl o D _ d (cv.trans (ho.put (o C.i))) y.2⟩) a.2⟩
theorem o2 {r:List Nat}: ∀(x:dH),(∀b∈wr x,b∈r)-> ∀ {o:gh->Fr->U->Prop}{d:Fr} (j:Fr) (f:U),ho r d j->bS K x o j f->bS K x (λh C E=>o h C E/\ho r d C) j f
 | .skip,_,_,_,j,f,cv,a=>⟨a,cv⟩
 | .ret,_,_,_,j,f,cv,a=>⟨a,cv⟩
 | .exit _,_,_,_,j,f,cv,a=>⟨a,cv⟩
 | .plain ops,hw,_,_,j,f,cv,a=>Ck ops (λF G b p=>hw b (a8h.2 ⟨F,G,p⟩)) j f cv a
 | .draw ops L,hw,_,_,j,f,cv,a=>Cl (λy b p=>by
   refine hw b (a8h.2 ?_);grind[nth,List.mem_of_getElem?]) L j f cv a
 | .seq c z,hw,o,d,j,f,cv,a=>iX c (λh j f a=>by
   cases h with
   |norm=>exact o2 z (λb k=>hw b (a6O _ k)) j f a.2 a.1
   |exit y=>exact a
   |ret=>exact a) j f (o2 c (λb k=>hw b (a6T _ k)) j f cv a)
 | .block y c,hw,o,d,j,f,cv,a=>iX c (λh j f a=>by
   cases h with
   |norm=>exact a
   |exit e=>obtain⟨P,g⟩:=a;simp only[kY]at P|-;split<;>(simp_all)
   |ret=>exact a) j f (o2 c hw j f cv a)
 | .cond x c z,hw,o,d,j,f,cv,a=>by
   simp only[wC,Br,kr]at a|-;split at a
   .exact⟨λp=>o2 c (λb k=>hw b (a6T _ k)) j f cv (a.1 p),λp=>o2 z (λb k=>hw b (a6O _ k)) j f cv (a.2 p)⟩
   .trivial
 | .loop c,hw,o,d,j,f,cv,a=>by
   obtain⟨S,T,V,W⟩:=a;refine⟨λj f=>S j f/\ho r d j,T,⟨V,cv⟩,λj f D=>iX c (λh j f a=> ?_) j f (o2 c hw j f D.2 (W j f D.1))⟩;cases h with
   |norm=>exact⟨⟨a.1.1,a.2⟩,a.1.2⟩
   |exit y=>exact a
   |ret=>exact a
def gJ (a:Fr):List (Nat×R)->Prop
 | []=>True
 |b::c=>a b.1=b.2/\gJ a c
def Wl:gJ j []=True:=rfl
def Wm {v:R}:gJ j [(e,v)]=(j e=v):=by simp[gJ]
def Wn {v:R}{a:Nat×R}{b:List (Nat×R)}:gJ j ((e,v)::a::b)=(j e=v/\gJ j (a::b)):=rfl
def gV (a:Fr):List (Nat×R)->Fr
 | []=>a
 |b::c=>dk (gV a c) (some b.1) b.2
def Wo:gV j []=j:=rfl
def Wp {v:R}{a:List (Nat×R)}:gV j ((e,v)::a)=dk (gV j a) (some e) v:=rfl
theorem sa {a:Fr}: ∀ {b:List (Nat×R)},gJ a b->gV a b=a
 | [],_=>rfl
 |d::o,c=>by
  rw[gV,sa c.2];funext h;by_cases k:h=d.1
  .subst k;rw[<-c.1];simp[dk,lF]
  grind[tx,Option.some.inj]
def keeps (a:Fr):List Nat->List (Nat×R)
 | []=> []
 |b::c=>(b,a b)::keeps a c
def Wq:keeps j []= []:=rfl
def Wr {a:List Nat}:keeps j (e::a)=(e,j e)::keeps j a:=rfl
def x3 {b c:Fr}: ∀ {d:List Nat},(∀a∈d,c a=b a)->gJ c (keeps b d)
 | [],_=>trivial
 |a::p,h=>⟨h a (a6B ..),x3 λk o=>h k (a6c _ o)⟩
theorem Cm: ∀ {a:Nat},j5 a-> ∃a,j5 a/\ ∀b,j5 b->a<=b:=by
 intro a
 induction a using Nat.strongRecOn with
 |ind a ih=>grind
theorem ch (D:List Nat) (y:b0->List (Nat×R)) (E:b0->U->Prop) (h:b0->Nat) (L:b0)
  (m:E L f/\gJ j (y L)) (P: ∀x c,E x c-> ∀d,bS K h7 (eO (λn q=> ∃a,E a q/\gJ n (y a)/\h a<h x) e8) (gV (gV d (keeps j D)) (y x)) c)
  (I:D.all (λS=> !(wr h7).contains S)=true:=by kernel_rfl):cw (bS K (.loop h7) e8 j f) ():=by
 classical
 let p:=λ(d) (c) (a)=>E a c/\gJ d (y a)
 let z:=λ(d) (c)=>if C: ∃k,(∃a,p d c a/\h a=k)/\ ∀o,(∃a,p d c a/\h a=o)->k<=o then C.choose else 0;refine⟨λd c=>(∃a,p d c a)/\ho (wr h7) j d,z,⟨⟨L,m⟩,λ_ _=>rfl⟩,λb r T=> ?_⟩;have C: ∃k,(∃a,p b r a/\h a=k)/\ ∀o,(∃a,p b r a/\h a=o)->k<=o:=by obtain⟨a,s⟩:=T.1;exact Cm ⟨a,s,rfl⟩
 obtain⟨⟨x,i,hm⟩,M⟩:=C.choose_spec;have t:gJ b (keeps j D):=x3 λS N=>T.2 S λO=>by
  simp_all
 have u:gV (gV b (keeps j D)) (y x)=b:=by rw[sa t,sa i.2]
 have l:=P x r i.1 b;rw[u]at l;refine iX h7 (λv F G V=> ?_) b r (o2 h7 (λ_ P=>P) b r T.2 l);cases v with
 |norm=>obtain⟨⟨a,W,e,w⟩,A⟩:=V;refine⟨⟨⟨a,W,e⟩,A⟩,?_⟩;have g: ∃k,(∃a,p F G a/\h a=k)/\ ∀o,(∃a,p F G a/\h a=o)->k<=o:=Cm ⟨a,⟨W,e⟩,rfl⟩;show z F G<z b r;have B:z F G=g.choose:=dif_pos g;have H:z b r=C.choose:=dif_pos C;rw[B,H];exact Nat.lt_of_le_of_lt (g.choose_spec.2 _ ⟨a,⟨W,e⟩,rfl⟩) (by rw[<-hm];exact w)
 |exit Q=>exact V.1
 |ret=>exact V.1
end
theorem gK (d:List Nat) (b:b0->List (Nat×R)) (c:b0->Prop) (h:b0->Nat) (k:b0)
  (x:c k) (y:gJ j (b k)) (z: ∀a,c a-> ∀o,bS K h7 (eO (λC D=> ∃p,D=f/\c p/\gJ C (b p)/\h p<h a) e8) (gV (gV o (keeps j d)) (b a)) f)
  (E:d.all (λF=> !(wr h7).contains F)=true:=by kernel_rfl):cw (bS K (.loop h7) e8 j f) ():=
 ch d b (λa r=>r=f/\c a) h k ⟨⟨rfl,x⟩,y⟩ (λa r G o=>by
  obtain⟨rfl,L⟩:=G;refine iX h7 (λP S T V=> ?_) _ _ (z a L o);grind) E
def tQ:=
 a4F @Wl<|
 a4F @Wm<|
 a4F @Wn<|
 a4F @Wo<|
 a4F @Wp<|
 a4F @Wq<|
 @Wr
def U.tR (a:f e=none) (b:t.sub f):t e=none:=U.bF b a
def U.Ws (c:f e=none):f.sub (t.set e Y)=f.sub t:=propext ⟨λa d h b=>by
 have k:d≠e:=by rintro rfl;rw[c]at b;cases b
 have:=a d h b;rwa[U.ao _ _ k]at this,λa=>U.ae a c⟩
def U.sub_self:f.sub f=True:=eq_true U.a1
def Wt:(∃b,b.sub t/\f.sub b)=f.sub t:=propext ⟨λ⟨_,a,h⟩ c d k=>a c d (h c d k),λa=>⟨f,a,U.a1⟩⟩
def Wu:(∃b,b.sub t/\b=f)=f.sub t:=propext ⟨λ⟨_,a,c⟩=>by subst c;exact a,λa=>⟨f,a,rfl⟩⟩
def Wv:s5 (bb B)=some (.v (.int .i64 B.length)):=wN
def Ww (a:e<B.length):rZ (bb B) (.v (.int e2 (e:Int)))=some (.v (.int .u8 (B.getD e 0).toNat)):=by have:=C1 (B:=B) (e2:=e2) (b1:=(e)) a9k a9k;trivial
def o3:cP e (.J g M) (.v (.int e2 (i:Int)))=eA e g[i]? :=by rfl
def Wx:eA 1 (some (.v e5))=some (.bV [.v e5]):=rfl
def Wy:eA 1 (some (bb B))=some (.bV [bb B]):=rfl
def Wz:eA 1 (some (.J g M))=some (.bV [.J g M]):=rfl
def WA:eA 1 (some (.ptr e i))=some (.bV [.ptr e i]):=rfl
def WB [Decidable N]:(!decide N)=decide (¬N):=decide_not.symm
def WC:(xor false I)=I:=a7r I
def WD:(∃b,b.sub t/\f.sub b/\N)=(f.sub t/\N):=propext ⟨λ⟨_,a,h,k⟩=>⟨λc d o=>a c d (h c d o),k⟩,λa=>⟨f,a.1,U.a1,a.2⟩⟩
def WE:(∃b,b.sub t/\b=f/\N)=(f.sub t/\N):=propext ⟨λ⟨_,a,c,d⟩=>by subst c;trivial,λa=>⟨f,a.1,rfl,a.2⟩⟩
def WG {a:b0}{b:List b0}:List.take (e+1) (a::b)=a::List.take e b:=rfl
def WH {a:List b0}:List.take 0 a= []:=rfl
def WI:List.take e ([]:List b0)= []:=a8W
def WJ {a:List b0}:List.drop 0 a=a:=rfl
def WK:putAt (b3::g) 0 (n::A)=n::putAt g 0 A:=by rfl
def WL:putAt g 0 []=g:=by rfl
def WM:putAt (n::g) (e+1) A=n::putAt g e A:=by simp[putAt,Nat.add_right_comm]
def WN {b:b0}{a:List b0}:(b::a).length=a.length+1:=rfl
def WO:([]:List b0).length=0:=rfl
def WQ:(bb B).cells= [bb B]:=rfl
def WR:(R.J g M).cells= [.J g M]:=rfl
def WS:(R.ptr e i).cells= [.ptr e i]:=rfl
def WT {v:Value}:(R.v v).cells= [.v v]:=rfl
theorem p6 (a:e<=g.length) (b:aT i g):dI i (.J g M) (some (.v (.int e2 (e:Int)))) none=some (.J (g.drop e) .any):=by grind[qk,Int.toNat_natCast]
def WU (a:e<g.length) (b:aT i g):dI i (.J g M) (some (.v (.int e2 ((e:Int)+1)))) none=some (.J (g.drop (e+1)) .any):=p6 (e:=e+1) a b
theorem WV (a:e<=g.length) (b:aT i g):dI i (.J g M) none (some (.v (.int e2 (e:Int))))=some (.J (g.take e) .any):=by grind[nX,Int.toNat_natCast]
theorem WW {a:IntKind} (b:i<=e) (c:e<=g.length) (d:aT v g):dI v (.J g M) (some (.v (.int e2 (i:Int)))) (some (.v (.int a (e:Int))))=some (.J ((g.take e).drop i) .any):=by grind[BR,Int.toNat_natCast]
def WX:(∃ _:Unit,True)=True:=eq_true ⟨(),trivial⟩
def WY {a:cB s}:jI e f [] (bO s a)=s (.J [] .zero) f:=by simp[jI,bO]
def WZ:cP e (.J g M) (.v (.int e2 0))=eA e g[0]? :=o3 (i:=0)
def X0:cP e (.J g M) (.v (.int e2 1))=eA e g[1]? :=o3 (i:=1)
def tS:=
 a4F @WZ<|
 a4F @X0<|
 a4F @WX<|
 a4F @p6<|
 a4F @WU<|
 a4F @WV<|
 a4F @WW<|
 a4F @WQ<|
 a4F @WR<|
 a4F @WS<|
 a4F @WT<|
 a4F @U.ah<|
 a4F @U.ao<|
 a4F @WK<|
 a4F @WL<|
 a4F @WM<|
 a4F @WN<|
 a4F @WO<|
 a4F @WG<|
 a4F @WH<|
 a4F @WI<|
 a4F @WJ<|
 a4F @U.Ws<|
 a4F @U.sub_self<|
 a4F @Wt<|
 a4F @Wu<|
 a4F @WD<|
 a4F @WE<|
 a4F @true_and<|
 a4F @and_true<|
 a4F @Wv<|
 a4F @Ww<|
 a4F @o3<|
 a4F @Wx<|
 a4F @Wy<|
 a4F @Wz<|
 a4F @WA<|
 a4F @hK<|
 a4F @hK<|
 a4F @BI<|
 a4F @decide_true<|
 a4F @decide_false<|
 a4F @a5B<|
 a4F @a5C<|
 a4F @a6f<|
 a4F @a6Y<|
 a4F @a8X<|
 a4F @Bool.and_false<|
 a4F @WC<|
 a4F @Bool.true_xor<|
 a4F @WB<|
 @Decidable.not_not
theorem sb {a:Nat->Bool} (b:e<i) (c:a e=false):(List.range i).all a=false:=List.all_eq_false.2 ⟨e,a5Z.2 b,by simp[c]⟩
theorem sc {a:Nat->Bool} (b: ∀c<e,a c=true):(List.range e).all a=true:=a4Z.2 λd h=>b d (a5Z.1 h)
def upto (b: ∀a<e,j5 a) (c:j5 e): ∀a<e+1,j5 a:=λa d=>(Nat.lt_or_eq_of_le (Nat.le_of_lt_succ d)).elim (b a) λh=>h▸c
def X1:R.v (.int e2 ((e:Int)+1))= .v (.int e2 ((e+1:Nat):Int)):=rfl
theorem qu {a:Bool} (b:(I=true)=(a=true):=by apply propext;(try dsimp only);(try simp (disch:=omega) only[if_pos,if_neg,a4L,a6q,a6n,Bool.not_eq_eq_eq_not,a5B,a5C,decide_eq_true_eq,decide_eq_false_iff_not,a5L,false_iff,iff_false,true_iff,iff_true,true_and,and_true,false_and,and_false,false_or,or_false,true_or,or_true,iff_self, *])<;>omega):I=a:=by simp_all
theorem aO {a:Bool} (b:I=a:=by exact qu):R.v (.bool I)= .v (.bool a):=b▸rfl
theorem aP {a:Bool} (b:I=a):R.v (.bool I)= .v (.bool a):=by rw[b]
def U.tT (a:f.sub t) (b:f e=some Y):t e=some Y:=a _ _ b
def U.tU (a:bf f t i g M) (b:f e=some Y):t e=some Y:=a.sub _ _ b
def ir (c d:U):Prop:= ∀a b,c a=some (.cells b)->d a=some (.cells b)
def U.o4 (a:f.sub t):ir f t:=λc d b=>a _ _ b
theorem ir.trans (a:ir f t) (b:ir t e4):ir f e4:=λd h c=>b _ _ (a _ _ c)
def U.tV (a:ir f t) (b:f e=some (.cells g)):t e=some (.cells g):=a _ _ b
def U.tW {a:br} (b:f e=some Y) (c:f i=none):(f.set i a) e=some Y:=U.ae U.a1 c _ _ b
def U.gW (b:f i=none) (a:f e=some Y):e≠i:=by rintro rfl;rw[b]at a;cases a
def a0 (a:f e=some Y:=by first|assumption|exact U.ah _ _ _):f e=some Y:=a
def a3 (a:f e=some Y:=by first|exact a0|exact U.tW a2 a9n|exact U.tT a9n a2|exact U.tU a9n a2|exact U.x4 a9n a2|exact U.tV a9n a2):f e=some Y:=a
def a4 (a:f e=some Y:=by first|exact a0|exact U.tW a3 a9n|exact U.tT a9n a3|exact U.tU a9n a3|exact U.x4 a9n a3|exact U.tV a9n a3):f e=some Y:=a
def a5 (a:f e=some Y:=by first|exact a0|exact U.tW a4 a9n|exact U.tT a9n a4|exact U.tU a9n a4|exact U.x4 a9n a4|exact U.tV a9n a4):f e=some Y:=a
def ds (a:f e=some Y:=by first|exact a0|exact U.tW a5 a9n|exact U.tT a9n a5|exact U.tU a9n a5|exact U.x4 a9n a5|exact U.tV a9n a5):f e=some Y:=a
def fT (c: ∀a b,f a=some (.cells b)->t a=some (.cells b):=by intro _ _ _;exact ds):ir f t:=c
def qv (c: ∀a b,f a=some b->t a=some b:=by intro _ _ _;exact ds):f.sub t:=c
section
def eC (a:N=b4:=by simp -dsimp -implicitDefEqProofs (disch:=first|omega|assumption|exact U.tR a9n a9n|(simp only[bk,Nat.reduceAdd];try omega)) only[go_sem,simprocAttr,-List.reduceReplicate,↓eI,tS,tQ, *]<;>rfl):N=b4:=a
def hM (a:N=b4:=by first|exact eC|rfl):N=b4:=a
def aa (a:b4) (b:N=b4:=by exact hM):N:=b.mpr a
def aS (a:N=True:=by simp -dsimp -implicitDefEqProofs (disch:=first|omega|assumption|exact U.tR a9n a9n|(simp only[bk,Nat.reduceAdd];try omega)) only[go_sem,simprocAttr,-List.reduceReplicate,↓eI,tS,tQ, *]):N:=of_eq_true a
def aM (b:m.follows .mixedOrders=true) {a:List (Nat×Option (Bool×Nat))} (c:dr m v e=some ⟨i,O,h7,a⟩) (d:N) (h:g.length<=i:=by simp)
  (k:bS (Ctx.of m) h7 (p2 a s) (lR g) f=N:=by exact eC):AC m e g f s:=bc b c h (k.mpr d)
def bp {c:Nat->Prop} (d: ∀a,f a=none->c a) (h: ∀a,f a=none->j5 a=c a:=by intro a b;exact eC):iV f (bZ j5 ()):=λa b=>(h a b).mpr (d a b)
def U.set_nil (a:(f.set i Y) e=none):f e=none/\e≠i/\i≠e:=⟨(U.gI a).2,(U.gI a).1,(U.gI a).1.symm⟩
def cX {d:Nat->Prop} (o: ∀a,f a=none->a≠e->e≠a->d a) (h: ∀a,f a=none->a≠e->e≠a->j5 a=d a:=by intro a b c h;exact eC):iV (f.set e Y) (bZ j5 ()):=λa b=>by
 obtain⟨b,c,k⟩:=U.set_nil b;exact(h a b c k).mpr (o a b c k)
def hp {k:Nat->Prop}{r:br} (x: ∀a,f a=none->a≠e->e≠a->a≠i->i≠a->k a) (o: ∀a,f a=none->a≠e->e≠a->a≠i->i≠a->j5 a=k a:=by intro a b c o d h;exact eC):iV ((f.set e Y).set i r) (bZ j5 ()):=λa b=>by
 obtain⟨b,d,h⟩:=U.set_nil b;obtain⟨b,c,p⟩:=U.set_nil b;exact(o a b c p d h).mpr (x a b c p d h)
def cl (c:AC m b5 g f a7) (d: ∀a b,a7 a b->s a b) (h:N=nW K b5 g f (bO s ()):=by exact hM) (k:K.p=m:=by rfl):N:=by subst k;exact h.mpr (ai c d)
def bh (a:AC K.p b5 g f λb c=>c=f/\b=n) (d:N) (h:s n f=N:=by exact eC):nW K b5 g f (bO s ()):=ai a λ_ _ a=>by rw[a.1,a.2];exact h.mpr d
theorem lX (c:AC m b5 g f λa b=>b=f/\a=n) (d:b4) (h:N=nW K b5 g f (bO s ()):=by exact hM) (k:s n f=b4:=by exact hM) (o:K.p=m:=by rfl):N:=by grind[ai]
theorem gs {c:U->Prop} (b:AC K.p b5 g f λd a=>f.sub a/\d=n) (h: ∀a,f.sub a->c a) (k: ∀a,f.sub a->s n a=c a:=by intro a b;exact eC):nW K b5 g f (bO s ()):=ai b λ_ a b=>by simp_all
def mY (a:N=b4:=by first|(simp only[decide_eq_true_eq,decide_eq_false_iff_not,a6n,Bool.not_eq_false',a5B,a5C,Decidable.not_not]<;>rfl)|rfl):N=b4:=a
def X2 {c:Prop} (k:(I=true)=N:=by exact mY) (o:(I=false)=b4:=by exact mY) (d:N->h2=j2:=by intro;first|exact eC|rfl) (h:b4->h9=c:=by intro;first|exact eC|rfl):kr (.v (.bool I)) (cw h2 ()) (cw h9 ())=((N->j2)/\(b4->c)):=by subst k o;exact propext ⟨λb=>⟨λa=>(d a).mp (b.1 a),λa=>(h a).mp (b.2 a)⟩,λb=>⟨λa=>(d a).mpr (b.1 a),λa=>(h a).mpr (b.2 a)⟩⟩
def X3 {c:Bool}{d:Prop} (o:(I=c)=N:=by exact mY) (p:(I= !c)=b4:=by exact mY) (h:N->h2=j2:=by intro;first|exact eC|rfl) (k:b4->h9=d:=by intro;first|exact eC|rfl):hI (.v (.bool I)) c (cw h2 ()) (cw h9 ())=((N->j2)/\(b4->d)):=by rw[T0];subst o p;exact propext ⟨λb=>⟨λa=>(h a).mp (b.1 a),λa=>(k a).mp (b.2 a)⟩,λb=>⟨λa=>(h a).mpr (b.1 a),λa=>(k a).mpr (b.2 a)⟩⟩
def aG (a:h9->b4) (b:j2->h2) (c:N=((h9->b4)/\(j2->h2)):=by first|exact X2|exact X3):N:=c.mpr ⟨a,b⟩
def Cn (a:N:=by first|assumption|(simp only[decide_eq_true_eq,decide_eq_false_iff_not,a6n,Bool.not_eq_false',Decidable.not_not]<;>omega)):N:=a
def X4 (a:I=true:=by exact Cn) (b:N=b4:=by exact eC):kr (.v (.bool I)) (cw N ()) (cw h2 ())=b4:=by subst a;exact Bs.trans b
def X5 (a:I=false:=by exact Cn) (b:N=b4:=by exact eC):kr (.v (.bool I)) (cw h2 ()) (cw N ())=b4:=by subst a;exact Bt.trans b
def iu (a:b4) (b:N=b4:=by first|exact X4|exact X5|exact a4y|exact a4z):N:=b.mpr a
end
theorem eQ {a:List b0}{b:b0} (c:e<a.length):a.take (e+1)=a.take e++ [a.getD e b]:=by simp_all
abbrev fF (a b:U) (c:List UInt8) (d:R):Prop:=ar a b 1 (c.map al) d
def o5 (b:U) (c:R) (a:List UInt8):Prop:=bN b 1 c=some (a.length,a.map al)
theorem o5.J {s:U}{a:List UInt8}{o:Own}:o5 s (.J (a.map al) o) a:=by have b:=C5 (f:=s) (B:=a) (M:=o);exact b
def fF.lY (b:fF t f B n):o5 f n B:=by obtain⟨d,a,c,_⟩:=b.src;simp only[a4T,a5y]at a;subst a;exact c
def ar.sub {a b:U}{c:Nat}{d:List R}{h:R} (k:ar a b c d h):a.sub b:=k.1
section
def Co {d:List UInt8} (c:fF t f B n) (h:o5 f b3 d) (k: ∀b a,fF t a (B++d) b->t.sub a->a7 b a) (p:B.length+d.length<=100000000000:=by(try simp only[a4J,a4M,a4R,a4T, *])<;>omega)
  (o: ∀b a,fF t a (B++d) b->t.sub a->s b a=a7 b a:=by intro b f c r;exact eC):jJ 1 1 f n b3 (bO s ()):=
 ff c a9k h a9l a9m a9m λb a c=>by rw[<-a5J]at c;exact(o b a c c.sub).mpr (k b a c c.sub)
def mZ {c:List UInt8} (d:fF t e4 B n) (h:fF e4 f c b3) (k: ∀b a,fF t a (B++c) b->t.sub a->a7 b a) (o:B.length+c.length<=100000000000:=by(try simp only[a4J,a4M,a4R,a4T, *])<;>omega)
  (p: ∀b a,fF t a (B++c) b->t.sub a->s b a=a7 b a:=by intro b f d r;exact eC):jJ 1 1 f n b3 (bO s ()):=Co (d.mono h.sub) h.lY k o p
def tX (b:List UInt8) (o: ∀c a,fF f a b c->f.sub a->a7 c a) (z:g=b.map al:=by first|rfl|simp) (p:g.length<=1000000000000:=by(try simp only[a4J,a4M,a4R,a4T, *])<;>omega)
  (r: ∀c a,fF f a b c->f.sub a->s c a=a7 c a:=by intro c f d E;exact eC):nZ 1 f g (bO s ()):=by
 have h:=λc a d=>(r c a d d.sub).mpr (o c a d d.sub);subst z;rw[a4T]at p;by_cases k:b= []
 .subst k;rw[a6u,o0];exact h _ _ (ar.zero U.a1)
 .refine eP (by intro F C;obtain⟨_,_,rfl⟩:=a5c.1 C;rfl) (by simpa using k) λD x=>h _ _ ?_;have y:flat (b.map al)=b.map al:=by
   clear h o r k p
   induction b with
   |nil=>rfl
   |cons G b ih=>simp only[a5f,flat,a5j]at ih|-;rw[ih];rfl
  refine⟨U.ae U.a1 x,.inr ⟨D,b.length,b.length,_,a9l,x,U.ah _ _ _,?_,?_,a9l,a9k,by simp only[maxLen];omega⟩⟩
  .rw[y];simp
  .rw[y,a4I a9l]
def hN {d:R->U->Prop} (c:AC K.p b5 g f s) (h: ∀a b,s a b->d a b) (k: ∀a b,s a b->a7 a b=d a b:=by intro a f c;exact eC):nW K b5 g f (bO a7 ()):=ai c λa b c=>(k a b c).mpr (h a b c)
end
section
def x5 {c:Nat->Prop}{x y:br} (z: ∀a,f a=none->a≠e->e≠a->a≠i->i≠a->a≠v->v≠a->c a) (C: ∀a,f a=none->a≠e->e≠a->a≠i->i≠a->a≠v->v≠a->j5 a=c a:=by intros;exact eC):iV (((f.set e Y).set i x).set v y) (bZ j5 ()):=λa b=>by
 obtain⟨b,d,h⟩:=U.set_nil b;obtain⟨b,k,o⟩:=U.set_nil b;obtain⟨b,p,r⟩:=U.set_nil b;exact(C a b p r k o d h).mpr (z a b p r k o d h)
def X6 {c:Nat->Prop}{z C D:br} (E: ∀a,f a=none->a≠e->e≠a->a≠i->i≠a->a≠v->v≠a->a≠O->O≠a->c a) (F: ∀a,f a=none->a≠e->e≠a->a≠i->i≠a->a≠v->v≠a->a≠O->O≠a->j5 a=c a:=by intros;exact eC):iV ((((f.set e Y).set i z).set v C).set O D) (bZ j5 ()):=λa b=>by
 obtain⟨b,d,h⟩:=U.set_nil b;obtain⟨b,k,o⟩:=U.set_nil b;obtain⟨b,p,r⟩:=U.set_nil b;obtain⟨b,x,y⟩:=U.set_nil b;exact(F a b x y p r k o d h).mpr (E a b x y p r k o d h)
def jL {v:R} (c: ∀a,f a=none->j5 a) (d:aT e (v::g):=by simp[aT,R.cells, *]) (h: ∀a,f a=none->s (.J (v::g) (.buf a (v::g).length)) (f.set a (.buf e (v::g).length (v::g).length))=j5 a:=by intros;exact eC):jI e f (v::g) (bO s ()):=by refine⟨d,?_⟩;rw[if_neg a9l];intro a b;exact(h a b).mpr (c a b)
def X7 {v:R} (h: ∀a,f a=none->a≠e->e≠a->j5 a) (k:aT i (v::g):=by simp[aT,R.cells, *]) (o: ∀a,f a=none->a≠e->e≠a->s (.J (v::g) (.buf a (v::g).length)) ((f.set e Y).set a (.buf i (v::g).length (v::g).length))=j5 a:=by intros;exact eC):jI i (f.set e Y) (v::g) (bO s ()):=by refine⟨k,?_⟩;rw[if_neg a9l];intro a b;obtain⟨b,c,d⟩:=U.set_nil b;exact(o a b c d).mpr (h a b c d)
def tY {v:R}{c:br} (p: ∀a,f a=none->a≠e->e≠a->a≠i->i≠a->j5 a) (r:aT O (v::g):=by simp[aT,R.cells, *]) (x: ∀a,f a=none->a≠e->e≠a->a≠i->i≠a->s (.J (v::g) (.buf a (v::g).length)) (((f.set e Y).set i c).set a (.buf O (v::g).length (v::g).length))=j5 a:=by intros;exact eC):jI O ((f.set e Y).set i c) (v::g) (bO s ()):=by refine⟨r,?_⟩;rw[if_neg a9l];intro a b;obtain⟨b,d,h⟩:=U.set_nil b;obtain⟨b,k,o⟩:=U.set_nil b;exact(x a b k o d h).mpr (p a b k o d h)
def X8 {c:Nat}{v:R}{d h k o:br} (L: ∀a,f a=none->a≠e->e≠a->a≠i->i≠a->a≠O->O≠a->a≠b9->b9≠a->a≠j1->j1≠a->j5 a) (P:aT c (v::g):=by simp[aT,R.cells, *]) (S: ∀a,f a=none->a≠e->e≠a->a≠i->i≠a->a≠O->O≠a->a≠b9->b9≠a->a≠j1->j1≠a->s (.J (v::g) (.buf a (v::g).length)) ((((((f.set e Y).set i d).set O h).set b9 k).set j1 o).set a (.buf c (v::g).length (v::g).length))=j5 a:=by intros;exact eC):jI c (((((f.set e Y).set i d).set O h).set b9 k).set j1 o) (v::g) (bO s ()):=by refine⟨P,?_⟩;rw[if_neg a9l];intro a b;obtain⟨b,p,r⟩:=U.set_nil b;obtain⟨b,x,y⟩:=U.set_nil b;obtain⟨b,z,C⟩:=U.set_nil b;obtain⟨b,D,E⟩:=U.set_nil b;obtain⟨b,F,G⟩:=U.set_nil b;exact(S a b F G D E z C x y p r).mpr (L a b F G D E z C x y p r)
def X9 {d:Nat}{v:R}{c:Nat}{h k o p r:br} (V: ∀a,f a=none->a≠e->e≠a->a≠i->i≠a->a≠O->O≠a->a≠b9->b9≠a->a≠j1->j1≠a->a≠c->c≠a->j5 a) (W:aT d (v::g):=by simp[aT,R.cells, *]) (j: ∀a,f a=none->a≠e->e≠a->a≠i->i≠a->a≠O->O≠a->a≠b9->b9≠a->a≠j1->j1≠a->a≠c->c≠a->s (.J (v::g) (.buf a (v::g).length)) (((((((f.set e Y).set i h).set O k).set b9 o).set j1 p).set c r).set a (.buf d (v::g).length (v::g).length))=j5 a:=by intros;exact eC):jI d ((((((f.set e Y).set i h).set O k).set b9 o).set j1 p).set c r) (v::g) (bO s ()):=by refine⟨W,?_⟩;rw[if_neg a9l];intro a b;obtain⟨b,x,y⟩:=U.set_nil b;obtain⟨b,z,C⟩:=U.set_nil b;obtain⟨b,D,E⟩:=U.set_nil b;obtain⟨b,F,G⟩:=U.set_nil b;obtain⟨b,L,P⟩:=U.set_nil b;obtain⟨b,S,T⟩:=U.set_nil b;exact(j a b S T L P F G D E z C x y).mpr (V a b S T L P F G D E z C x y)
def lZ (a:AC K.p b5 (g++e1++A) f λb c=>c=f/\b=n) (d:N) (h:gf K.p b5=true:=by kernel_rfl) (k:s n f=N:=by exact eC):wS K (.bG b5 g A) e1 f (bO s ()):=
 fE h a λ_ _ a=>by rw[a.1,a.2];exact k.mpr d
end
section
theorem x6 {r:dH}{h:Fr}{k:List Nat}{x:b0->List (Nat×R)}{y:b0->U->Prop} (z: ∀c∈wr h7,c∈k) (D:ho k h j) (o:List Nat) (V:o.all (λc=> !k.contains c)=true)
  (E:bS K h7 (eO (λa b=> ∃C,y C b/\gJ a (x C)) e8) j f) (F: ∀d b,y d b-> ∀a,bS K r e8 (gV (gV a (keeps h o)) (x d)) b):bS K h7 (eO (bS K r e8) e8) j f:=by
 refine iX h7 (λG a b p=> ?_) j f (o2 h7 z j f D E);cases G with
 |norm=>
  obtain⟨⟨d,L,P⟩,S⟩:=p;have T:gJ a (keeps h o):=x3 λc W=>S c λz=>by
   simp_all
  have:=F d b L a;rw[sa T,sa P]at this;exact this
 |exit e=>exact p.1
 |ret=>exact p.1
def p7 {h:dH} (b:List Nat) (k:b0->List (Nat×R)) (o:b0->U->Prop)
  (x:bS K h7 (eO (λc a=> ∃p,o p a/\gJ c (k p)) e8) j f) (d: ∀r a,o r a-> ∀c,bS K h e8 (gV (gV c (keeps j b)) (k r)) a) (y:b.all (λz=> !(wr h7).contains z)=true:=by kernel_rfl):bS K (.seq h7 h) e8 j f:=
 x6 (k:=wr h7) (λ_ d=>d) (λ_ _=>rfl) b y x d
def o6 {h k:dH}{z:cB (bS K h (eO (bS K h7 e8) e8) j f)}{C:cB (bS K k (eO (bS K h7 e8) e8) j f)} (o:List Nat) (p:b0->List (Nat×R)) (r:b0->U->Prop)
  (D:I=true->bS K h (eO (λc a=> ∃d,r d a/\gJ c (p d)) e8) j f) (E:I=false->bS K k (eO (λc a=> ∃d,r d a/\gJ c (p d)) e8) j f) (b: ∀x a,r x a-> ∀c,bS K h7 e8 (gV (gV c (keeps j o)) (p x)) a) (y:o.all (λI=> !(wr h++wr k).contains I)=true:=by kernel_rfl):
  kr (.v (.bool I)) (cw (bS K h (eO (bS K h7 e8) e8) j f) z) (cw (bS K k (eO (bS K h7 e8) e8) j f) C):=
 ⟨λh7=>x6 (λ_ b=>a6T _ b) (λ_ _=>rfl) o y (D h7) b,λh7=>x6 (λ_ b=>a6O _ b) (λ_ _=>rfl) o y (E h7) b⟩
end
def Cp (a:N=b4:=by first|(simp -dsimp -implicitDefEqProofs (disch:=first|omega|assumption|exact U.tR a9n a9n|(simp only[bk,Nat.reduceAdd];try omega)) only[WY,o0,go_sem,simprocAttr,-List.reduceReplicate,↓eI,tS,tQ, *]<;>rfl)|rfl):N=b4:=a
def p8 (a:e<=i:=by first|omega|((try simp only[a4J,a4M,a4R,a4T,a4K,a4Y, *])<;>omega)):e<=i:=a
def rd (a:f.sub t) (b:f e=some (.cells g)):t.read e=some g:=U.af (a _ _ b)
theorem Cq {v:R} (b:aT e g) (h:v.cells.length=e):aT e (g++ [v]):=λc d=>by
 rcases a4X.1 d with a|a
 .exact b c a
 grind
def Cr:aT e []:=λ_ a=>by cases a
theorem bf.o7 (r:bf t f e g M): ∃d:U,bf d f e g M/\d.sub f/\t.sub d/\ ∀a,(∀b o,M= .buf b o->b≠a)->d a=f a:=by
 obtain⟨k,h⟩:=r;cases M with
 |buf b o=>
  have p:(f.del b).sub f:=λa M c=>by
   grind[U.il,U.eG]
  refine⟨f.del b,⟨p,U.il _ _,h.2⟩,p,λa M c=> ?_,λa c=>U.eG _ (a4Q (c _ _ rfl))⟩;have x:a≠b:=by rintro rfl;rw[h.1]at c;cases c
  rw[U.eG _ x];exact k _ _ c
 |any=>trivial
 |nil=>exact⟨f,⟨U.a1,h⟩,U.a1,k,λ_ _=>rfl⟩
 |zero=>exact⟨f,⟨U.a1,h⟩,U.a1,k,λ_ _=>rfl⟩
def qw {k:cB s} (d:bf t f e g M) (o:aT e g) (p:aT e A) (r:(g.length+A.length)*i<=140737488355328) (x:g.length+A.length<=9223372036854775807)
  (y: ∀b a,bf t a e (g++A) b->ir f a->s (.J (g++A) b) a):lV e i f (.J g M) (.J A e6) (bO s k):=by
 obtain⟨G,z,L,C,D⟩:=d.o7;refine ea z o p r x λb a h=>y b a (h.base C) λE P c=>h.sub _ _ ?_;rw[D E (λS T F=>by subst F;rintro rfl;rw[d.2.2]at c;cases c)];exact c
section
def hP {v:R}{k:Nat->R->U->Prop}{o:Nat->Own->U->Prop} (p:bf t f e g M) (y:aT e g) (z: ∀a c b,bf t b e (g++ [v]) c->ir f b->o a c b)
  (C:N=jI e f [v] (bO s ()):=by exact hM)
  (D: ∀a,f a=none->s (.J [v] (.buf a 1)) (f.set a (.buf e 1 1))=lV e i (f.set a (.buf e 1 1)) (.J g M) (.J [v] (.buf a 1)) (bO (k a) ()):=by intro a d;exact eC)
  (E: ∀a c b,bf t b e (g++ [v]) c->k a (.J (g++ [v]) c) b=o a c b:=by intro a c b p;exact hM)
  (r:v.cells.length=e:=by first|rfl|assumption|simp[R.cells, *]) (P:g.length<=1000000000:=by exact p8) (F:i<=10000:=by decide):N:=by
 rw[C];refine⟨λG h=>by rw[a5b.1 h];exact r,?_⟩;rw[if_neg a9l];intro a d;refine(D a d).mpr (qw (p.mono (U.ae U.a1 d)) y (λG h=>by rw[a5b.1 h];exact r) ?_ ?_ λc b x L=>(E a c b x).mpr (z a c b x ((U.o4 (U.ae U.a1 d)).trans L)))
 .exact a5F (a8g (show g.length+1<=1000000001 by omega) F) a9o
 .simp;omega
def Xa:aT 1 (B.map al):=λb a=>by obtain⟨_,_,rfl⟩:=a5c.1 a;rfl
def Xb {d:UInt8}{k:Nat->R->U->Prop}{o:Nat->Own->U->Prop} (p:bf t f 1 (B.map al) M) (x: ∀a c b,bf t b 1 ((B++ [d]).map al) c->ir f b->o a c b)
  (y:N=jI 1 f [al d] (bO s ()):=by exact hM)
  (z: ∀a,f a=none->s (.J [al d] (.buf a 1)) (f.set a (.buf 1 1 1))=lV 1 e (f.set a (.buf 1 1 1)) (.J (B.map al) M) (.J [al d] (.buf a 1)) (bO (k a) ()):=by intro a G;exact eC)
  (C: ∀a c b,bf t b 1 ((B++ [d]).map al) c->k a (.J ((B++ [d]).map al) c) b=o a c b:=by intro a c b p;exact hM)
  (D:B.length<=1000000000:=by exact p8) (E:e<=10000:=by decide):N:=by
 have r:B.map al++ [al d]=(B++ [d]).map al:=by rw[a5J];rfl
 refine hP p Xa (λa c b h F=>x a c b (r▸h) F) y z (λa c b h=> ?_) rfl (by rw[a4T];exact D) E;rw[r]at h|-;exact C a c b h
def kv {c:Own->U->Prop} (d:bf t f e g M) (k:aT e g) (o:aT e A) (p: ∀b a,bf t a e (g++A) b->ir f a->c b a)
  (r:N=lV e i f (.J g M) (.J A e6) (bO s ()):=by exact hM) (x: ∀b a,bf t a e (g++A) b->s (.J (g++A) b) a=c b a:=by intro b a d;exact hM)
  (y:g.length+A.length<=1000000000:=by exact p8) (z:i<=10000:=by decide):N:=by
 rw[r];refine qw d k o (a5F (a8g y z) a9o) a9k λb a h C=>(x b a h).mpr (p b a h C)
def sd {c:Own->U->Prop} (h:aT e g) (k: ∀a b,bf f b e g a->c a b)
  (o:N=lV e i f (.J [] M) (.J g e6) (bO s ()):=by exact Cp) (p:M= .nil\/M= .zero:=by first|exact .inl rfl|exact .inr rfl) (r: ∀a b,bf f b e g a->s (.J g a) b=c a b:=by intro a b d;exact hM)
  (x:g.length<=1000000000:=by exact p8) (y:i<=10000:=by decide):N:=
 kv (t:=f) (c:=c) (by rcases p with rfl|rfl;exact bf.nil U.a1;exact bf.zero U.a1) Cr h (λa b d _=>k a b d) o r (by simpa using x) y
def qx (c:ar t f e A n) (k:bN f e b3=some (v,g)) (o: ∀a b,ar t b e (A++g) a->a7 a b)
  (p:N=jJ e i f n b3 (bO s ()):=by exact hM) (r: ∀a b,ar t b e (A++g) a->s a b=a7 a b:=by intro a b c;exact hM)
  (d:0<e:=by decide) (x:g.length=v*e:=by first|rfl|omega|simp) (y:A.length+g.length<=1000000000:=by exact p8) (z:i<=10000:=by decide):N:=by
 rw[p];refine ff c d k x (a5F (a8g y z) (a5F a9o (a8A _ d))) a9k λa b h=>(r a b h).mpr (o a b h)
def tZ (c:bN f e n=some (v,g)) (d: ∀a b,ar f b e g a->a7 a b)
  (h:N=jJ e i f (.J [] M) n (bO s ()):=by exact Cp) (k:M= .nil\/M= .zero:=by first|exact .inl rfl|exact .inr rfl) (o: ∀a b,ar f b e g a->s a b=a7 a b:=by intro a b z;exact hM)
  (p:0<e:=by decide) (r:g.length=v*e:=by first|rfl|omega|simp) (x:g.length<=1000000000:=by exact p8) (y:i<=10000:=by decide):N:=
 qx (A:= []) (t:=f) (by rcases k with rfl|rfl;exact ar.nil U.a1;exact ar.zero U.a1) c d h o p r (by simpa using x) y
def Xc {v:R}{h k:Nat->R->U->Prop} (o:ar t f 1 g n) (r: ∀a b c,ar t c 1 (g++ [v]) b->h a b c) (x:N=nZ 1 f [v] (bO s ()):=by exact hM)
  (y: ∀a,f a=none->s (.an a 1 1 1) (f.set a (.cells [v]))=jJ 1 e (f.set a (.cells [v])) n (.an a 1 1 1) (bO (k a) ()):=by intro a d;exact eC)
  (z: ∀a b c,ar t c 1 (g++ [v]) b->k a b c=h a b c:=by intro a b c o;exact hM) (p:v.cells= [v]:=by first|rfl|assumption) (C:g.length+1<=1000000000:=by exact p8) (D:e<=10000:=by decide):N:=by
 have E:flat [v]= [v]:=by simp[flat,p]
 rw[x];refine eP (λG F=>by rw[a5b.1 F,p];rfl) a9l λa d=> ?_;rw[E];refine(y a d).mpr (qx (o.mono (U.ae U.a1 d)) ?_ (r a) rfl (z a) a9o rfl C D);simp[bN,U.read,U.set]
end
end Go.bz
set_option maxRecDepth 100000
namespace Go.Proofs.YtlgnfcaolejgeaaGreat
open Go Go.bz
def rotl (a:UInt32) (b:Nat):UInt32:=a<<<UInt32.ofNat b|||a>>>UInt32.ofNat (32 - b)
def Xd (a:Nat) (b:0<a/\a<32):bn .and (.int .u64 (IntKind.u64.wrap (-((32 - a:Nat):Int)))) (.int .u64 31)=some (.int .u64 a):=by have c: ∀a:Fin 32,0<a.val->IntKind.u64.wrap (BitVec.ofInt IntKind.u64.bits (IntKind.u64.wrap (-((32 - a.val:Nat))))&&&BitVec.ofInt IntKind.u64.bits 31).toNat=(a.val):=a9o;have:=c ⟨a,b.2⟩ b.1;simp only[bn,fp,hF,this];rfl
theorem Xe (c:UInt32) (a:Nat) (d:0<a/\a<32) (b:U):AC Tryz.prog 323 [.v (.int .u32 c.toNat),.v (.int .i64 (-((32 - a:Nat):Int)))] b λh k=>k=b/\h= .v (.int .u32 (rotl c a).toNat):=by refine bc hm RY a9l ?_;refine aE (Xd a d) ?_;refine⟨b,U.a1,rfl,?_⟩;grind[rotl]
def ma (b:UInt32) (d:Int) (a:Nat) (h:0<a/\a<32) (k:d= -((32 - a:Nat):Int)) (c:U):AC Tryz.prog 323 [.v (.int .u32 b.toNat),.v (.int .i64 d)] c λo p=>p=c/\o= .v (.int .u32 (rotl b a).toNat):=by subst k;exact Xe b a h c
def word (a:List UInt8) (b:Nat):UInt32:=(a.getD (4*b) 0).toUInt32<<<24|||(a.getD (4*b+1) 0).toUInt32<<<16|||(a.getD (4*b+2) 0).toUInt32<<<8|||(a.getD (4*b+3) 0).toUInt32
def Xf (a:UInt32):UInt32:=rotl a 25^^^rotl a 14^^^a>>>3
def Xg (a:UInt32):UInt32:=rotl a 15^^^rotl a 13^^^a>>>10
def more (a:List UInt32):List UInt32:=a++ [a.getD (a.length - 16) 0+Xf (a.getD (a.length - 15) 0)+a.getD (a.length - 7) 0+Xg (a.getD (a.length - 2) 0)]
def first (a:List UInt8) (b:Nat):List UInt32:=(List.range b).map (word a)
def grow:Nat->List UInt32->List UInt32
 |0,a=>a
 |b+1,a=>grow b (more a)
def sched (a:List UInt8):List UInt32:=grow 48 (first a 16)
def eh (a:List UInt32):List R:=a.map (λb=> .v (.int .u32 b.toNat))++List.replicate (64 - a.length) (.v (.int .u32 0))
def Xh:eh []=List.replicate 64 (.v (.int .u32 0)):=by rfl
variable{h6:List UInt32}
def se (a:h6.length<=64):(eh h6).length=64:=by simp[eh];omega
variable{e i v O b9 j1:Nat}
theorem x7 (a:UInt32) (b:e=h6.length) (d:h6.length<64):putAt (eh h6) e [.v (.int .u32 a.toNat)]=eh (h6++ [a]):=by subst b;have c:64 - h6.length=(64 -(h6.length+1))+1:=a9k;simp only[putAt,eh,c,a6V];grind
theorem lg (a:e<h6.length):aX false 1 ((eh h6).drop e)= .v (.int .u32 (h6.getD e 0).toNat):=by grind[aX,eh,List.map_drop,List.drop_eq_getElem_cons,List.getD]
theorem Xi (c:List UInt8) (V:Own) (i:c.length=64) (D:U):AC Tryz.prog 321 [.J (c.map al) V] D λj r=>r=D/\j= .agg ((sched c).map λP=> .v (.int .u32 P.toNat)):=by
 refine bc hm RU a9l ?_;refine eB ?_;refine aN λF l=> ?_;refine eB ?_;refine aN λG S=> ?_;obtain⟨s,S⟩:=U.gI S;refine eB ?_;refine cu (λb r=> ∃a:Nat,a<=16/\b 0= .J (c.map al) V/\b 2= .ptr F 0/\b 3= .ptr G 0/\b 10= .v (.int .i64 a)/\r=(D.set F (.cells (List.replicate 64 (.v (.int .u32 0))))).set G (.cells (eh (first c a))))
  (λb _=>match b 10 with| .v (.int _ T)=>(16 - T).toNat| _=>0) ⟨0,a9k,?_⟩ ?_
 .simp -dsimp -implicitDefEqProofs (disch:=first|omega|assumption|(simp only[bk,Nat.reduceAdd];try omega)) only[go_sem,↓reduceIte,Nat.reduceEqDiff,Nat.reduceAdd,Nat.reduceSub,Nat.reduceMul,Nat.reduceLeDiff,Nat.reduceLT,Int.reduceNeg,Int.reduceToNat,Int.reduceAdd,Int.reduceSub,Int.reduceMul,Int.reduceLT,Int.reduceLE,Int.reduceEq,Int.reduceNe,first,List.range_zero,Xh]
  all_goals (simp)
 .rintro b r ⟨a,m,W,d,h,e,rfl⟩;have f:(first c a).length=a:=by simp[first]
  by_cases k:(a:Int)<16
  .have o:(eh (first c a)).length=64:=se a9k;have n:(4*(a:Int)).toNat=4*a:=a9k;have x:(4*(a:Int)+1).toNat=4*a+1:=a9k;have y:(4*(a:Int)+2).toNat=4*a+2:=a9k;have z:(4*(a:Int)+3).toNat=4*a+3:=a9k;have t:(a:Int).toNat+1<=64:=a9k;refine aE (gj @W @d @h @e @k @o @i @n @x @y @z) ?_;rw[x7 _ f.symm a9k];refine⟨⟨a+1,a9k,a9l,?_⟩,a9k⟩;simp only[first,a8F,a5J,a5f,a6u];rfl
  .obtain rfl:a=16:=a9k;refine aE (bm @W @d @h @e @k) ?_;refine cu (λb r=> ∃(p:List UInt32) (a:Nat),a<=48/\p.length=16+a/\grow (48 - a) p=sched c/\b 2= .ptr F 0/\b 3= .ptr G 0/\b 5= .v (.int .i64 ((16+a:Nat)))/\r=(D.set F (.cells (List.replicate 64 (.v (.int .u32 0))))).set G (.cells (eh p)))
    (λb _=>match b 5 with| .v (.int _ T)=>(64 - T).toNat| _=>0) ⟨first c 16,0,a9k,f,rfl,?_⟩ ?_
   .simp -dsimp -implicitDefEqProofs (disch:=first|omega|assumption|(simp only[bk,Nat.reduceAdd];try omega)) only[go_sem,↓reduceIte,Nat.reduceEqDiff,Nat.reduceAdd,Nat.reduceSub,Nat.reduceMul,Nat.reduceLeDiff,Nat.reduceLT,Int.reduceNeg,Int.reduceToNat,Int.reduceAdd,Int.reduceSub,Int.reduceMul,Int.reduceLT,Int.reduceLE,Int.reduceEq,Int.reduceNe,d,h,grow];rfl
   .rintro b r ⟨p,a,m,L,g,d,h,C,rfl⟩;by_cases k:((16+a:Nat):Int)<64
    .have o:(eh p).length=64:=se a9k;have x:(((16+a:Nat):Int) - 15).toNat=a+1:=a9k;have y:(((16+a:Nat):Int) - 2).toNat=a+14:=a9k;have z:(((16+a:Nat):Int) - 16).toNat=a:=a9k;have E:(((16+a:Nat):Int) - 7).toNat=a+9:=a9k;refine aE (cf @d @h @C @k @x @y @z @E @o @lg) ?_;refine ai (ma _ _ 25 a9o a9o _) ?_;rintro _ _ ⟨rfl,rfl⟩;refine aE (cf @d @h @C @k @x @y @z @E @o @lg) ?_;refine ai (ma _ _ 14 a9o a9o _) ?_;rintro _ _ ⟨rfl,rfl⟩;refine aE (cf @d @h @C @k @x @y @z @E @o @lg) ?_;refine ai (ma _ _ 15 a9o a9o _) ?_;rintro _ _ ⟨rfl,rfl⟩;refine aE (cf @d @h @C @k @x @y @z @E @o @lg) ?_;refine ai (ma _ _ 13 a9o a9o _) ?_;rintro _ _ ⟨rfl,rfl⟩;refine aE (cf @d @h @C @k @x @y @z @E @o @lg) ?_;rw[x7 _ L.symm a9k];refine⟨⟨_,a+1,a9k,by simp[L];omega,?_,?_,rfl⟩,a9k⟩
     .rw[<-g,show 48 - a=(48 -(a+1))+1 by omega,grow,more,L];rw[show 16+a - 16=a by omega,show 16+a - 15=a+1 by omega,show 16+a - 7=a+9 by omega,show 16+a - 2=a+14 by omega];rfl
     .simp;omega
    .obtain rfl:a=48:=a9k;have o:(eh p).length=64:=se a9k;have q:(eh p).take 64=p.map λP=> .v (.int .u32 P.toNat):=by grind[eh,List.take_of_length_le]
     have u:p=sched c:=g;refine aE (c6 @d @h @C @k @o @q @L) ?_;exact⟨D,U.ae (U.ae U.a1 l) S,rfl,by grind⟩
def wl (a:List UInt32):List R:=a.map λb=> .v (.int .u32 b.toNat)
theorem eJ:(wl h6).length=h6.length:=by simp[wl]
theorem hq (a:e<h6.length):aX false 1 ((wl h6).drop e)= .v (.int .u32 (h6.getD e 0).toNat):=by simp only[aX,wl];simp_all
def p9 (a:0<h6.length):aX false 1 (wl h6)= .v (.int .u32 (h6.getD 0 0).toNat):=hq (e:=0) a
def Cs (a:UInt32) (b:e<h6.length):putAt (wl h6) e [.v (.int .u32 a.toNat)]=wl (h6.set e a):=by simp only[putAt,wl,a4M,a4R,<-a8k,<-a7B];rw[a5Y,if_pos b];simp
def nc:List UInt32:= [
 0x428a2f98,0x71374491,0xb5c0fbcf,0xe9b5dba5,0x3956c25b,0x59f111f1,0x923f82a4,0xab1c5ed5,
 0xd807aa98,0x12835b01,0x243185be,0x550c7dc3,0x72be5d74,0x80deb1fe,0x9bdc06a7,0xc19bf174,
 0xe49b69c1,0xefbe4786,0x0fc19dc6,0x240ca1cc,0x2de92c6f,0x4a7484aa,0x5cb0a9dc,0x76f988da,
 0x983e5152,0xa831c66d,0xb00327c8,0xbf597fc7,0xc6e00bf3,0xd5a79147,0x06ca6351,0x14292967,
 0x27b70a85,0x2e1b2138,0x4d2c6dfc,0x53380d13,0x650a7354,0x766a0abb,0x81c2c92e,0x92722c85,
 0xa2bfe8a1,0xa81a664b,0xc24b8b70,0xc76c51a3,0xd192e819,0xd6990624,0xf40e3585,0x106aa070,
 0x19a4c116,0x1e376c08,0x2748774c,0x34b0bcb5,0x391c0cb3,0x4ed8aa4a,0x5b9cca4f,0x682e6ff3,
 0x748f82ee,0x78a5636f,0x84c87814,0x8cc70208,0x90befffa,0xa4506ceb,0xbef9a3f7,0xc67178f2]
def gl:List UInt32:= [0x6a09e667,0xbb67ae85,0x3c6ef372,0xa54ff53a,0x510e527f,0x9b05688c,0x1f83d9ab,0x5be0cd19]
def x8 (a:U):AC Tryz.prog 270 [] a λb c=>c=a/\b= .agg (wl gl):=by refine bc hm QR a9l ?_;refine eB ?_;refine aN λh d=> ?_;simp -dsimp -implicitDefEqProofs (disch:=first|omega|assumption|(simp only[bk,Nat.reduceAdd];try omega)) only[go_sem,simprocAttr,putAt,List.take,List.drop,List.replicate,a5V,a5a];exact⟨a,U.ae U.a1 d,rfl,rfl⟩
def Xj (a:U):AC Tryz.prog 322 [] a λb c=>c=a/\b= .agg (wl nc):=by refine bc hm RW a9l ?_;refine eB ?_;refine aN λh d=> ?_;simp -dsimp -implicitDefEqProofs (disch:=first|omega|assumption|(simp only[bk,Nat.reduceAdd];try omega)) only[go_sem,simprocAttr,putAt,List.take,List.drop,List.replicate,a5V,a5a];exact⟨a,U.ae U.a1 d,rfl,rfl⟩
def sf (p r:UInt32):List UInt32->List UInt32
 | [a,c,d,x,b,h,k,y]=>
  let o:=y+(rotl b 26^^^rotl b 21^^^rotl b 7)+(b&&&h^^^ ~~~b&&&k)+p+r
  let z:=(rotl a 30^^^rotl a 19^^^rotl a 10)+(a&&&c^^^a&&&d^^^c&&&d)
  [o+z,a,c,d,x+o,b,h,k]
 |C=>C
def iv:List UInt32->List UInt32->List UInt32->List UInt32
 |a::bI,b::ws,v=>iv bI ws (sf a b v)
 | _,_,v=>v
def comp (a:List UInt32) (b:List UInt8):List UInt32:=List.zipWith (·+ ·) (iv nc (sched b) a) a
def jM (a:Nat) (v b:List UInt32):List UInt32:=List.zipWith (·+ ·) (v.take a) (b.take a)++v.drop a
def Ct: ∀(a:Nat) (b:List UInt32),(grow a b).length=b.length+a
 |0,b=>rfl
 |a+1,b=>by rw[grow,Ct a,more];simp;omega
def Xk (a:List UInt8):(sched a).length=64:=by simp[sched,Ct,first]
def Xl (a:List UInt8) (c:Own) (d:a.length=64) (b:U):AC Tryz.prog 321 [.J (a.map al) c] b λh k=>k=b/\h= .agg (wl (sched a)):=Xi a c d b
def Cu (v b:List UInt32) (c:v.length=8) (d:b.length=8) (a:Nat) (h:a<8):
  (jM a v b).length=8/\(jM a v b).set a ((jM a v b).getD a 0+b.getD a 0)=jM (a+1) v b:=by
 match v,c,b,d with
 | [k,o,p,r,x,y,z,C],_,[D,E,F,G,L,P,S,T],_=>rcases(by omega:a=0\/a=1\/a=2\/a=3\/a=4\/a=5\/a=6\/a=7)with rfl|rfl|rfl|rfl|rfl|rfl|rfl|rfl<;>exact⟨rfl,rfl⟩
def Xm (a b:UInt32) (v:List UInt32) (c:v.length=8):(sf a b v).length=8:=by
 match v,c with
 | [d,h,k,o,p,r,x,a],_=>rfl
def Cv: ∀(a b v:List UInt32),v.length=8->(iv a b v).length=8
 | [],_,v,c=>by trivial
 | _:: _,[],v,c=>by trivial
 |d::a,h::b,v,c=>by rw[iv];exact Cv a b _ (Xm d h v c)
theorem Cw (b c v:List UInt32) (a:Nat) (d:a<b.length) (h:a<c.length):iv (b.drop a) (c.drop a) v=iv (b.drop (a+1)) (c.drop (a+1)) (sf (b.getD a 0) (c.getD a 0) v):=by grind[List.drop_eq_getElem_cons,iv,List.getD]
theorem Xn (c x y:List UInt32) (I:List UInt8) (K:Own) (t:c.length=8) (N:x.length=64) (O:y.length=64)
  (Q: ∀o,AC Tryz.prog 322 [] o λT p=>p=o/\T= .agg (wl x))
  (X: ∀o,AC Tryz.prog 321 [.J (I.map al) K] o λT p=>p=o/\T= .agg (wl y)) (o:U):
  AC Tryz.prog 271 [.agg (wl c),.J (I.map al) K] o λT p=>p=o/\T= .agg (wl (List.zipWith (·+ ·) (iv x y c) c)):=by
 refine bc hm QT a9l ?_;have z:(wl c).length=8:=by rw[eJ,t]
 have C:(wl x).length=64:=by rw[eJ,N]
 have D:(wl y).length=64:=by rw[eJ,O]
 refine aE @z ?_;refine aN λW Y=> ?_;refine aE @z ?_;refine aN λe u=> ?_;obtain⟨k6,u⟩:=U.gI u;refine aE @z ?_;refine ai (X _) ?_;rintro _ _ ⟨rfl,rfl⟩;refine aE @z ?_;refine ai (Q _) ?_;rintro _ _ ⟨rfl,rfl⟩;refine aE @z ?_;refine aN λw V=> ?_;obtain⟨k7,V⟩:=U.gI V;obtain⟨k8,V⟩:=U.gI V;refine aE @z ?_;refine aN λA S=> ?_;obtain⟨k9,S⟩:=U.gI S;obtain⟨l0,S⟩:=U.gI S;obtain⟨l1,S⟩:=U.gI S;refine aE @z ?_;refine aN λf E=> ?_;obtain⟨l2,E⟩:=U.gI E;obtain⟨l3,E⟩:=U.gI E;obtain⟨l4,E⟩:=U.gI E;obtain⟨l5,E⟩:=U.gI E;refine aE (aJ @z @C @D @a4I.{0}) ?_;refine cu (λb p=> ∃(a:Nat) (v:List UInt32),a<=64/\v.length=8/\iv (x.drop a) (y.drop a) v=iv x y c/\b 2= .ptr W 0/\b 4= .ptr e 0/\b 5= .ptr w 0/\b 6= .ptr A 0/\b 7= .ptr f 0/\b 18= .v (.int .i64 a)/\
   p=(((((o.set W (.cells (wl c))).set e (.cells (List.replicate 8 (.v (.int .u32 0))))).set w (.cells (wl y))).set A (.cells (wl x))).set f (.cells (wl v))))
  (λb _=>match b 18 with| .v (.int _ B)=>(64 - B).toNat| _=>0) ⟨0,c,a9k,t,rfl,?_⟩ ?_
 .exact qs
  all_goals (trivial)
 .rintro b p ⟨a,v,Z,H,j9,d,h,F,G,k,L,rfl⟩;have P:(wl v).length=8:=by rw[eJ,H]
  by_cases r:(a:Int)<64
  .obtain⟨g,i,j,l,m,n,q,s,rfl⟩: ∃g i j l m n q s,v= [g,i,j,l,m,n,q,s]:=by
    match v,H with
    | [g,i,j,l,m,n,q,s],_=>simp
   refine aE (ft @d @h @F @G @k @L @r @P @C @D @hq @p9 @a5q.{0} @a5s.{0}) ?_;refine ai (ma _ _ 26 a9o a9o _) ?_;rintro _ _ ⟨rfl,rfl⟩;refine aE (ft @d @h @F @G @k @L @r @P @C @D @hq @p9 @a5q.{0} @a5s.{0}) ?_;refine ai (ma _ _ 21 a9o a9o _) ?_;rintro _ _ ⟨rfl,rfl⟩;refine aE (ft @d @h @F @G @k @L @r @P @C @D @hq @p9 @a5q.{0} @a5s.{0}) ?_;refine ai (ma _ _ 7 a9o a9o _) ?_;rintro _ _ ⟨rfl,rfl⟩;refine aE (ft @d @h @F @G @k @L @r @P @C @D @hq @p9 @a5q.{0} @a5s.{0}) ?_;refine ai (ma _ _ 30 a9o a9o _) ?_;rintro _ _ ⟨rfl,rfl⟩;refine aE (ft @d @h @F @G @k @L @r @P @C @D @hq @p9 @a5q.{0} @a5s.{0}) ?_;refine ai (ma _ _ 19 a9o a9o _) ?_;rintro _ _ ⟨rfl,rfl⟩;refine aE (ft @d @h @F @G @k @L @r @P @C @D @hq @p9 @a5q.{0} @a5s.{0}) ?_;refine ai (ma _ _ 10 a9o a9o _) ?_;rintro _ _ ⟨rfl,rfl⟩;simp -dsimp -implicitDefEqProofs (disch:=first|omega|assumption|(simp only[bk,Nat.reduceAdd];try omega)) only[go_sem,↓reduceIte,Nat.reduceEqDiff,Nat.reduceAdd,Nat.reduceSub,Nat.reduceMul,Nat.reduceLeDiff,Nat.reduceLT,Int.reduceNeg,Int.reduceToNat,Int.reduceAdd,Int.reduceSub,Int.reduceMul,Int.reduceLT,Int.reduceLE,Int.reduceEq,Int.reduceNe,d,h,F,G,k,L,r,P,C,D,hq,p9,a5q,a5s,putAt,List.take,List.drop,List.replicate,a5V,a5a];refine⟨⟨a+1,sf (x.getD a 0) (y.getD a 0) [g,i,j,l,m,n,q,s],a9k,rfl,?_,a9l,rfl⟩,a9k⟩;grind[Cw]
  .obtain rfl:a=64:=a9k;have k0:iv x y c=v:=by rw[<-j9,a6d a9k];rfl
   refine aE (cf @d @h @F @G @k @L @r @P @C @D) ?_;refine cu (λb p=> ∃a:Nat,a<=8/\b 2= .ptr W 0/\b 4= .ptr e 0/\b 7= .ptr f 0/\b 108= .v (.int .i64 a)/\
     p=(((((o.set W (.cells (wl c))).set e (.cells (List.replicate 8 (.v (.int .u32 0))))).set w (.cells (wl y))).set A (.cells (wl x))).set f (.cells (wl (jM a v c)))))
    (λb _=>match b 108 with| .v (.int _ B)=>(8 - B).toNat| _=>0) ⟨0,a9k,?_⟩ ?_
   .refine aE (aH @d @h @k) ?_;rfl
   .rintro b p ⟨a,Z,d,h,k,M,rfl⟩;by_cases r:(a:Int)<8
    .obtain⟨k1,k2⟩:=Cu v c H t a a9k;have k3:(wl (jM a v c)).length=8:=by rw[eJ,k1]
     refine aE (cf @d @h @k @M @r @z @k3 @hq @Cs @k2) ?_;grind
    .obtain rfl:a=8:=a9k;have k4:jM 8 v c=List.zipWith (·+ ·) v c:=by grind[jM,List.take_of_length_le,List.drop_of_length_le]
     have k5:(wl (List.zipWith (·+ ·) v c)).length=8:=by rw[eJ];simp;omega
     rw[k4];refine aE (c6 @d @h @k @M @r @k5 @a4I.{0}) ?_;refine⟨o,?_,rfl,by rw[k0]⟩;exact U.ae (U.ae (U.ae (U.ae (U.ae U.a1 Y) u) V) S) E
def Cx (b:List UInt32) (a:List UInt8) (c:Own) (h:b.length=8) (k:a.length=64) (d:U):
  AC Tryz.prog 271 [.agg (wl b),.J (a.map al) c] d λo p=>p=d/\o= .agg (wl (comp b a)):=
 Xn b nc (sched a) a c h rfl (Xk a) Xj (Xl a c k) d
def x9 (a:List UInt32) (c:List UInt8) (b:a.length=8):(comp a c).length=8:=by simp[comp,Cv _ _ _ b,b]
def bytes (a:List UInt8) (b:Own):R:= .J (a.map al) b
def cH (a:Nat):List UInt8:= [UInt8.ofNat (a>>>56),UInt8.ofNat (a>>>48),UInt8.ofNat (a>>>40),UInt8.ofNat (a>>>32),UInt8.ofNat (a>>>24),UInt8.ofNat (a>>>16),UInt8.ofNat (a>>>8),UInt8.ofNat (a>>>0)]
theorem Cy (b:Nat) (x:U):AC Tryz.prog 272 [.v (.int .u64 b)] x λC h=> ∃c,bf x h 1 ((cH b).map al) c/\C= .J ((cH b).map al) c:=by
 refine bc hm QV a9l ?_;refine eB ?_;refine cu (λd h=> ∃(a:Nat) (c:Own),a<=8/\bf x h 1 (((cH b).take a).map al) c/\d 0= .v (.int .u64 b)/\d 3= .J (((cH b).take a).map al) c/\d 4= .v (.int .i64 (56 - 8*(a))))
  (λd _=>match d 4 with| .v (.int _ b)=>(b+8).toNat| _=>0) ⟨0,.nil,a9k,bf.UZ U.a1,?_⟩ ?_
 .refine eB ?_;rfl
 .rintro d h ⟨a,c,G,y,k,o,p⟩;by_cases r:(0)<=56 - 8*(a:Int)
  .refine aE (bm @k @o @p @r @iq) ?_;refine rY U.a1 λL P D=> ?_;refine aE (aJ @k @o @p @r) ?_;refine wK (y.mono D.sub) (by simp[cH];omega) λE S F=> ?_;refine aE (aJ @k @o @p @r) ?_;refine⟨⟨a+1,E,a9k,?_,?_⟩,a9k⟩
   .have z:(cH b).take (a+1)=(cH b).take a++ [UInt8.ofNat (b>>>(56 - 8*(a:Int)).toNat)]:=by rcases(by omega:a=0\/a=1\/a=2\/a=3\/a=4\/a=5\/a=6\/a=7)with rfl|rfl|rfl|rfl|rfl|rfl|rfl|rfl<;>rfl
    rw[z];exact F
   .have z:(cH b).take (a+1)=(cH b).take a++ [UInt8.ofNat (b>>>(56 - 8*(a:Int)).toNat)]:=by rcases(by omega:a=0\/a=1\/a=2\/a=3\/a=4\/a=5\/a=6\/a=7)with rfl|rfl|rfl|rfl|rfl|rfl|rfl|rfl<;>rfl
    grind
  .obtain rfl:a=8:=a9k;refine aE (aJ @k @o @p @r) ?_;exact⟨h,U.a1,c,y,rfl⟩
def pa (b:List (List UInt8×Own)):List R:=b.map λa=> .J (a.1.map al) a.2
def chunk (a:List UInt8):List UInt8:=cH a.length++a
def preB (a:UInt8) (b:List (List UInt8)):List UInt8:=a::b.flatMap chunk
def xa (a:UInt8): ∀b:List (List UInt8),b.length<(preB a b).length
 | []=>by simp[preB]
 |d::c=>by
  have:=xa a c;simp only[preB,a4M,a5j,a4J,chunk,cH,a4R]at this|-;omega
def Xo (b:UInt8) (c:List (List UInt8×Own)) (p:Own) (S:(preB b (c.map (·.1))).length<=70368744177664) (G:U):
  AC Tryz.prog 189 [.v (.int .u8 b.toNat),.J (pa c) p] G λT r=> ∃p,bf G r 1 ((preB b (c.map (·.1))).map al) p/\T= .J ((preB b (c.map (·.1))).map al) p:=by
 refine bc hm OR a9l ?_;refine eB ?_;refine rY U.a1 λV n W=> ?_;refine eB ?_;refine cu (λh r=> ∃(a k:List (List UInt8×Own)) (E:Own),c=a++k/\bf G r 1 ((preB b (a.map (·.1))).map al) E/\h 5= .J ((preB b (a.map (·.1))).map al) E/\h 10= .J (pa c) p/\h 11= .v (.int .i64 c.length)/\h 12= .v (.int .i64 a.length))
  (λh _=>match h 12 with| .v (.int _ e)=>(c.length - e).toNat| _=>0) ⟨[],c,V,rfl,W,?_⟩ ?_
 .refine eB ?_;exact⟨rfl,by simp[pa]⟩
 .rintro h r ⟨a,k,E,rfl,L,x,y,z,C⟩;cases k with
  |nil=>have o: ¬(a.length:Int)<((a++ []).length):=a9l;refine aE (bm @x @y @z @C @o) ?_;simp only[a5M]at*;exact⟨r,U.a1,E,L,rfl⟩
  |cons f k=>
   obtain⟨d,D⟩:=f;have o:(a.length:Int)<((a++(d,D)::k).length):=a9m;have F:(pa (a++(d,D)::k))[a.length]? =some (.J (d.map al) D):=by simp[pa]
   have q:(preB b (a.map (·.1))).length+8+d.length<=70368744177664:=by refine a5F ?_ S;simp[preB,chunk,cH];omega
   have g:=xa b (a.map (·.1));rw[a4T]at g;refine aE (c6 @x @y @z @C @o @F @hJ) ?_;refine ai (Cy d.length _) ?_;rintro _ s ⟨t,i,rfl⟩;refine aE (c6 @x @y @z @C @o @F @hJ) ?_;refine mT (L.mono i.sub) ?_ λu v j=> ?_
   .simp only[cH,a4M,a4R];omega
   refine aE (c6 @x @y @z @C @o @F @hJ) ?_;refine mT j ?_ λl w P=> ?_
   .simp only[cH,a4J,a4M,a4R];omega
   refine aE (c6 @x @y @z @C @o @F @hJ) ?_;have m:preB b (a.map (·.1))++cH d.length++d=preB b ((a++ [(d,D)]).map (·.1)):=by simp[preB,chunk]
   rw[m]at P|-;refine⟨⟨a++ [(d,D)],k,l,a9l,P,rfl,?_⟩,?_⟩
   .simp
   omega
def blocks:Nat->List UInt32->List UInt8->List UInt32
 |0,a,_=>a
 |b+1,a,aP=>blocks b (comp a (aP.take 64)) (aP.drop 64)
def pb: ∀(b:Nat) (a:List UInt32) (aP:List UInt8),a.length=8->(blocks b a aP).length=8
 |0,_,_,c=>c
 |b+1,a,aP,c=>by rw[blocks];exact pb b _ _ (x9 a _ c)
theorem u0: ∀(a:Nat) (b:List UInt32) (aP:List UInt8),blocks (a+1) b aP=comp (blocks a b aP) ((aP.drop (64*a)).take 64)
 |0,b,aP=>by rfl
 |a+1,b,aP=>by
  rw[blocks,u0 a,blocks,a5w];grind
theorem Cz: ∀(a b:Nat) (c:List UInt32) (aP:List UInt8),blocks (a+b) c aP=blocks b (blocks a c aP) (aP.drop (64*a))
 |0,b,c,aP=>by simp[blocks]
 |a+1,b,c,aP=>by
  rw[show a+1+b=(a+b)+1 by omega,blocks,Cz a b,blocks,a5w,show 64+64*a=64*(a+1) by omega]
theorem CA: ∀(a:Nat) (b:List UInt32) (aP c:List UInt8),64*a<=aP.length->blocks a b (aP++c)=blocks a b aP
 |0,_,_,_,_=>rfl
 |a+1,b,aP,c,d=>by
  rw[blocks,blocks,a6i a9k,a6j a9k];exact CA a _ _ _ a9m
variable{n b3:R}
section
variable {h:List UInt32}(hh:h.length=8)
include hh
def mb:(wl h++ [n,b3]).length=10:=by simp[wl,hh]
def qy:(wl h++ [n,b3]).drop 9= [b3]:=by rw[show(9)=(wl h).length+1 by rw[eJ,hh],<-a5w,a7s];rfl
theorem qz:(wl h++ [n,b3]).drop 8= [n,b3]:=by grind[wl,eJ,List.drop_left]
theorem qA:(wl h++ [n,b3]).take 8=wl h:=by grind[wl,eJ,List.take_left]
theorem xb {a:R} :putAt (wl h++ [n,b3]) 9 [a]=wl h++ [n,a]:=by simp_all [eJ,putAt,a7R,a4I]
theorem u1 {a:R} :putAt (wl h++ [n,b3]) 8 [a]=wl h++ [a,b3]:=by simp_all [eJ,putAt,a6g]
theorem xc (a:h6.length=8):putAt (wl h++ [n,b3]) 0 (wl h6)=wl h6++ [n,b3]:=by grind[wl,eJ,putAt,List.take_append,List.drop_append,List.drop_of_length_le]
end
variable{f t e4:U}{Y:br}
theorem U.pc (a:f e=some Y):f.set e Y=f:=by grind[U.set]
theorem U.CB {c:br} (d:(f.set e c).sub t):(f.set e Y).sub (t.set e Y):=λh k a=>by
 rw[U.tH]at a|-;split;simp_all
 .rename_i b;rw[if_neg b]at a;exact d h k (by rw[U.tH,if_neg b];exact a)
theorem Xp (h:List UInt32) (a:h.length=8) (T: ∀o,AC Tryz.prog 270 [] o λV p=>p=o/\V= .agg (wl h)) (b:List UInt8) (W:Own) (s:b.length<=70368744177664) (o:U) (k:Nat) (e:o k=some (.cells (wl h++ [.J [] .nil,.v (.int .u64 0)]))):
  AC Tryz.prog 187 [.ptr k 0,.J (b.map al) W] o λ_ p=> ∃r,p=o.set k (.cells (wl (blocks (b.length/64) h b)++ [.J ((b.drop (64*(b.length/64))).map al) r,.v (.int .u64 b.length)])):=by
 refine bc hm ON a9l ?_;have E:(wl h).length=8:=by rw[eJ,a]
 rw[<-U.pc e];simp -dsimp -implicitDefEqProofs (disch:=first|omega|assumption|(simp only[bk,Nat.reduceAdd];try omega)) only[go_sem,simprocAttr,mb a,qy a,qz a,qA a,xb a,u1 a];refine ai (T _) ?_;rintro _ _ ⟨rfl,rfl⟩;simp -dsimp -implicitDefEqProofs (disch:=first|omega|assumption|(simp only[bk,Nat.reduceAdd];try omega)) only[go_sem,simprocAttr,mb a,qy a,qz a,qA a,xb a,u1 a,xc a a,E];refine dd U.a1 (by simp[aT]) λt u F=> ?_;have G:=F.sub k _ (U.ah _ _ _);simp -dsimp -implicitDefEqProofs (disch:=first|omega|assumption|(simp only[bk,Nat.reduceAdd];try omega)) only[go_sem,simprocAttr,U.aI G,U.af G,mb a,qy a,qz a,qA a,xb a,u1 a,xc a a,E];refine ea F (by simp[aT]) (by simp[aT]) a9l a9l λv w f=> ?_;refine eB ?_;refine mT (B:= []) f a9m λg i L=> ?_;have j:=L.sub k _ (U.ah _ _ _);rw[<-U.pc j];simp -dsimp -implicitDefEqProofs (disch:=first|omega|assumption|(simp only[bk,Nat.reduceAdd];try omega)) only[go_sem,simprocAttr,a8u,a5a];refine cu (λx p=> ∃(c:Nat) (r:Own),64*c<=b.length/\x 0= .ptr k 0/\x 4= .J ((b.drop (64*c)).map al) r/\p=i.set k (.cells (wl (blocks c h b)++ [.J [] .nil,.v (.int .u64 b.length)])))
  (λx _=>match x 4 with| .J xs _=>xs.length| _=>0) ⟨0,g,a9k,?_⟩ ?_
 .simp -dsimp -implicitDefEqProofs (disch:=first|omega|assumption|(simp only[bk,Nat.reduceAdd];try omega)) only[go_sem,simprocAttr,a8u];rfl
 .rintro x p ⟨c,r,A,C,D,rfl⟩;have d:=pb c h b a;generalize P:blocks c h b=z at*;have B:(wl z).length=8:=by rw[eJ,d]
  by_cases y:(64)<=((b.drop (64*c)).length:Int)
  .have l:=y;rw[a4Y]at l;simp -dsimp -implicitDefEqProofs (disch:=first|omega|assumption|(simp only[bk,Nat.reduceAdd];try omega)) only[go_sem,simprocAttr,C,D,y,mb d,qA d];have m:((b.drop (64*c)).take (64:Int).toNat).length=64:=a9m;refine ai (Cx z _ _ d m _) ?_;rintro _ _ ⟨rfl,rfl⟩;have S:=x9 z ((b.drop (64*c)).take 64) d;have n:(wl (comp z ((b.drop (64*c)).take 64))).length=8:=by rw[eJ,S]
   simp -dsimp -implicitDefEqProofs (disch:=first|omega|assumption|(simp only[bk,Nat.reduceAdd];try omega)) only[go_sem,simprocAttr,C,D,y,mb d,xc d S,n];refine⟨⟨c+1,.any,a9k,?_,?_⟩,by simp only[a4Y];omega⟩;grind[List.drop_drop]
   .rw[u0,P]
  .simp -dsimp -implicitDefEqProofs (disch:=first|omega|assumption|(simp only[bk,Nat.reduceAdd];try omega)) only[go_sem,simprocAttr,C,D,y,mb d,u1 d];rw[a4Y]at y;have q:b.length/64=c:=a9k;refine⟨o.set k _,U.CB L.sub,r,?_⟩;rw[q,P]
def Xq (a:List UInt8) (d:Own) (h:a.length<=70368744177664) (b:U) (c:Nat) (k:b c=some (.cells (wl gl++ [.J [] .nil,.v (.int .u64 0)]))):
  AC Tryz.prog 187 [.ptr c 0,.J (a.map al) d] b λ_ o=> ∃p,o=b.set c (.cells (wl (blocks (a.length/64) gl a)++ [.J ((a.drop (64*(a.length/64))).map al) p,.v (.int .u64 a.length)])):=
 Xp gl rfl x8 a d h b c k
def ei (a:Nat):Nat:=(55+64 - a%64)%64
def iY (a:Nat) (b:List UInt8):List UInt8:=b++128::List.replicate (ei a) 0++cH (8*a)
def xd (a:UInt32):List UInt8:= [(a>>>24).toUInt8,(a>>>16).toUInt8,(a>>>8).toUInt8,a.toUInt8]
def ej (a:List UInt32):List UInt8:=a.flatMap xd
def cJ (a:List UInt8):R:= .agg (a.map al)
def hQ (a:List UInt8):List R:=a.map al++List.replicate (32 - a.length) (.v (.int .u8 0))
variable{B:List UInt8}
def u2 (a:B.length<=32):(hQ B).length=32:=by simp[hQ];omega
def xe (a:UInt8) (b:e=B.length) (d:B.length<32):putAt (hQ B) e [.v (.int .u8 a.toNat)]=hQ (B++ [a]):=by subst b;have c:32 - B.length=(32 -(B.length+1))+1:=a9k;simp only[putAt,hQ,c,a6V];simp[a6g,al]
def u3: ∀a:List UInt32,(ej a).length=4*a.length
 | []=>rfl
 |c::b=>by simp only[ej,a5j,a4J]at*;have:=u3 b;simp only[ej]at this;rw[this];simp[xd];omega
theorem Xr (m:List UInt32) (a08:m.length=8) (k4: ∀F,AC Tryz.prog 270 [] F λn p=>p=F/\n= .agg (wl m)) (r:List UInt32) (x:r.length=8) (a:Nat) (k:List UInt8) (H:Own) (a09:a<=70368744177664) (I:k.length=a%64) (k5:a=0->r=m)
  (F:U) (S:Nat) (T:F S=some (.cells (wl r++ [.J (k.map al) H,.v (.int .u64 a)]))):
  AC Tryz.prog 188 [.ptr S 0] F λn p=>p=F/\n=cJ (ej (blocks ((iY a k).length/64) r (iY a k))):=by
 refine bc hm OP a9l ?_;have K:(wl r).length=8:=by rw[eJ,x]
 refine eB ?_;refine aN λG q=> ?_;have k6:S≠G:=by rintro rfl;rw[q]at T;cases T
 simp -dsimp -implicitDefEqProofs (disch:=first|omega|assumption|(simp only[bk,Nat.reduceAdd];try omega)) only[go_sem,↓reduceIte,Nat.reduceEqDiff,Nat.reduceAdd,Nat.reduceSub,Nat.reduceMul,Nat.reduceLeDiff,Nat.reduceLT,Int.reduceNeg,Int.reduceToNat,Int.reduceAdd,Int.reduceSub,Int.reduceMul,Int.reduceLT,Int.reduceLE,Int.reduceEq,Int.reduceNe,U.af T,mb x,qy x,qz x,qA x];refine aN λL f=> ?_;obtain⟨M,f⟩:=U.gI f;have k7:S≠L:=by rintro rfl;rw[f]at T;cases T
 simp -dsimp -implicitDefEqProofs (disch:=first|omega|assumption|(simp only[bk,Nat.reduceAdd];try omega)) only[go_sem,↓reduceIte,Nat.reduceEqDiff,Nat.reduceAdd,Nat.reduceSub,Nat.reduceMul,Nat.reduceLeDiff,Nat.reduceLT,Int.reduceNeg,Int.reduceToNat,Int.reduceAdd,Int.reduceSub,Int.reduceMul,Int.reduceLT,Int.reduceLE,Int.reduceEq,Int.reduceNe,U.af T,mb x,qy x,qz x,qA x,K];refine BU (λb p=>b 0= .ptr S 0/\b 2= .ptr G 0/\b 3= .ptr L 0/\p=(F.set G (.cells (List.replicate 32 (.v (.int .u8 0))))).set L (.cells (wl r))) ?_ ?_ ?_
 .intro N;have k8:a=0:=by simpa using N
  have k9:=k5 k8;subst k9;refine eB ?_;refine ai (k4 _) ?_;rintro _ _ ⟨rfl,rfl⟩;exact gT @K
 .intro _;exact qs
 .rintro b p ⟨z,c,d,rfl⟩;have O:((F.set G (.cells (List.replicate 32 (.v (.int .u8 0))))).set L (.cells (wl r))) S=some (.cells (wl r++ [.J (k.map al) H,.v (.int .u64 a)])):=by rw[U.ao _ _ k7,U.ao _ _ k6];exact T
  generalize s:((F.set G (.cells (List.replicate 32 (.v (.int .u8 0))))).set L (.cells (wl r)))=l0 at*;refine aE (aH @z @c @d) ?_;refine dd U.a1 (by simp[aT]) λa10 a11 Q=> ?_;have l1:=Q.sub _ _ O;simp -dsimp -implicitDefEqProofs (disch:=first|omega|assumption|(simp only[bk,Nat.reduceAdd];try omega)) only[go_sem,↓reduceIte,Nat.reduceEqDiff,Nat.reduceAdd,Nat.reduceSub,Nat.reduceMul,Nat.reduceLeDiff,Nat.reduceLT,Int.reduceNeg,Int.reduceToNat,Int.reduceAdd,Int.reduceSub,Int.reduceMul,Int.reduceLT,Int.reduceLE,Int.reduceEq,Int.reduceNe,z,c,d,U.af l1,mb x,qz x];refine mT (B:= []) Q a9m λa13 a14 l2=> ?_;refine aE (aH @z @c @d) ?_;refine rY (a:=128) U.a1 λa15 a16 l3=> ?_;refine aE (aH @z @c @d) ?_;refine wK (l2.mono l3.sub) a9m λl4 a18 a19=> ?_;refine aE (aJ @z @c @d @a5a.{0}) ?_;refine cu (λb p=> ∃(E:Nat) (V:Own),E<=ei a/\b 0= .ptr S 0/\b 2= .ptr G 0/\b 3= .ptr L 0/\b 4= .J ((k++128::List.replicate E 0).map al) V/\bf l0 p 1 ((k++128::List.replicate E 0).map al) V)
   (λb _=>match b 4 with| .J xs _=>200 - xs.length| _=>0) ⟨0,l4,a9k,?_⟩ ?_
  .simp -dsimp -implicitDefEqProofs (disch:=first|omega|assumption|(simp only[bk,Nat.reduceAdd];try omega)) only[go_sem,↓reduceIte,Nat.reduceEqDiff,Nat.reduceAdd,Nat.reduceSub,Nat.reduceMul,Nat.reduceLeDiff,Nat.reduceLT,Int.reduceNeg,Int.reduceToNat,Int.reduceAdd,Int.reduceSub,Int.reduceMul,Int.reduceLT,Int.reduceLE,Int.reduceEq,Int.reduceNe,z,c,d];trivial
  .rintro b p ⟨E,V,a27,z,c,d,C,t⟩;have N:ei a<=63:=by unfold ei;omega
   have X:(k++128::List.replicate E 0).length=a%64+1+E:=by simp[I];omega
   by_cases P:E<ei a
   .have l5: ¬(((a%64+1+E)%64:Nat):Int)=56:=by unfold ei at P;omega
    refine aE (c6 @z @c @d @C @X @BX @l5) ?_;refine rY (a:=0) U.a1 λl6 l7 u=> ?_;refine aE (aJ @z @c @d @C) ?_;refine wK (t.mono u.sub) a9k λY v i=> ?_;have a29:k++128::List.replicate E 0++ [0]=k++128::List.replicate (E+1) 0:=by simp[a8U]
    refine aE (aJ @z @c @d @C) ?_;grind
   .obtain rfl:E=ei a:=a9k;have l8:(((a%64+1+ei a)%64:Nat):Int)=56:=by unfold ei;omega
    have l9:=t.sub _ _ O;simp -dsimp -implicitDefEqProofs (disch:=first|omega|assumption|(simp only[bk,Nat.reduceAdd];try omega)) only[go_sem,↓reduceIte,Nat.reduceEqDiff,Nat.reduceAdd,Nat.reduceSub,Nat.reduceMul,Nat.reduceLeDiff,Nat.reduceLT,Int.reduceNeg,Int.reduceToNat,Int.reduceAdd,Int.reduceSub,Int.reduceMul,Int.reduceLT,Int.reduceLE,Int.reduceEq,Int.reduceNe,z,c,d,C,X,BX,l8,ne_eq,not_true_eq_false,U.af l9,mb x,qy x];have W:(8)*(a)=((8*a:Nat):Int):=a9l;rw[W];refine ai (Cy (8*a) _) ?_;rintro _ l7 ⟨l6,u,rfl⟩;refine aE (aJ @z @c @d @C) ?_;refine mT (t.mono u.sub) (by simp[cH];omega) λY v i=> ?_;refine aE (aJ @z @c @d @C) ?_;have n0:=i.sub _ _ (by rw[<-s];exact U.ah _ _ _);have Z:=i.sub _ _ (by rw[<-s,U.ao _ _ (a4Q M)];exact U.ah _ _ _);have j9:=U.au (by rw[<-s];exact U.ae (U.ae U.a1 q) f) i.sub;rw[<-U.pc n0];have n1:k++128::List.replicate (ei a) 0++cH (8*a)=iY a k:=rfl;have a30:(iY a k).length=64*((iY a k).length/64):=by
     have:(iY a k).length=a%64+1+ei a+8:=by simp[iY,I,cH];omega
     rw[this];unfold ei;omega
    rw[n1];generalize iY a k=y at*;refine cu (λb p=> ∃(o:Nat) (V:Own),64*o<=y.length/\b 2= .ptr G 0/\b 3= .ptr L 0/\b 4= .J ((y.drop (64*o)).map al) V/\p=v.set L (.cells (wl (blocks o r y))))
     (λb _=>match b 4 with| .J xs _=>xs.length| _=>0) ⟨0,Y,a9k,?_⟩ ?_
    .refine aE (c2 @c @d) ?_;rfl
    .rintro b p ⟨o,V,a34,c,d,C,rfl⟩;have w:=pb o r y x;have j:(wl (blocks o r y)).length=8:=by rw[eJ,w]
     by_cases P:(0)<((y.drop (64*o)).length:Int)
     .have n2:=P;rw[a4Y]at n2;have a36:64<=(y.drop (64*o)).length:=by rw[a4Y];omega
      refine aE (bs @c @d @C @P @j @a4I.{0}) ?_;have n3:((y.drop (64*o)).take 64).length=64:=a9m;refine ai (Cx _ _ _ w n3 _) ?_;rintro _ _ ⟨rfl,rfl⟩;have n4:=x9 (blocks o r y) ((y.drop (64*o)).take 64) w;have n5:(wl (comp (blocks o r y) ((y.drop (64*o)).take 64))).length=8:=by rw[eJ,n4]
      refine aE (bm @c @d @C @j @n5) ?_;refine⟨⟨o+1,.any,a9k,?_,?_⟩,by simp only[a4Y];omega⟩;grind[List.drop_drop]
      .rw[u0]
     .rw[a4Y]at P;have n9:o=y.length/64:=a9k;refine aE (bm @c @d @C @a4Y.{0} @P) ?_;rw[<-n9];generalize a38:blocks o r y=D at*;refine aN λA B=> ?_;obtain⟨a42,B⟩:=U.gI B;have k0:A≠G:=by grind
      refine aE (bm @c @d @C @j @a4I.{0}) ?_;refine cu (λb p=> ∃h:Nat,h<=8/\b 2= .ptr G 0/\b 5= .ptr A 0/\b 50= .agg (wl D)/\b 51= .v (.int .i64 h)/\p=(v.set L (.cells (wl D))).set A (.cells (hQ (ej (D.take h)))))
       (λb _=>match b 51 with| .v (.int _ a)=>(8 - a).toNat| _=>0) ⟨0,a9k,?_⟩ ?_
      .refine aE (aH @c @d @C) ?_;rfl
      .rintro b p ⟨h,a43,c,k1,k2,k3,rfl⟩;have e:(ej (D.take h)).length=4*h:=by rw[u3];simp;omega
       by_cases P:(h:Int)<8
       .have a00:(hQ (ej (D.take h))).length=32:=u2 a9k;have a01:(4*(h:Int)).toNat=4*h:=a9k;have a02:(4*(h:Int)+1).toNat=4*h+1:=a9k;have a03:(4*(h:Int)+2).toNat=4*h+2:=a9k;have a04:(4*(h:Int)+3).toNat=4*h+3:=a9k;have a47: ∀(g) (l),g.length<32->putAt (hQ g) g.length [.v (.int .u8 l.toNat)]=hQ (g++ [l]):=λg l a05=>xe l rfl a05;simp -dsimp -implicitDefEqProofs (disch:=first|omega|assumption|(simp only[bk,Nat.reduceAdd];try omega)) only[go_sem,↓reduceIte,Nat.reduceEqDiff,Nat.reduceAdd,Nat.reduceSub,Nat.reduceMul,Nat.reduceLeDiff,Nat.reduceLT,Int.reduceNeg,Int.reduceToNat,Int.reduceAdd,Int.reduceSub,Int.reduceMul,Int.reduceLT,Int.reduceLE,Int.reduceEq,Int.reduceNe,c,k1,k2,k3,P,j,hq,a01,a02,a03,a04,xe,u2];refine⟨⟨h+1,a9k,a9l,?_⟩,a9k⟩;grind[ej,xd,List.getD,List.take_succ_eq_append_getElem]
       .obtain rfl:h=8:=a9k;have a00:(hQ (ej (D.take 8))).length=32:=u2 a9k;have W:D.take 8=D:=a4I a9k;have a06:hQ (ej D)=(ej D).map al:=by rw[W]at e;simp[hQ,e]
        have a07:((ej D).map al).length=32:=by rw[W]at e;simp[e]
        have a48:(ej D).length=32:=by rw[W]at e;exact e
        rw[W,a06];refine aE (lf @c @k1 @k2 @k3 @P @a07 @a4I.{0} (U.aI Z) (U.af Z) @k0 (a4Q k0) (a4Q M) @qi) ?_;refine⟨F,?_,rfl,rfl⟩;exact U.ae (U.ae (U.ae j9 f) (U.bF j9 B)) q
def Xs (b:U):AC Tryz.prog 186 [] b λc d=> ∃a,b a=none/\c= .ptr a 0/\d=b.set a (.cells (wl gl++ [.J [] .nil,.v (.int .u64 0)])):=by refine bc hm OL a9l ?_;refine eB ?_;refine ai (x8 _) ?_;rintro _ _ ⟨rfl,rfl⟩;have h:(wl gl).length=8:=rfl;have k:putAt (List.replicate 8 (R.v (Value.int IntKind.u32 0))++ [R.J [] Own.nil]++ [R.v (Value.int IntKind.u64 0)]) 0 (wl gl)=wl gl++ [.J [] .nil,.v (.int .u64 0)]:=rfl;simp -dsimp -implicitDefEqProofs (disch:=first|omega|assumption|(simp only[bk,Nat.reduceAdd];try omega)) only[go_sem,↓reduceIte,Nat.reduceEqDiff,Nat.reduceAdd,Nat.reduceSub,Nat.reduceMul,Nat.reduceLeDiff,Nat.reduceLT,Int.reduceNeg,Int.reduceToNat,Int.reduceAdd,Int.reduceSub,Int.reduceMul,Int.reduceLT,Int.reduceLE,Int.reduceEq,Int.reduceNe,h,k];refine aN λa o=> ?_;refine eB ?_;exact⟨_,U.a1,a,o,rfl,rfl⟩
def fg (a:List UInt8):List UInt8:=
 ej (blocks ((iY a.length (a.drop (64*(a.length/64)))).length/64) (blocks (a.length/64) gl a) (iY a.length (a.drop (64*(a.length/64)))))
def sg (a:List UInt8):(fg a).length=32:=by rw[fg,u3,pb _ _ _ (pb _ _ _ rfl)]
def Xt (a:List UInt8) (c:Own) (d:a.length<=70368744177664) (b:U):AC Tryz.prog 121 [.J (a.map al) c] b λk o=>o=b/\k=cJ (fg a):=by
 refine bc hm MM a9l ?_;refine eB ?_;refine aN λG p=> ?_;refine eB ?_;refine ai (Xs _) ?_;rintro _ _ ⟨h,r,rfl,rfl⟩;obtain⟨x,y⟩:=U.gI r;refine eB ?_;refine ai (Xq a c d _ h (U.ah _ _ _)) ?_;rintro _ _ ⟨z,rfl⟩;refine eB ?_;have C:(a.drop (64*(a.length/64))).length=a.length%64:=a9m;refine ai (Xr gl rfl x8 (blocks (a.length/64) gl a) (pb _ _ _ rfl) a.length (a.drop (64*(a.length/64))) z d C (λD=> ?_) _ h (U.ah _ _ _)) ?_
 .rw[D];rfl
 rintro _ _ ⟨rfl,rfl⟩;have E:((fg a).map al).length=32:=by rw[a4T,sg]
 have L:=sg a;have F:cJ (ej (blocks ((iY a.length (a.drop (64*(a.length/64)))).length/64) (blocks (a.length/64) gl a) (iY a.length (a.drop (64*(a.length/64))))))= .agg ((fg a).map al):=rfl;rw[F];generalize fg a=P at*;refine aE (c2 @E (a4Q x)) ?_;exact⟨b,U.ae (U.ae U.a1 p) y,rfl,by rw[a4I a9k];rfl⟩
def a4A (a:List (List UInt8)):Prop:= ∀b∈a,b.length=32
def aZ:(cJ B).cells=B.map al:=rfl
def ba (a:B.length=32):(.agg ((B.take 32).map al):R)=cJ B:=by rw[a4I (by simp[a])];rfl
def Xu (a:List (List UInt8)) (b:Own) (c:List (List UInt8×Own)) (d:Own) (h:Bool):br:= .cells [.J (a.map cJ) b,.J (pa c) d,.v (.bool h)]
def PS (c:U) (d:Nat) (h k:List (List UInt8)) (o:Bool) (p:U):Prop:=
 ∃r b a,a.map (·.1)=k/\bf (c.set d (Xu h r a b o)) p 1 (pa a) b
def u4:List UInt8:=List.replicate 32 0
def eN:br:= .cells (List.replicate 32 (.v (.int .u8 0)))
def Xv (a:List UInt8):br:= .cells (a.map al)
theorem CC {a:List UInt8} (b:cJ B=cJ a):B=a:=by
 have c:B.map al=a.map al:=by simpa[cJ] using b
 have d:=congrArg bytesOf c;rw[ry,ry]at d;simp_all
end Go.Proofs.YtlgnfcaolejgeaaGreat
set_option maxHeartbeats 1000000
namespace Go.Proofs.YtlgnfcaolejgeaaGreat
open Go Go.bz
structure BF where
 x:List UInt8
 y:List UInt8
 cz:List (List UInt8)
 sh:List (List UInt8)
 iw:Bool
end Go.Proofs.YtlgnfcaolejgeaaGreat
set_option maxHeartbeats 1000000
namespace Go.Proofs.YtlgnfcaolejgeaaGreat
open Go Go.bz
def u5 (a:List UInt8) (b:Own):br:= .cells [.J (a.map al) b,.v (.int .i64 0)]
def cA (c:U) (d:Nat) (a:List UInt8) (h:U):Prop:= ∃b,bf (c.set d (u5 a b)) h 1 (a.map al) b
def u6 (h k:U) (d:Nat) (a b:List UInt8) (y:Own) (c:cA h d a k) (D:a.length+b.length<=70368744177664):
  AC Tryz.prog 168 [.ptr d 0,.v (.bool true),.J (b.map al) y] k λ_ z=>cA h d (a++b) z:=by
 obtain⟨E,c⟩:=c;have C:=c.sub _ _ (U.ah _ _ _);refine bc hm Oc a9l ?_;refine aE (aJ @a5B (U.af C) @aZ @ba) ?_;refine mT c a9k λo F p=> ?_;have r:=p.sub _ _ (U.ah _ _ _);refine aE (aJ (U.af r) (U.aI r) @aZ @ba) ?_;have x:=p.set (ob:=u5 (a++b) o) (U.ah _ _ _);rw[U.set_set]at x;exact⟨_,U.a1,o,x⟩
def nd (c k:U) (a:Nat) (b:List UInt8) (d:UInt8) (h:cA c a b k) (o:b.length+1<=70368744177664):
  AC Tryz.prog 103 [.ptr a 0,.v (.int .u8 d.toNat)] k λ_ p=>cA c a (b++ [d]) p:=by
 refine bc hm Mf a9l ?_;refine aE (c2 @aZ @ba) ?_;refine rY U.a1 λr x y=> ?_;refine aE (c2 @aZ @ba) ?_;obtain⟨z,h⟩:=h;refine ai (u6 c x a b [d] r ⟨z,h.mono y.sub⟩ o) ?_;intro E C D;refine aE (c2 @aZ @ba) ?_;exact⟨C,U.a1,D⟩
def ck (a:Int):Nat:=(BitVec.ofInt 64 a^^^BitVec.ofInt 64 9223372036854775808).toNat
def hR (a:Int):List UInt8:=cH (ck a)
theorem CD (a:Int):bn .xor (.int .u64 (IntKind.u64.wrap a)) (.int .u64 9223372036854775808)=some (.int .u64 (ck a)):=by
 have b:BitVec.ofInt 64 (IntKind.u64.wrap a)=BitVec.ofInt 64 a:=by rw[kt];apply BitVec.eq_of_toInt_eq;grind
 have c:bn .xor (.int .u64 (IntKind.u64.wrap a)) (.int .u64 9223372036854775808)=some (.int .u64 (IntKind.u64.wrap (BitVec.ofInt 64 (IntKind.u64.wrap a)^^^BitVec.ofInt 64 9223372036854775808).toNat)):=rfl;rw[c,b];have d:=(BitVec.ofInt 64 a^^^BitVec.ofInt 64 9223372036854775808).isLt;rw[wrap_u64 a9k a9k];rfl
theorem Xw (o C:U) (b:Nat) (p:List UInt8) (h:Int) (E:cA o b p C) (G:p.length+8<=70368744177664):
  AC Tryz.prog 254 [.ptr b 0,.v (.int .i64 h)] C λ_ c=>cA o b (p++hR h) c:=by
 refine bc hm QF a9l ?_;refine aE (aH @CD @aZ @ba) ?_;generalize F:ck h=k;refine cu (λd c=> ∃a:Nat,a<=8/\cA o b (p++(cH k).take a) c/\d 0= .ptr b 0/\d 4= .v (.int .u64 k)/\d 5= .v (.int .i64 (56 - 8*(a))))
  (λd _=>match d 5 with| .v (.int _ h)=>(h+8).toNat| _=>0) ⟨0,a9k,by simpa using E,?_⟩ ?_
 .exact gT (c2 @aZ @ba)
 .rintro d c ⟨a,L,D,r,x,y⟩;by_cases z:(0)<=56 - 8*(a:Int)
  .refine aE (c6 @r @x @y @z @iq @aZ @ba) ?_;refine ai (nd o c b _ _ D ?_) ?_
   .simp;omega
   intro P S T;refine aE (bs @r @x @y @z @aZ @ba) ?_;refine⟨⟨a+1,a9k,?_,a9m⟩,a9k⟩;have V:(cH k).take (a+1)=(cH k).take a++ [UInt8.ofNat (k>>>(56 - 8*(a:Int)).toNat)]:=by rcases(by omega:a=0\/a=1\/a=2\/a=3\/a=4\/a=5\/a=6\/a=7)with rfl|rfl|rfl|rfl|rfl|rfl|rfl|rfl<;>rfl
   grind
  .obtain rfl:a=8:=a9k;refine aE (bs @r @x @y @z @aZ @ba) ?_;refine⟨c,U.a1,?_⟩;rw[hR,F];exact D
end Go.Proofs.YtlgnfcaolejgeaaGreat
namespace Go.bz
open Go
def CE (a:Bool) (c:R) (b:R->Prop):Prop:=
 match c with
 | .J xs d=>match d with
  | .nil=>b (.v (.bool (!a)))
  | .buf _ _=>b (.v (.bool a))
  | _=>(xs= []->b (.v (.bool (!a))))/\b (.v (.bool a))
 | .an _ _ _ _=>b (.v (.bool a))
 | _=>False
variable{s a7:R -> U -> Prop}{I:Bool}{K:Ctx}{j:Fr}{f t e4:U}{Z e9:Operand}
def o8:G K (.mD I Z) j f s=CE I (ak j Z) (bZ (λa=>s a f) ()):=rfl
variable{g A e1:List R}{M e6 h5:Own}
def o9 {a:R->Prop}{b:cB a} (c:M= .nil->g= []) (d:g= []->a (.v (.bool (!I)))) (h:a (.v (.bool I))):CE I (.J g M) (bZ a b):=by
 cases M with
 |nil=>exact d (c rfl)
 |buf k o=>exact h
 |any=>trivial
 |zero=>trivial
end Go.bz
namespace Go.Proofs.YtlgnfcaolejgeaaGreat
open Go Go.bz
def xf (a:List UInt8) (d:Own) (b:U) (k:d= .nil->a= []) (C:a.length<=70368744177664):
  AC Tryz.prog 172 [.J (a.map al) d] b λo p=> ∃h,bf b p 1 (a.map al) h/\o= .J (a.map al) h:=by
 refine bc hm Ol a9l ?_;simp -dsimp -implicitDefEqProofs (disch:=first|omega|assumption|(simp only[bk,Nat.reduceAdd];try omega)) only[go_sem,simprocAttr,aZ,ba,↓o8];refine o9 (λc=>by rw[k c];rfl) (λc=> ?_) ?_
 .have r:a= []:=by simpa using c
  subst r;refine aE (aH @a5C @aZ @ba) ?_;exact⟨b,U.a1,.nil,bf.nil U.a1,rfl⟩
 .refine aE (c2 @aZ @ba) ?_;refine dd U.a1 (by simp[aT]) λD E x=> ?_;refine aE (c2 @aZ @ba) ?_;refine mT (B:= []) x a9m λy z F=> ?_;refine aE (aH @a5a.{0} @aZ @ba) ?_;exact⟨z,U.a1,y,by trivial,rfl⟩
def CF (k b:U) (d:Nat) (a:List UInt8) (c:cA k d a b) (o:a.length<=70368744177664):
  AC Tryz.prog 106 [.ptr d 0] b λp r=> ∃h,bf b r 1 (a.map al) h/\p= .J (a.map al) h:=by
 obtain⟨x,c⟩:=c;have y:=c.sub _ _ (U.ah _ _ _);refine bc hm Ml a9l ?_;refine aE (aH (U.af y) @aZ @ba) ?_;refine ai (xf a x b (λz=> ?_) o) ?_
 .subst z;have:=c.2;simpa using this
 rintro _ C ⟨D,E,rfl⟩;refine aE (c2 @aZ @ba) ?_;exact⟨C,U.a1,D,E,rfl⟩
end Go.Proofs.YtlgnfcaolejgeaaGreat
namespace Go.bz
open Go
end Go.bz
namespace Go.Proofs.YtlgnfcaolejgeaaGreat
open Go Go.bz
def xg (a:Int) (b c:List UInt8):List R:= .v (.int .i64 a)::(b.map al++c.map al)
def Xx (a:Int) (b c:List UInt8):R:= .agg (xg a b c)
def Xy (a:Int) (b c:List UInt8):List UInt8:=preB 68 [hR a,b,c]
end Go.Proofs.YtlgnfcaolejgeaaGreat
namespace Go.bz
open Go
variable{f t e4:U}{g A e1:List R}{e i v O b9 j1:Nat}
def Xz (a:g.length=e):s0 1 e (f.set i (.ro g)) (.ptr i 0)=some (.J g .any):=V2 (U.ah _ _ _) a
end Go.bz
namespace Go.Proofs.YtlgnfcaolejgeaaGreat
open Go Go.bz
structure ix where
 n:Int
 h:List UInt8
 d:List UInt8
 deriving DecidableEq
def ix.ok (a:ix):Prop:=a.h.length=32/\a.d.length=32
def ix.C (a:ix):List R:=xg a.n a.h a.d
def ix.V (a:ix):R:=Xx a.n a.h a.d
def ix.sum (a:ix):List UInt8:=fg (Xy a.n a.h a.d)
def cA.mono {b c d:U}{h:Nat}{k:List UInt8} (a:cA b h k c) (o:c.sub d):cA b h k d:=by obtain⟨p,a⟩:=a;exact⟨p,a.mono o⟩
def cA.sub {a c:U}{d:Nat}{h:List UInt8} (b:cA a d h c) (k:a d=none):a.sub c:=by obtain⟨o,b⟩:=b;exact U.au (U.ae U.a1 k) b.sub
theorem cA.base {b c d:U}{h:Nat}{k:List UInt8} (a:cA b h k d) (o:c.sub b):cA c h k d:=by obtain⟨p,a⟩:=a;exact⟨p,a.base (U.kZ o)⟩
variable{f t e4:U}{B:List UInt8}{e i v O b9 j1:Nat}
def cA.cell (a:cA t e B f): ∃b,f e=some (u5 B b):=by obtain⟨b,a⟩:=a;exact⟨b,a.sub _ _ (U.ah _ _ _)⟩
def cA.new {d h:U}{c a:Nat}{p:List UInt8}{ob:br} (b:cA d c p h) (k:h a=none):a≠c/\d a=none/\cA (d.set a ob) c p (h.set a ob):=by
 obtain⟨r,x⟩:=b.cell;have o:a≠c:=by rintro rfl;rw[k]at x;cases x
 obtain⟨r,b⟩:=b;have y:=U.bF b.sub k;rw[U.ao _ _ o]at y;refine⟨o,y,r,?_⟩;rw[U.dZ _ o];exact b.new k
variable{Y:br}
def cA.get (a:cA f i B t) (b:e≠i) (c:f e=some Y):t e=some Y:=by obtain⟨d,a⟩:=a;exact a.sub _ _ (by rw[U.ao _ _ b];exact c)
def CG (d h:U) (a:Nat) (b c:List UInt8) (k:c.length=32) (o:cA d a b h) (y:b.length+32<=70368744177664):
  AC Tryz.prog 170 [.ptr a 0,cJ c] h λ_ p=>cA d a (b++c) p:=by
 refine bc hm Og a9l ?_;refine aE (aH @k @aZ @ba) ?_;refine aN λz r=> ?_;refine aE (aJ @k @Xz @aZ @ba) ?_;refine ai (u6 d _ a b c .any (o.mono (U.ae U.a1 r)) a9k) ?_;intro C D x;refine aE (c2 @aZ @ba) ?_;exact⟨_,U.a1,x⟩
def CH (a:Int):(hR a).length=8:=rfl
end Go.Proofs.YtlgnfcaolejgeaaGreat
