import Derived.Test.YtlgnfcaolejgeaaGreatMB
set_option linter.all false
namespace Go.bx
open Go
abbrev cy.{a}{b:Sort a} (_:b):Type:=Unit
variable{b0:Type}
def bZ (a:b0->Prop) (_:cy a) (b:b0):Prop:=a b
def bO {a:Type} (b:b0->a->Prop) (_:cy b) (c:b0) (d:a):Prop:=b c d
def cu (a:Prop) (_:cy a):Prop:=a
def iV {a:b0->Prop}{c:cy a}{b:b0}:bZ a c b=a b:=rfl
def Sx {b:Type}{a:b0->b->Prop}{h:cy a}{c:b0}{d:b}:bO a h c d=a c d:=rfl
variable{N b4 h2 h8 j1:Prop}
def Bq {a:cy N}:cu N a=N:=rfl
def iW (b:U) (c:Nat->Prop):Prop:= ∀a,b a=none->c a
def gS (a b:Prop):Prop:=a/\b
def rK {a:cy N} (b:b4):gS b4 (cu N a)=N:=by simp[gS,cu,b]
def rL {a:cy N}:gS True (cu N a)=N:=by simp[gS,cu]
variable{h6:dH}{e3:cb}{n b3:R}{s a7:R -> U -> Prop}{I:Bool}{K:Ctx}{e8:gh -> Fr -> U -> Prop}{j:Fr}{j6:Fr -> U -> Prop}{b5:FuncId}{f t e4:U}{b1:Int}{e2:IntKind}{g A e0:List R}{e i v O b8 j0:Nat}{j5:Nat -> Prop}{Y:bq}{Z e9:Operand}{M e6 h4:Own}{m:Program}{b2:TypeId}{e5:Value}
section
def Sy:bS K .skip e8 j f=e8 .norm j f:=rfl
def Sz:bS K .ret e8 j f=e8 .ret j f:=rfl
def SA:bS K (.exit e) e8 j f=e8 (.exit e) j f:=rfl
def SB {a:dH}:bS K (.seq h6 a) e8 j f=bS K h6 (eO (bS K a e8) e8) j f:=rfl
def SC:bS K (.block e h6) e8 j f=bS K h6 (kV e e8) j f:=rfl
def SD {a:List c7}:bS K (.plain a) e8 j f=iR K a (e8 .norm) j f:=rfl
def SE {a:List c7}{b:List di}:bS K (.draw a b) e8 j f=can K (nth a) (e8 .norm) b j f:=rfl
def ko (b:R) (c d:Prop):Prop:=
 match b with
 | .v (.bool a)=>(a=true->c)/\(a=false->d)
 | _=>False
def wy {a:dH}:bS K (.cond Z h6 a) e8 j f=ko (ak j Z) (cu (bS K h6 e8 j f) ()) (cu (bS K a e8 j f) ()):=rfl
def Br {a:cy N}:ko (.v (.bool true)) (cu N a) b4=N:=by simp[ko,cu]
def Bs {a:cy N}:ko (.v (.bool false)) b4 (cu N a)=N:=by simp[ko,cu]
def SF:bS K (.loop h6) e8 j f=cu (bS K (.loop h6) e8 j f) ():=rfl
def SG:eO j6 e8 .norm j f=j6 j f:=rfl
def SH:eO j6 e8 .ret j f=e8 .ret j f:=rfl
def SI:eO j6 e8 (.exit e) j f=e8 (.exit e) j f:=rfl
def SJ:kV e e8 .norm j f=e8 .norm j f:=rfl
def SK:kV e e8 .ret j f=e8 .ret j f:=rfl
def SL:kV i e8 (.exit e) j f=(if e=i then e8 .norm j f else e8 (.exit e) j f):=by simp only[kV];split<;>rfl
def SM:kV e e8 (.exit e) j f=e8 .norm j f:=by simp[kV]
def SN:iR K [] j6 j f=j6 j f:=rfl
def SO {a:Option Nat}{b:List c7}:iR K (⟨a,e3,none⟩::b) j6 j f=G K e3 j f (λc d=>iR K b j6 (dk j a c) d):=rfl
def hI (b:R) (c:Bool) (d a:Prop):Prop:=
 match b with
 | .v (.bool h)=>if h=c then d else a
 | .aK []=>a
 | _=>False
def SP {a:Option Nat}{b:List c7}:
  iR K (⟨a,e3,some (e,I)⟩::b) j6 j f=hI (j e) I (cu (G K e3 j f (λc d=>iR K b j6 (dk j a c) d)) ()) (cu (iR K b j6 (dk j a (.aK [])) f) ()):=rfl
def SQ {a:cy N}:hI (.v (.bool true)) true (cu N a) b4=N:=by simp[hI,cu]
def SR {a:cy N}:hI (.v (.bool false)) false (cu N a) b4=N:=by simp[hI,cu]
def SS {a:cy N}:hI (.v (.bool true)) false b4 (cu N a)=N:=by simp[hI,cu]
def SU {a:cy N}:hI (.v (.bool false)) true b4 (cu N a)=N:=by simp[hI,cu]
def SV {a:cy N}:hI (.aK []) I b4 (cu N a)=N:=rfl
def SX {a:Bool}:hI (.v (.bool I)) a N b4=((I=a->N)/\(I=(!a)->b4)):=by cases I<;>cases a<;>simp[hI]
def SY {a:Nat->c7}:can K a j6 [] j f=j6 j f:=rfl
def lT (a:c7) (b:c7->Prop):Prop:=b a
def SZ {a:Option Nat}{b:Option (Nat×Bool)}{c:c7->Prop}:lT ⟨a,e3,b⟩ c=c ⟨a,e3,b⟩:=rfl
def T0 {a:Nat->c7}{b:List di}:can K a j6 (⟨e,[],[]⟩::b) j f=lT (a e) (bZ (λc=>T K c (λd h=>can K a j6 b d h) j f) ()):=by simp only[can,a5W,false_implies,implies_true,true_and,lT,bZ]
def T1 {a:Nat->c7}{b c:List Nat}{d:List di}:can K a j6 (⟨e,i::b,c⟩::d) j f=gS (lT (a i) (bZ (λh=>Def K h j) ())) (cu (can K a j6 (⟨e,b,c⟩::d) j f) ()):=by simp only[can,a4T,forall_eq_or_imp,gS,lT,bZ,cu];exact propext and_assoc
def rM (c:Ctx) (a:c7) (b:Fr) (d:U):Prop:=
 match a.dst with
 |some h=>E c a b d λk _=>k=b h
 |none=>True
def nS (b:Ctx) (c:Nat->c7) (d:Fr) (h:U):List Nat->Prop->Prop
 | [],a=>a
 |k::o,a=>gS (lT (c k) (bZ (λp=>rM b p d h) ())) (cu (nS b c d h o a) ())
def T2 {a:Nat->c7}:nS K a j f [] N=N:=rfl
def T3 {a:Nat->c7}{b:List Nat}:nS K a j f (e::b) N=gS (lT (a e) (bZ (λc=>rM K c j f) ())) (cu (nS K a j f b N) ()):=rfl
theorem Bt {a:Nat->c7}{b:Prop}: ∀c,nS K a j f c b=((∀d∈c,hl K a d j f)/\b)
 | []=>by simp[nS]
 |d::h=>by simp only[nS,Bt h,gS,lT,bZ,cu,a4T,forall_eq_or_imp,hl,rM];grind
def T4 {a:Nat->c7}{b:List Nat}{c:List di}:can K a j6 (⟨e,[],i::b⟩::c) j f=lT (a e) (bZ (λk=>T K k (λd h=>nS K a d h (i::b) (can K a j6 c d h)) j f) ()):=by simp only[can,a5W,false_implies,implies_true,true_and,lT,bZ,Bt]
def T5 {a:Option Nat}:Def K ⟨a,e3,none⟩ j=G K e3 j U.emp (λ_ _=>True):=rfl
def T6:rM K ⟨some e,e3,none⟩ j f=G K e3 j f (λa _=>a=j e):=rfl
def T7 {a:cy (λ_:Nat=>True)}:iW f (bZ (λ_=>True) a)=True:=by simp[iW,bZ]
def T8 {a:c7}{b:List c7}:nth (a::b) 0=a:=rfl
def T9 {b:c7}{a:List c7}:nth (b::a) (e+1)=nth a e:=rfl
def Ta {a:Option Nat}:T K ⟨a,e3,none⟩ j6 j f=G K e3 j f (λb c=>j6 (dk j a b) c):=rfl
def Tb {a:Option Nat}:T K ⟨a,e3,some (e,I)⟩ j6 j f=hI (j e) I (cu (G K e3 j f (λb c=>j6 (dk j a b) c)) ()) (cu (j6 (dk j a (.aK [])) f) ()):=rfl
def Tc:dk j (some i) n e=if e=i then n else j e:=rfl
def Td:dk j none n e=j e:=rfl
def dD (a:Option R) (b:R->Prop):Prop:=
 match a with
 |some a=>b a
 |none=>False
def jx [Decidable N] {a:R->Prop}:dD (if N then some n else none) a=(N/\a n):=by split<;>simp[dD, *]
def Te {a:R->Prop}:dD (some n) a=a n:=rfl
def mP (a:R) (b:R->Prop):Prop:=b a
def Tf {a:R->Prop}:mP n a=a n:=rfl
def oX (a:Option (List R)) (b:List R->Prop):Prop:=
 match a with
 |some a=>b a
 |none=>False
def Tg {a:List R->Prop}:oX (some g) a=a g:=rfl
section
def Th:G K (.eZ Z) j f s=mP (ak j Z) (bZ (λa=>s a f) ()):=rfl
def tB (a b c:R):Option R:=
 match a with
 | .v (.bool d)=>some (if d then b else c)
 | _=>none
def Ti:tB (.v (.bool true)) n b3=some n:=rfl
def Tj:tB (.v (.bool false)) b3 n=some n:=rfl
def Tk {a:Operand}:G K (.pick e9 Z a) j f s=dD (tB (ak j e9) (ak j Z) (ak j a)) (bZ (λb=>s b f) ()):=by simp only[G,tB];generalize ak j e9=Z;cases Z<;>first|rfl|(rename_i v;cases v<;>rfl)
def Tl:G K (.alloc b2 g) j f s=iW f (bZ (λa=>s (.ptr a 0) (f.set a (.cells g))) ()):=rfl
def Tm:G K (.box b2 Z) j f s=mP (ak j Z) (bZ (λa=>gS (0<a.cells.length) (cu (iW f (bZ (λb=>s (.ptr b 0) (f.set b (.cells a.cells))) ())) ())) ()):=rfl
def Tn:G K (.kd b2 Z) j f s=mP (ak j Z) (bZ (λa=>gS (0<a.cells.length) (cu (iW f (bZ (λb=>s (.ptr b 0) (f.set b (.ro a.cells))) ())) ())) ()):=rfl
def dn (b:Bool) (a:Nat) (c:U) (d:R):Option R:=
 match d with
 | .ptr h off=>match c.read h with
  |some cs=>if off+a<=cs.length then some (aX b a (cs.drop off))else none
  |none=>none
 | .bV cs=>if a<=cs.length then some (aX b a cs)else none
 | _=>none
def qd (d:Bool) (b c:Nat) (a:Option (List R)):Option R:=
 match a with
 |some a=>if c+b<=a.length then some (aX d b (a.drop c))else none
 |none=>none
def To:dn I e f (.ptr i v)=qd I e v (f.read i):=rfl
def Bu (a:i+e<=g.length):qd I e i (some g)=some (aX I e (g.drop i)):=by simp[qd,a]
def Tp (a:e<=g.length):dn I e f (.bV g)=some (aX I e g):=by simp[dn,a]
def Tq:G K (.load I e Z) j f s=dD (dn I e f (ak j Z)) (bZ (λa=>s a f) ()):=by
 simp only[G,dn];generalize ak j Z=b;cases b<;>first
  |rfl
  |(simp only[jx,iV];done)
  |(rename_i c h;simp only[];generalize f.read c=d;cases d<;>first|rfl|(simp only[jx,iV]))
def ee (a:U) (b:Nat):Option (List R):=
 match a b with
 |some (.cells cs)=>some cs
 | _=>none
def wz (a:U) (b:Nat) (k:R) (c:List R) (o:U->Prop):Prop:=
 match k with
 | .ptr d off=>oX (ee a d) λh=>gS (c.length=b/\off+b<=h.length) (o (a.set d (.cells (putAt h off c))))
 | _=>False
def Tr {a:U->Prop}:wz f e (.ptr i v) g a=oX (ee f i) (bZ (λb=>gS (g.length=e/\v+e<=b.length) (cu (oX (some (putAt b v g)) (bZ (λc=>a (f.set i (.cells c))) ())) ())) ()):=rfl
def Ts:G K (.store e Z e9) j f s=wz f e (ak j Z) (ak j e9).cells (bZ (λa=>s (.aK []) a) ()):=by
 simp only[G,wz];generalize ak j Z=b;cases b<;>first
  |rfl
  |(
    rename_i c h;simp only[ee];cases f c with
    |none=>rfl
    |some d=>cases d with
     |cells cs=>exact propext and_assoc.symm
     | _=>rfl)
def rN (a:R):Option R:=
 match a with
 | .ptr b off=>some (.ptr b off)
 | .bV cs=>some (.bV cs)
 | .bG c cJ cs=>some (.bG c cJ cs)
 | _=>none
def Tt:rN (.ptr e i)=some (.ptr e i):=rfl
def Tu:rN (.bV g)=some (.bV g):=rfl
def Tv:G K (.pU Z) j f s=dD (rN (ak j Z)) (bZ (λa=>s a f) ()):=by simp only[G,rN];generalize ak j Z=b;cases b<;>first|rfl|(rename_i v;cases v<;>rfl)
def rO (a:Nat) (b:R):Option R:=
 match b with
 | .ptr c d=>some (.ptr c (d+a))
 | .bV cs=>some (.bV (cs.drop a))
 | _=>none
def Tw:rO e (.ptr i v)=some (.ptr i (v+e)):=rfl
def Tx:rO e (.bV g)=some (.bV (g.drop e)):=rfl
def Ty:G K (.kO e Z) j f s=dD (rO e (ak j Z)) (bZ (λa=>s a f) ()):=by simp only[G,rO];generalize ak j Z=b;cases b<;>first|rfl|(rename_i v;cases v<;>rfl)
def lU (b c:Nat) (d h:R):Option R:=
 match d,h with
 | .ptr k o,.v (.int _ a)=>if 0<=a/\a<c then some (.ptr k (o+a.toNat*b))else none
 | .bV cs,.v (.int _ a)=>if 0<=a/\a<c then some (.bV (cs.drop (a.toNat*b)))else none
 | _,_=>none
def rP (a:0<=b1) (b:b1<i):lU e i (.ptr v O) (.v (.int e2 b1))=some (.ptr v (O+b1.toNat*e)):=by simp[lU,a,b]
def Tz (a:0<=b1) (b:b1<i):lU e i (.bV g) (.v (.int e2 b1))=some (.bV (g.drop (b1.toNat*e))):=by simp[lU,a,b]
def TA:G K (.pV e i Z e9) j f s=dD (lU e i (ak j Z) (ak j e9)) (bZ (λa=>s a f) ()):=by
 simp only[G,lU];generalize ak j Z=b;generalize ak j e9=c;cases b<;>first
  |rfl
  |(cases c<;>first
    |rfl
    |(rename_i d;cases d<;>first
      |rfl
      |(simp only[jx,iV];exact propext and_assoc.symm)))
def ez (b:Nat) (a:Option R):Option R:=
 match a with
 |some a=>if a.cells.length=b then some (.bV a.cells)else none
 |none=>none
def jy (a:n.cells.length=e):ez e (some n)=some (.bV n.cells):=by simp[ez,a]
def cL (b:Nat) (h k:R):Option R:=
 match h,k with
 | .J xs _,.v (.int _ a)=>if 0<=a then ez b xs[a.toNat]? else none
 | .bA c off len _ d,.v (.int _ a)=>if d=b/\0<=a/\a<len then some (.ptr c (off+a.toNat*b))else none
 | .an c len _ d,.v (.int _ a)=>if d=b/\0<=a/\a<len then some (.ptr c (a.toNat*b))else none
 | _,_=>none
def hJ (a:0<=b1):cL e (.J g M) (.v (.int e2 b1))=ez e g[b1.toNat]? :=by simp[cL,a]
theorem jz (a:0<=b1) (b:b1<v):cL e (.an i v O e) (.v (.int e2 b1))=some (.ptr i (b1.toNat*e)):=by simp[cL,a,b]
theorem tC (a:0<=b1) (b:b1<O):cL e (.bA i v O b8 e) (.v (.int e2 b1))=some (.ptr i (v+b1.toNat*e)):=by simp[cL,a,b]
theorem TB:G K (.dG e Z e9) j f s=dD (cL e (ak j Z) (ak j e9)) (bZ (λc=>s c f) ()):=by
 simp only[G,cL];generalize ak j Z=d;generalize ak j e9=h;cases d<;>first
  |rfl
  |(cases h<;>first
    |rfl
    |(rename_i k;cases k<;>first
      |rfl
      |(
        simp only[jx,iV];apply propext;constructor
        .rintro⟨o,p,r,x⟩;exact⟨⟨o,p,r⟩,x⟩
        simp_all)
      |(
        rename_i y C D a;by_cases b:0<=a
        .simp only[b,true_and,if_true,ez];generalize y[a.toNat]? =z;cases z<;>first|rfl|(simp only[jx,iV])
        .simp[b,dD])))
def Bv (c:Bool) (a b:Nat) (d:R):Option R:=
 match d with
 | .agg cs=>if a+b<=cs.length then some (aX c b (cs.drop a))else none
 | _=>none
def TC (a:e+i<=g.length):Bv I e i (.agg g)=some (aX I i (g.drop e)):=by simp[Bv,a]
def tD (c:Bool) (a d:Nat) (h k:R):Option R:=
 match h,k with
 | .agg cs,.v (.int _ b)=>if 0<=b/\b<d/\b.toNat*a+a<=cs.length then some (aX c a (cs.drop (b.toNat*a)))else none
 | _,_=>none
def TD (a:0<=b1) (b:b1<i) (c:b1.toNat*e+e<=g.length):tD I e i (.agg g) (.v (.int e2 b1))=some (aX I e (g.drop (b1.toNat*e))):=by simp[tD,a,b,c]
theorem TE:G K (.pW I e i Z e9) j f s=dD (tD I e i (ak j Z) (ak j e9)) (bZ (λa=>s a f) ()):=by
 simp only[G,tD];generalize ak j Z=b;generalize ak j e9=c;cases b<;>first
  |rfl
  |(cases c<;>first
    |rfl
    |(rename_i d;cases d<;>first
      |rfl
      |(simp only[jx,iV];grind)))
def oY (c:Fr) (a:List R):List (Nat×Nat×Operand)->(List R->Prop)->Prop
 | [],b=>b a
 |(off,cm,h)::k,b=>mP (ak c h) λd=>gS (d.cells.length=cm/\off+cm<=a.length) (oX (some (putAt a off d.cells)) λo=>oY c o k b)
def TF {a:List R->Prop}:oY j g [] a=a g:=rfl
def TG {a:List (Nat×Nat×Operand)}{b:List R->Prop}:oY j g ((e,i,Z)::a) b=mP (ak j Z) (bZ (λc=>gS (c.cells.length=i/\e+i<=g.length) (cu (oX (some (putAt g e c.cells)) (bZ (λd=>oY j d a b) ())) ())) ()):=rfl
theorem Bw {b:List R->Prop}: ∀(c:List (Nat×Nat×Operand)) (a:List R),kk j a c b=oY j a c b
 | [],_=>rfl
 |(off,cm,h)::d,a=>by
  simp only[kk,oY,mP,gS,oX,Bw d];grind
def TH {a:List (Nat×Nat×Operand)}:G K (.lH g a) j f s=oY j g a λb=>s (.agg b) f:=Bw a g
def fb (b:R):Option R:=
 match b with
 | .J xs _=>some (.v (.int .i64 xs.length))
 | .bA _ _ a _ _=>some (.v (.int .i64 a))
 | .an _ a _ _=>some (.v (.int .i64 a))
 | _=>none
def TI:fb (.an i e v O)=some (.v (.int .i64 e)):=rfl
def TJ:fb (.J g M)=some (.v (.int .i64 g.length)):=rfl
def TK:fb (.bA i v e O b8)=some (.v (.int .i64 e)):=rfl
def TL:G K (.len Z) j f s=dD (fb (ak j Z)) (bZ (λa=>s a f) ()):=by simp only[G,fb];generalize ak j Z=b;cases b<;>rfl
def iX (c:BinOp) (a b:R):Option R:=
 match a,b with
 | .v a,.v b=>(bn c a b).map .v
 | _,_=>none
theorem rQ {a:BinOp}{b:Value}:iX a (.v e5) (.v b)=(bn a e5 b).map .v:=rfl
def TM {a:BinOp}:G K (.bin a Z e9) j f s=dD (iX a (ak j Z) (ak j e9)) (bZ (λb=>s b f) ()):=by
 simp only[G,iX];generalize ak j Z=c;generalize ak j e9=d;cases c<;>first
  |rfl
  |(cases d<;>first
    |rfl
    |(rename_i v h;simp only[];generalize bn a v h=k;cases k<;>rfl))
def wA (b:UnOp) (a:R):Option R:=
 match a with
 | .v a=>(nM b a).map .v
 | _=>none
def TN {a:UnOp}:wA a (.v e5)=(nM a e5).map .v:=rfl
def TO {a:UnOp}:G K (.un a Z) j f s=dD (wA a (ak j Z)) (bZ (λb=>s b f) ()):=by simp only[G,wA];generalize ak j Z=c;cases c<;>first|rfl|(rename_i v;simp only[];generalize nM a v=d;cases d<;>rfl)
def wB (a:IntKind) (b:R):Option R:=
 match b with
 | .v (.int _ c)=>some (.v (.int a (a.wrap c)))
 | _=>none
def TP {a:IntKind}:wB e2 (.v (.int a b1))=some (.v (.int e2 (e2.wrap b1))):=rfl
def TQ:G K (.iN e2 Z) j f s=dD (wB e2 (ak j Z)) (bZ (λa=>s a f) ()):=by simp only[G,wB];generalize ak j Z=b;cases b<;>first|rfl|(rename_i v;cases v<;>rfl)
def nT (a:Ctx) (b:FuncId) (c:List R) (d:U) (h:R->U->Prop):Prop:=hE a.p b c d h (up a.k)
def TR {a:List Operand}:G K (.fT b5 a) j f s=nT K b5 (a.map (ak j)) f (bO s ()):=rfl
def wC (a:Nat) (b:R):Option R:=
 match b with
 | .aK c=>c[a]?
 | _=>none
def TS:wC e (.aK g)=g[e]? :=rfl
def TT:G K (.ext Z e) j f s=dD (wC e (ak j Z)) (bZ (λa=>s a f) ()):=by simp only[G,wC];generalize ak j Z=b;cases b<;>first|rfl|(rename_i c;cases c[e]? <;>rfl)
def TU (c:Bool) (a b:R):Option R:=
 match a,b with
 | .v (.bool a),.v (.bool b)=>some (.v (.bool (xor c (a==b))))
 | _,_=>none
def TV {a b:Bool}:TU I (.v (.bool a)) (.v (.bool b))=some (.v (.bool (xor I (a==b)))):=rfl
def qe (a:Bool) (b c:R):Option R:=
 match b,c with
 | .ptr _ _,.v (.pointer none)=>some (.v (.bool a))
 | .bV _,.v (.pointer none)=>some (.v (.bool a))
 | .v (.pointer none),.v (.pointer none)=>some (.v (.bool (!a)))
 | .ptr d h,.ptr k o=>if d=k/\h=o then some (.v (.bool (!a)))else none
 | _,_=>none
def TW:qe I (.ptr e i) (.ptr e i)=some (.v (.bool (!I))):=if_pos ⟨rfl,rfl⟩
def TX:qe I (.ptr e i) (.v (.pointer none))=some (.v (.bool I)):=rfl
def TY:qe I (.bV g) (.v (.pointer none))=some (.v (.bool I)):=rfl
def TZ:qe I (.v (.pointer none)) (.v (.pointer none))=some (.v (.bool (!I))):=rfl
def U0:G K (.pY I Z e9) j f s=dD (qe I (ak j Z) (ak j e9)) (bZ (λd=>s d f) ()):=by
 simp only[G,qe];generalize ak j Z=h;generalize ak j e9=c;cases h<;>first
  |rfl
  |(rename_i v;cases v<;>first
    |rfl
    |(cases c<;>first|rfl|(rename_i b;cases b<;>first|rfl|(rename_i a;cases a<;>rfl)))
    |(rename_i a;cases a<;>first|rfl|(cases c<;>first|rfl|(rename_i b;cases b<;>first|rfl|(rename_i a;cases a<;>rfl)))))
  |(cases c<;>first|rfl|(rename_i b;cases b<;>first|rfl|(rename_i a;cases a<;>rfl))|(simp only[jx,iV];done))
def intOf (a:R):Option Int:=
 match a with
 | .v (.int _ b)=>some b
 | _=>none
end
def oZ (a:List (Nat×Option (Bool×Nat))) (b:R->U->Prop):gh->Fr->U->Prop:=qa ⟨0,0,.skip,a⟩ b
def bd (c:m.follows .mixedOrders=true) {a:List (Nat×Option (Bool×Nat))} (d:dr m O i=some ⟨e,v,h6,a⟩) (h:g.length<=e)
  (k:bS (Ctx.of m) h6 (oZ a s) (lR g) f):AC m i g f s:=by
 refine IZ c d h ?_;have b:qa ⟨e,v,h6,a⟩ s=oZ a s:=by funext b j f;rfl
 rw[b];exact k
def U1:lR g e=g.getD e (.aK []):=rfl
theorem U2 {c:aq}:qa c s .ret j f=dD (iT j f c.results) λd=> ∃b,b.sub f/\s d b:=by
 apply propext;simp only[qa];constructor
 .rintro⟨d,b,a,h,k⟩;rw[a];exact⟨b,h,k⟩
 .intro a;cases o:iT j f c.results with
  |none=>rw[o]at a;exact a.elim
  |some d=>rw[o]at a;obtain⟨b,h,k⟩:=a;grind
def U3 {a:List (Nat×Option (Bool×Nat))}:oZ a s .ret j f=dD (iT j f a) (bZ (λc=> ∃b,b.sub f/\s c b) ()):=U2
def U4 {a:List (Nat×Option (Bool×Nat))}:oZ a s .norm j f=oZ a s .ret j f:=rfl
def U5:iT j f []=some (.aK []):=rfl
def U6 {a:Nat×Option (Bool×Nat)}:iT j f [a]=gi j f a:=by simp only[iT,fs];cases gi j f a<;>rfl
def U7:gi j f (e,none)=some (j e):=rfl
def Bx (a:Bool) (b:Nat) (c:U) (d:R):Option R:=
 match d with
 | .ptr h off=>qd a b off (c.read h)
 | _=>none
def U8:Bx I e f (.ptr i v)=qd I e v (f.read i):=rfl
def U9:gi j f (e,some (I,i))=Bx I i f (j e):=by rfl
def U.tE:(f.set i Y) e=if e=i then some Y else f e:=rfl
def U.By:(f.set e (.cells g)).read e=some g:=by simp[U.read,U.set]
def U.Ua:(f.set e (.ro g)).read e=some g:=by simp[U.read,U.set]
def U.Ub (a:e≠i):(f.set i Y).read e=f.read e:=by simp[U.read,U.set,a]
def U.Uc:ee (f.set e (.cells g)) e=some g:=by simp[ee,U.set]
def U.Ud (a:e≠i):ee (f.set i Y) e=ee f e:=by simp[ee,U.set,a]
def U.ae (a:f e=some (.cells g)):f.read e=some g:=by simp[U.read,a]
def U.Ue (a:f e=some (.ro g)):f.read e=some g:=by simp[U.read,a]
def U.aJ (a:f e=some (.cells g)):ee f e=some g:=by simp[ee,a]
theorem U.gH (a:(f.set i Y) e=none):e≠i/\f e=none:=by grind[U.set]
def U.Bz {b a:bq} (c:i≠e):((f.set e b).set i a).set e Y=((f.set e Y).set i a):=by rw[U.dX _ c,U.set_set]
def U.BA {c a b:bq} (d:i≠e) (h:v≠e):(((f.set e c).set i a).set v b).set e Y=(((f.set e Y).set i a).set v b):=by rw[U.dX _ h,Bz d]
def U.BB {d a b c:bq} (h:i≠e) (k:v≠e) (o:O≠e):((((f.set e d).set i a).set v b).set O c).set e Y=((((f.set e Y).set i a).set v b).set O c):=by rw[U.dX _ o,BA h k]
def U.BC {h a b c d:bq} (k:i≠e) (o:v≠e) (p:O≠e) (r:b8≠e):(((((f.set e h).set i a).set v b).set O c).set b8 d).set e Y=(((((f.set e Y).set i a).set v b).set O c).set b8 d):=by rw[U.dX _ r,BB k o p]
def U.BD {k a b c d h:bq} (o:i≠e) (p:v≠e) (r:O≠e) (x:b8≠e) (y:j0≠e):((((((f.set e k).set i a).set v b).set O c).set b8 d).set j0 h).set e Y=((((((f.set e Y).set i a).set v b).set O c).set b8 d).set j0 h):=by rw[U.dX _ y,BC o p r x]
def U.BE {a:Nat}{p b c d h k o:bq} (r:i≠e) (x:v≠e) (y:O≠e) (z:b8≠e) (C:j0≠e) (D:a≠e):(((((((f.set e p).set i b).set v c).set O d).set b8 h).set j0 k).set a o).set e Y=(((((((f.set e Y).set i b).set v c).set O d).set b8 h).set j0 k).set a o):=by rw[U.dX _ D,BD r x y z C]
def U.BG {a b:Nat}{x c d h k o p r:bq} (y:i≠e) (z:v≠e) (C:O≠e) (D:b8≠e) (E:j0≠e) (F:a≠e) (G:b≠e):((((((((f.set e x).set i c).set v d).set O h).set b8 k).set j0 o).set a p).set b r).set e Y=((((((((f.set e Y).set i c).set v d).set O h).set b8 k).set j0 o).set a p).set b r):=by rw[U.dX _ G,BE y z C D E F]
def U.Uf {a b c:Nat}{z d h k o p r x y:bq} (C:i≠e) (D:v≠e) (E:O≠e) (F:b8≠e) (G:j0≠e) (L:a≠e) (P:b≠e) (S:c≠e):(((((((((f.set e z).set i d).set v h).set O k).set b8 o).set j0 p).set a r).set b x).set c y).set e Y=(((((((((f.set e Y).set i d).set v h).set O k).set b8 o).set j0 p).set a r).set b x).set c y):=by rw[U.dX _ S,BG C D E F G L P]
def aM {b:cy j5} (c: ∀a,f a=none->j5 a):iW f (bZ j5 b):=c
def cr {h:cy (bS K (.loop h6) e8 j f)} (a:Fr->U->Prop) (b:Fr->U->Nat) (k:a j f) (o: ∀j f,a j f->bS K h6 (eO (λc d=>a c d/\b c d<b j f) e8) j f):
  cu (bS K (.loop h6) e8 j f) h:=⟨a,b,k,o⟩
theorem ai {c:cy s} (d:AC K.p b5 g f a7) (h: ∀a b,a7 a b->s a b):nT K b5 g f (bO s c):=(d.mono h).p
theorem U.a1:f.sub f:=λ_ _ a=>a
theorem U.af (a:t.sub f) (c:t e=none):t.sub (f.set e Y):=λd h b=>by
 rw[U.tE];split;simp_all
 .exact a _ _ b
theorem U.kW (b:t.sub f):(t.set e Y).sub (f.set e Y):=λd h a=>by
 rw[U.tE]at a|-;split;simp_all
 .rename_i c;rw[if_neg c]at a;exact b _ _ a
end
theorem wrap_i64 (c: -9223372036854775808<=b1) (d:b1<9223372036854775808):IntKind.i64.wrap b1=b1:=by have a:((2:Int)^IntKind.i64.bits)=18446744073709551616:=rfl;have b:((2:Int)^(IntKind.i64.bits - 1))=9223372036854775808:=rfl;simp only[IntKind.wrap,a,b,IntKind.signed,a5U,decide_eq_true_eq];omega
theorem kp:IntKind.u64.wrap b1=b1%18446744073709551616:=by have a:((2:Int)^IntKind.u64.bits)=18446744073709551616:=rfl;rfl
def wD:IntKind.u32.wrap b1=b1%4294967296:=by have a:((2:Int)^IntKind.u32.bits)=4294967296:=rfl;rfl
def tF:IntKind.u8.wrap b1=b1%256:=by have a:((2:Int)^IntKind.u8.bits)=256:=rfl;rfl
theorem wrap_u64 (a:0<=b1) (b:b1<18446744073709551616):IntKind.u64.wrap b1=b1:=by rw[kp];omega
def wrap_u32 (a:0<=b1) (b:b1<4294967296):IntKind.u32.wrap b1=b1:=by rw[wD];omega
theorem wrap_u8 (a:0<=b1) (b:b1<256):IntKind.u8.wrap b1=b1:=by rw[tF];omega
def Ug (a:UInt8):IntKind.u32.wrap (a.toNat:Int)=(a.toUInt32.toNat:Int):=by have:=a.toNat_lt;rw[wrap_u32 a8Z a8Z];simp
def Uh (a:UInt8):IntKind.u64.wrap (a.toNat:Int)=(a.toUInt64.toNat:Int):=by have:=a.toNat_lt;rw[wrap_u64 a8Z a8Z];simp
def Ui (a:UInt32):IntKind.u8.wrap (a.toNat:Int)=(a.toUInt8.toNat:Int):=by rw[tF];simp
def Uj (a:UInt64):IntKind.u8.wrap (a.toNat:Int)=(a.toUInt8.toNat:Int):=by rw[tF];simp
section
variable (a b:Int)
def Uk:bn .add (.int .i64 a) (.int .i64 b)=some (.int .i64 (IntKind.i64.wrap (a+b))):=rfl
def Ul:bn .sub (.int .i64 a) (.int .i64 b)=some (.int .i64 (IntKind.i64.wrap (a - b))):=rfl
def Um:bn .mul (.int .i64 a) (.int .i64 b)=some (.int .i64 (IntKind.i64.wrap (a*b))):=rfl
def Un (c:b≠0):bn .quo (.int .i64 a) (.int .i64 b)=some (.int .i64 (IntKind.i64.wrap (a.tdiv b))):=by simp[bn,fq,hF,c]
def Uo (c:b≠0):bn .rem (.int .i64 a) (.int .i64 b)=some (.int .i64 (a.tmod b)):=by simp[bn,fq,hF,c]
variable (k:IntKind)
def Up:bn .eql (.int k a) (.int k b)=some (.bool (decide (a=b))):=by simp[bn,fq,hF]
def Uq:bn .neq (.int k a) (.int k b)=some (.bool (decide (a≠b))):=by simp[bn,fq,hF]
def Ur:bn .lss (.int k a) (.int k b)=some (.bool (decide (a<b))):=by simp[bn,fq,hF]
def Us:bn .leq (.int k a) (.int k b)=some (.bool (decide (a<=b))):=by simp[bn,fq,hF]
def Ut:bn .gtr (.int k a) (.int k b)=some (.bool (decide (b<a))):=by simp[bn,fq,hF]
def Uu:bn .geq (.int k a) (.int k b)=some (.bool (decide (b<=a))):=by simp[bn,fq,hF]
def Uv (c:Bool):nM .not (.bool c)=some (.bool !c):=rfl
end
def Uw (a b:Int):bn .add (.int .u64 a) (.int .u64 b)=some (.int .u64 (IntKind.u64.wrap (a+b))):=rfl
def Ux (a b:Int):bn .sub (.int .u64 a) (.int .u64 b)=some (.int .u64 (IntKind.u64.wrap (a - b))):=rfl
def Uy (a b:Int):bn .mul (.int .u64 a) (.int .u64 b)=some (.int .u64 (IntKind.u64.wrap (a*b))):=rfl
theorem rR (c:Nat) (d:IntKind) (b:Int) (k:0<=b) (o:b<64):bn .shr (.int .u64 c) (.int d b)=some (.int .u64 (c>>>b.toNat:Nat)):=by
 obtain⟨a,rfl⟩: ∃a:Nat,b=a:=⟨b.toNat,a8Z⟩;have h:min a IntKind.u64.bits=a:=by simp[IntKind.bits];omega
 have p:(2)^a=((2^a:Nat):Int):=a9a;simp only[bn,fq,if_true,nL,if_neg (show¬(a:Int)<0 by omega),a5a,h,a5v];grind
def iq (a:Nat):IntKind.u8.wrap (a:Int)=((UInt8.ofNat a).toNat:Int):=by rw[tF];simp
variable{B:List UInt8}
theorem Uz (a:0<=b1) (b:b1.toNat<B.length):cL 1 (.J (B.map al) M) (.v (.int e2 b1))=some (.bV [.v (.int .u8 (B.getD b1.toNat 0).toNat)]):=by
 rw[hJ a,a4X,a4w b];have:B.getD b1.toNat 0=B[b1.toNat]:=by simp_all
 rw[this];rfl
def UA (a:Decidable True): @decide True a=true:=a9a
def UB (a:Decidable False): @decide False a=false:=a9a
def BH:aX true e g= .agg (g.take e):=rfl
def BI:R.cells (.J g M)= [.J g M]:=rfl
def BJ:R.cells (.v e5)= [.v e5]:=rfl
def BK:R.cells (.ptr e i)= [.ptr e i]:=rfl
def BL:R.cells (.bV g)= [.bV g]:=rfl
def BM:R.cells (.iface b2 n)= [.iface b2 n]:=rfl
def hK:R.cells (.agg g)=g:=rfl
theorem rS (a:g.length=A.length):putAt A 0 g=g:=by simp[putAt,a]
def UC:aX false 1 (n::g)=n:=rfl
section
variable (x y:UInt32)
def UD:bn .add (.int .u32 x.toNat) (.int .u32 y.toNat)=some (.int .u32 (x+y).toNat):=by rfl
def BN:bn .sub (.int .u32 x.toNat) (.int .u32 y.toNat)=some (.int .u32 (x - y).toNat):=by have:=x.toNat_lt;have:=y.toNat_lt;simp only[bn,fq,hF,wD,UInt32.toNat_sub];simp;omega
def BO:bn .mul (.int .u32 x.toNat) (.int .u32 y.toNat)=some (.int .u32 (x*y).toNat):=by rfl
theorem qf (a:Nat) (b:a<4294967296):IntKind.u32.wrap (a:Int)=a:=wrap_u32 a8Z a8Z
def ofInt_u32:BitVec.ofInt 32 (x.toNat:Int)=x.toBitVec:=by simp
def UE:bn .and (.int .u32 x.toNat) (.int .u32 y.toNat)=some (.int .u32 (x&&&y).toNat):=by have a:bn .and (.int .u32 x.toNat) (.int .u32 y.toNat)=some (.int .u32 (IntKind.u32.wrap (BitVec.ofInt 32 (x.toNat)&&&BitVec.ofInt 32 (y.toNat)).toNat)):=rfl;rw[a,ofInt_u32,ofInt_u32,qf _ (a8x _)];rfl
def UF:bn .or (.int .u32 x.toNat) (.int .u32 y.toNat)=some (.int .u32 (x|||y).toNat):=by have a:bn .or (.int .u32 x.toNat) (.int .u32 y.toNat)=some (.int .u32 (IntKind.u32.wrap (BitVec.ofInt 32 (x.toNat)|||BitVec.ofInt 32 (y.toNat)).toNat)):=rfl;rw[a,ofInt_u32,ofInt_u32,qf _ (a8x _)];rfl
def UG:bn .xor (.int .u32 x.toNat) (.int .u32 y.toNat)=some (.int .u32 (x^^^y).toNat):=by have a:bn .xor (.int .u32 x.toNat) (.int .u32 y.toNat)=some (.int .u32 (IntKind.u32.wrap (BitVec.ofInt 32 (x.toNat)^^^BitVec.ofInt 32 (y.toNat)).toNat)):=rfl;rw[a,ofInt_u32,ofInt_u32,qf _ (a8x _)];rfl
def UH:nM .xor (.int .u32 x.toNat)=some (.int .u32 (~~~x).toNat):=by
 have a:nM .xor (.int .u32 x.toNat)=some (.int .u32 (IntKind.u32.wrap (BitVec.ofInt 32 4294967295^^^BitVec.ofInt 32 (x.toNat)).toNat)):=rfl;rw[a,ofInt_u32,qf _ (a8x _)];have:(BitVec.ofInt 32 4294967295^^^x.toBitVec)= ~~~x.toBitVec:=by rw[BitVec.not_def];rfl
 rw[this];rfl
theorem UI (c:IntKind) (a:Int) (h:0<=a) (k:a<32):bn .shl (.int .u32 x.toNat) (.int c a)=some (.int .u32 (x<<<UInt32.ofNat a.toNat).toNat):=by
 obtain⟨b,rfl⟩: ∃b:Nat,a=b:=⟨a.toNat,a8Z⟩;have hm:b<32:=a8Z;have d:min b IntKind.u32.bits=b:=by simp[IntKind.bits];omega
 simp only[bn,fq,if_true,nL,if_neg (show¬(b:Int)<0 by omega),a5a,d,wD,UInt32.toNat_shiftLeft,UInt32.toNat_ofNat',a6M];grind
theorem UJ (c:IntKind) (a:Int) (h:0<=a) (k:a<32):bn .shr (.int .u32 x.toNat) (.int c a)=some (.int .u32 (x>>>UInt32.ofNat a.toNat).toNat):=by
 obtain⟨b,rfl⟩: ∃b:Nat,a=b:=⟨a.toNat,a8Z⟩;have hm:b<32:=a8Z;have d:min b IntKind.u32.bits=b:=by simp[IntKind.bits];omega
 simp only[bn,fq,if_true,nL,if_neg (show¬(b:Int)<0 by omega),a5a,d,UInt32.toNat_shiftRight,UInt32.toNat_ofNat',a5v];grind
end
def aS (a:Nat) (b:List R):Prop:= ∀c∈b,c.cells.length=a
def UK:aS e []=True:=by simp[aS]
def BP:aS e (n::g)=(n.cells.length=e/\aS e g):=by simp[aS]
theorem UL:aS e (g++A)=(aS e g/\aS e A):=by grind[aS]
theorem tG:aS 1 (B.map al)=True:=by simp[aS,al,R.cells]
def bg (a b:U) (h:Nat) (c:List R) (k:Own):Prop:=
 a.sub b/\match k with
  | .buf d o=>a d=none/\b d=some (.buf h c.length o)
  | .any=>False
  | _=>c= []
theorem U.ar (c:f.sub t) (d:t.sub e4):f.sub e4:=λa b h=>d a b (c a b h)
def U.bF (b:f.sub t) (a:t e=none):f e=none:=by
 cases bW:f e with
 |none=>rfl
 |some c=>rw[b e c bW]at a;cases a
theorem bg.nil (a:t.sub f) {b:Nat}:bg t f b [] .nil:=⟨a,rfl⟩
def bg.zero (a:t.sub f) {b:Nat}:bg t f b [] .zero:=⟨a,rfl⟩
def bg.sub {a:Nat}{b:List R}{c:Own} (d:bg t f a b c):t.sub f:=d.1
theorem bg.base {o:Own} (b:bg t f e g o) (c:e4.sub t):bg e4 f e g o:=by
 refine⟨U.ar c b.1,?_⟩;have a:=b.2;cases o with
 |buf d h=>exact⟨U.bF c a.1,a.2⟩
 | _=>exact a
def bg.mono (b:bg t f e g M) (c:f.sub e4):bg t e4 e g M:=by
 refine⟨U.ar b.1 c,?_⟩;have a:=b.2;cases M with
 |buf d h=>exact⟨a.1,c _ _ a.2⟩
 | _=>exact a
theorem bg.set {c a:Nat}{d:List R}{b:Own}{ob p:bq} (h:bg t f c d b) (k:t a=some p):bg (t.set a ob) (f.set a ob) c d b:=by
 refine⟨U.kW h.1,?_⟩;have o:=h.2;cases b with
 |buf r x=>
  have y:r≠a:=by rintro rfl;rw[o.1]at k;cases k
  grind[U.ao]
 | _=>exact o
theorem bg.new {ob:bq} (a:bg t f i g M) (b:f e=none):bg (t.set e ob) (f.set e ob) i g M:=by
 refine⟨U.kW a.1,?_⟩;have c:=a.2;cases M with
 |buf d h=>
  have k:d≠e:=by rintro rfl;rw[c.2]at b;cases b
  grind[U.ao]
 | _=>exact c
def lV (d x:Nat) (c:U) (y z:R) (k:R->U->Prop):Prop:=
 match y,z with
 | .J xs r,.J a _=>(∀o∈xs,o.cells.length=d)/\(∀o∈a,o.cells.length=d)/\(xs.length+a.length)*x<=140737488355328/\xs.length+a.length<=9223372036854775807/\
   match r with
   | .buf p C=>c p=some (.buf d xs.length C)/\ ∀b h,(b=p\/c b=none)->k (.J (xs++a) (.buf b h)) ((c.del p).set b (.buf d (xs.length+a.length) h))
   | .any=>False
   | _=>xs= []/\(if a= []then k (.J [] r) c else∀b h,c b=none->k (.J a (.buf b h)) (c.set b (.buf d a.length h)))
 | _,_=>False
def UM:G K (.app e i Z e9) j f s=lV e i f (ak j Z) (ak j e9) (bO s ()):=rfl
theorem dY {C:cy s} (a:bg t f e g M) (D:aS e g) (E:aS e A) (F:(g.length+A.length)*i<=140737488355328) (G:g.length+A.length<=9223372036854775807)
  (c: ∀p r,bg t r e (g++A) p->s (.J (g++A) p) r):lV e i f (.J g M) (.J A e6) (bO s C):=by
 have d:=a.2;refine⟨D,E,F,G,?_⟩;cases M with
 |any=>trivial
 |nil=>
  obtain rfl:g= []:=d;refine⟨rfl,?_⟩;split
  .rename_i h;subst h;exact c _ _ ⟨a.1,rfl⟩
  .intro k x b;refine c _ _ ⟨U.af a.1 (U.bF a.1 b),U.bF a.1 b,?_⟩;rw[U.ah];simp
 |zero=>
  obtain rfl:g= []:=d;refine⟨rfl,?_⟩;split
  .rename_i h;subst h;exact c _ _ ⟨a.1,rfl⟩
  .intro k x b;refine c _ _ ⟨U.af a.1 (U.bF a.1 b),U.bF a.1 b,?_⟩;rw[U.ah];simp
 |buf L T=>
  refine⟨d.2,λk x b=>c _ _ ?_⟩;have y:t k=none:=by rcases b with rfl|b;exact d.1;exact U.bF a.1 b
  refine⟨U.af (λz P o=> ?_) y,y,?_⟩
  .have S:z≠L:=by rintro rfl;rw[d.1]at o;cases o
   rw[U.eG _ S];exact a.1 z P o
  .rw[U.ah,a4y]
def jE (d:Nat) (b:U) (a:List R) (h:R->U->Prop):Prop:=
 (∀k∈a,k.cells.length=d)/\(if a.length=0 then h (.J [] .zero) b else∀c,b c=none->h (.J a (.buf c a.length)) (b.set c (.buf d a.length a.length)))
def UN {a:List Operand}:G K (.ke e a) j f s=jE e f (a.map (ak j)) (bO s ()):=by simp only[G,jE,bO,a4I]
def dc {k:cy s} (a:t.sub f) (o:aS e g) (b: ∀c d,bg t d e g c->s (.J g c) d):jE e f g (bO s k):=by
 refine⟨o,?_⟩;split
 .rename_i p;obtain rfl:=a4B p;exact b _ _ ⟨a,rfl⟩
 .intro r h;exact b _ _ ⟨U.af a (U.bF a h),U.bF a h,by rw[U.ah]⟩
def cE (a:Option R) (b:Nat):Option Int:=
 match a with
 |none=>some b
 |some c=>intOf c
def fV (a:Own) (b c:Option R):Own:=
 match b,c with
 |none,none=>a
 | _,_=> .any
def dI (c:Nat) (a:R) (d h:Option R):Option R:=
 match a with
 | .J xs p=>match cE d 0,cE h xs.length with
  |some a,some b=>if 0<=a/\a<=b/\b<=xs.length/\xs.all (λr=>decide (r.cells.length=c))then some (.J ((xs.take b.toNat).drop a.toNat) (fV p d h))else none
  | _,_=>none
 | .bA k off len cap o=>match cE d 0,cE h len with
  |some a,some b=>if o=c/\0<=a/\a<=b/\b<=len/\a<len then some (.bA k (off+a.toNat*c) (b.toNat - a.toNat) (cap - a.toNat) c)else none
  | _,_=>none
 | .an k len cap o=>match cE d 0,cE h len with
  |some a,some b=>if o=c/\0<=a/\a<=b/\b<=len/\(d.isSome=true->a<len)then some (q2 d.isSome k a.toNat b.toNat cap c)else none
  | _,_=>none
 | _=>none
def wE (a:Option Operand) (b:Nat):da j a b=cE (a.map (ak j)) b:=by
 cases a with
 |none=>rfl
 |some a=>simp only[da,cE,a5x,intOf];rfl
def UO (a b:Option Operand):vH M a b=fV M (a.map (ak j)) (b.map (ak j)):=by cases a<;>cases b<;>rfl
theorem UP {a d:Option Operand}:G K (.oO e Z a d) j f s=dD (dI e (ak j Z) (a.map (ak j)) (d.map (ak j))) (bZ (λo=>s o f) ()):=by
 have p:a.isSome=(a.map (ak j)).isSome:=a9a;simp only[G,dI,wE,UO (j:=j) a d,p];generalize ak j Z=r;generalize a.map (ak j)=h;generalize d.map (ak j)=k;cases r<;>try rfl
 .rename_i x D;simp only[];generalize cE h 0=b;generalize cE k x.length=c;cases b<;>cases c<;>try rfl
  simp only[jx,iV,a4O,decide_eq_true_eq];grind
 .rename_i y E len z C;simp only[];generalize cE h 0=b;generalize cE k len=c;cases b<;>cases c<;>try rfl
  simp only[jx,iV];grind
 .rename_i y len z C;simp only[];generalize cE h 0=b;generalize cE k len=c;cases b<;>cases c<;>try rfl
  simp only[jx,iV];grind
def UQ (a:0<=b1) (b:b1<=v):dI e (.an i v O e) none (some (.v (.int e2 b1)))=some (.an i b1.toNat O e):=by simp[dI,cE,intOf,a,b,q2]
def UR (a:aS e g):dI e (.J g M) none none=some (.J g M):=by
 have:(g.all λb=>decide (b.cells.length=e))=true:=by simpa[aS] using a
 simp[dI,cE,fV,this]
theorem qg (a:0<=b1) (b:b1<=g.length) (c:aS e g):dI e (.J g M) (some (.v (.int e2 b1))) none=some (.J (g.drop b1.toNat) .any):=by
 have:(g.all λd=>decide (d.cells.length=e))=true:=by simpa[aS] using c
 simp[dI,cE,fV,intOf,this,a,b]
theorem nU (a:0<=b1) (b:b1<=g.length) (c:aS e g):dI e (.J g M) none (some (.v (.int e2 b1)))=some (.J (g.take b1.toNat) .any):=by grind[decide,aS,dI,cE,fV,intOf]
theorem BQ {b:IntKind}{a:Int} (c:0<=b1) (d:b1<=a) (h:a<=g.length) (k:aS e g):dI e (.J g M) (some (.v (.int e2 b1))) (some (.v (.int b a)))=some (.J ((g.take a.toNat).drop b1.toNat) .any):=by grind[decide,aS,dI,cE,fV,intOf]
def wF (b:Bool) (a:List (Nat×c8)) (c d:R) (h:R->Prop):Prop:=
 match c,d with
 | .agg cs,.agg cJ=>dA a cs/\dA a cJ/\h (.v (.bool (xor b (peq (.agg cs) (.agg cJ)))))
 | _,_=>False
variable{j4:List (Nat × c8)}
def US:G K (.eqv I j4 Z e9) j f s=wF I j4 (ak j Z) (ak j e9) (bZ (λa=>s a f) ()):=rfl
theorem UT {a:R->Prop}:wF I j4 (.agg g) (.agg A) a=gS (dA j4 g/\dA j4 A) (cu (a (.v (.bool (xor I (peq (.agg g) (.agg A)))))) ()):=by simp only[wF,gS,cu];grind
def UU:(B.map al).drop e=(B.drop e).map al:=a9a
def UW:(B.map al).take e=(B.take e).map al:=a9a
def bg.UX (a:t.sub f):bg t f 1 (([]:List UInt8).map al) .nil:=⟨a,rfl⟩
theorem mQ {a:List UInt8}{d:cy s} (h:bg t f 1 (B.map al) M) (k:B.length+a.length<=140737488355328)
  (o: ∀b c,bg t c 1 ((B++a).map al) b->s (.J ((B++a).map al) b) c):lV 1 1 f (.J (B.map al) M) (.J (a.map al) e6) (bO s d):=by
 grind[dY,tG]
def wG {a:UInt8}{d:cy s} (h:bg t f 1 (B.map al) M) (k:B.length+1<=140737488355328)
  (o: ∀b c,bg t c 1 ((B++ [a]).map al) b->s (.J ((B++ [a]).map al) b) c):lV 1 1 f (.J (B.map al) M) (.J [al a] e6) (bO s d):=
 mQ (a:= [a]) h k o
def rT {a:UInt8}{d:cy s} (h:t.sub f) (k: ∀b c,bg t c 1 [al a] b->s (.J [al a] b) c):jE 1 f [.v (.int .u8 a.toNat)] (bO s d):=
 dc (g:= [a].map al) h (by rw[tG];trivial) k
def wH (a:e<B.length):(B.map al)[e]? =some (.v (.int .u8 (B.getD e 0).toNat)):=by
 rw[a4X,a4w a];have:B.getD e 0=B[e]:=by simp[a]
 rw[this];rfl
def BR {b c:Fr->U->Prop} (d: ∀j f,b j f->c j f): ∀(h:List c7) (j:Fr) (f:U),iR K h b j f->iR K h c j f
 | [],j,f,a=>d j f a
 | _::k,j,f,a=>rC (λj f a=>BR d k j f a) a
def BS {b:Nat->c7}{c d:Fr->U->Prop} (h: ∀j f,c j f->d j f): ∀(k:List di) (j:Fr) (f:U),can K b c k j f->can K b d k j f
 | [],j,f,a=>h j f a
 | _::o,j,f,a=>⟨a.1,rC (λj f a=>⟨a.1,BS h o j f a.2⟩) a.2⟩
theorem iY: ∀(o:dH) {h k:gh->Fr->U->Prop} (_: ∀c j f,h c j f->k c j f) (j:Fr) (f:U),bS K o h j f->bS K o k j f
 | .skip,_,_,b,j,f,a=>b _ j f a
 | .ret,_,_,b,j,f,a=>b _ j f a
 | .exit _,_,_,b,j,f,a=>b _ j f a
 | .plain ops,_,_,b,j,f,a=>BR (b _) ops j f a
 | .draw _ y,_,_,b,j,f,a=>BS (b _) y j f a
 | .seq d p,h,k,b,j,f,a=>iY d (λc j f a=>by
   cases c with
   |norm=>exact iY p b j f a
   |exit x=>exact b _ j f a
   |ret=>exact b _ j f a) j f a
 | .block x d,h,k,b,j,f,a=>iY d (λc j f a=>by
   cases c with
   |norm=>exact b _ j f a
   |exit G=>simp only[kV]at a|-;grind
   |ret=>exact b _ j f a) j f a
 | .cond o d p,h,k,b,j,f,a=>by
   simp only[wy,Bq,ko]at a|-;split at a
   .exact⟨λr=>iY d b j f (a.1 r),λr=>iY p b j f (a.2 r)⟩
   .trivial
 | .loop d,h,k,b,j,f,a=>by
   obtain⟨z,C,D,E⟩:=a;exact⟨z,C,D,λj f F=>iY d (λc j f a=>by
    cases c with
    |norm=>exact a
    |exit x=>exact b _ j f a
    |ret=>exact b _ j f a) j f (E j f F)⟩
def BT {b c:dH}{k:cy (bS K b (eO (bS K h6 e8) e8) j f)}{o:cy (bS K c (eO (bS K h6 e8) e8) j f)} (d:Fr->U->Prop)
  (p:I=true->bS K b (eO d e8) j f) (r:I=false->bS K c (eO d e8) j f) (x: ∀j f,d j f->bS K h6 e8 j f):
  ko (.v (.bool I)) (cu (bS K b (eO (bS K h6 e8) e8) j f) k) (cu (bS K c (eO (bS K h6 e8) e8) j f) o):=by
 have hm: ∀h j f,eO d e8 h j f->eO (bS K h6 e8) e8 h j f:=λh j f a=>by
  cases h with
  |norm=>exact x j f a
  |exit y=>exact a
  |ret=>exact a
 exact⟨λa=>iY b hm j f (p a),λa=>iY c hm j f (r a)⟩
def rU (b c:R):Option R:=
 match b,c with
 | .v (.string d),.v (.int _ a)=>if 0<=a then(match d.data[a.toNat]? with|some h=>some (.v (.int .u8 h.toNat))|none=>none)else none
 | _,_=>none
def UY:G K (.lG Z e9) j f s=dD (rU (ak j Z) (ak j e9)) (bZ (λc=>s c f) ()):=by
 simp only[G,rU];generalize ak j Z=d;generalize ak j e9=h;cases d<;>first
  |rfl
  |(rename_i v;cases v<;>first
    |rfl
    |(cases h<;>first
      |rfl
      |(rename_i k o;cases o<;>first
        |rfl
        |(
          rename_i r a;simp only[];by_cases b:0<=a
          .simp only[b,true_and,if_true];generalize k.data[a.toNat]? =p;cases p<;>rfl
          .simp[b,dD]))))
def rV (a b:Nat) (c:U) (d:R):Option R:=
 match d with
 | .ptr h off=>match c h with
  |some (.ro cs)=>if off+b*a<=cs.length then some (.J (ed a b (cs.drop off)) .any)else none
  | _=>none
 | _=>none
def UZ:G K (.ju e i Z none none) j f s=dD (rV e i f (ak j Z)) (bZ (λa=>s a f) ()):=by
 simp only[G,rV,da];generalize ak j Z=b;cases b<;>first
  |rfl
  |(
    rename_i c k;simp only[];generalize f c=d;cases d with
    |none=>simp[dD]
    |some h=>cases h with
     |ro cs=>simp only[jx,iV];simp
     | _=>simp[dD])
def V0 (a:f i=some (.ro g)) (b:g.length=e):rV 1 e f (.ptr i 0)=some (.J g .any):=by simp[rV,a,b,ed,a4x]
theorem wI (a:e<64):bn .shl (.int .i64 b1) (.int e2 (e:Int))=some (.int .i64 (IntKind.i64.wrap (b1*2^e))):=by
 have b:min e IntKind.i64.bits=e:=by simp[IntKind.bits];omega
 simp_all [bn,fq,nL]
def BU (a b:Option R):Option R:=
 match a,b with
 |some a,some b=>some (.aK [a,b])
 | _,_=>none
def V1:BU (some n) (some b3)=some (.aK [n,b3]):=rfl
def V2 {a b:Nat×Option (Bool×Nat)}:iT j f [a,b]=BU (gi j f a) (gi j f b):=by simp only[iT,fs];cases gi j f a<;>cases gi j f b<;>rfl
def BV (a b c:Option R):Option R:=
 match a,b,c with
 |some a,some b,some c=>some (.aK [a,b,c])
 | _,_,_=>none
def V3 {a:R}:BV (some n) (some b3) (some a)=some (.aK [n,b3,a]):=rfl
def V4 {a b c:Nat×Option (Bool×Nat)}:iT j f [a,b,c]=BV (gi j f a) (gi j f b) (gi j f c):=by simp only[iT,fs];cases gi j f a<;>cases gi j f b<;>cases gi j f c<;>rfl
def V5:((0:Nat):Int)=0:=rfl
def V6:((1:Nat):Int)=1:=rfl
def V7:((e:Int).tmod (i:Int))=((e%i:Nat):Int):=rfl
def BW:((e:Int).tmod 64)=((e%64:Nat):Int):=V7 (i:=64)
def rW:=
 a4u @Sy<|
 a4u @Sz<|
 a4u @SA<|
 a4u @SB<|
 a4u @SC<|
 a4u @SD<|
 a4u @SE<|
 a4u @wy<|
 a4u @SF<|
 a4u @iV<|
 a4u @Sx<|
 a4u @SG<|
 a4u @SH<|
 a4u @SI<|
 a4u @SJ<|
 a4u @SK<|
 a4u @SM<|
 a4u @SL<|
 a4u @SN<|
 a4u @SO<|
 a4u @SP<|
 a4u @SY<|
 a4u @T0<|
 a4u @T1<|
 a4u @T4<|
 a4u @T2<|
 a4u @T3<|
 a4u @T5<|
 a4u @T6<|
 a4u @Ta<|
 a4u @Tb<|
 a4u @T8<|
 a4u @T9<|
 a4u @Th<|
 a4u @Tk<|
 a4u @Tl<|
 a4u @Tm<|
 a4u @Tn<|
 a4u @Tq<|
 a4u @Ts<|
 a4u @Tv<|
 a4u @Ty<|
 a4u @TA<|
 a4u @TB<|
 a4u @TE<|
 a4u @TH<|
 a4u @TL<|
 a4u @TM<|
 a4u @TO<|
 a4u @TQ<|
 a4u @TR<|
 a4u @TT<|
 a4u @UM<|
 a4u @UN<|
 a4u @UP<|
 a4u @UY<|
 a4u @UZ<|
 a4u @US<|
 a4u @U0<|
 a4u @Tc<|
 a4u @Td<|
 a4u @U1<|
 a4u @TF<|
 a4u @TG<|
 a4u @U3<|
 @U4
def rX:=
 a4u @Br<|
 a4u @Bs<|
 a4u @SQ<|
 a4u @SR<|
 a4u @SS<|
 a4u @SU<|
 a4u @SV<|
 a4u @T7<|
 a4u @eq_self.{1}<|
 a4u @SZ<|
 a4u @a5f.{0}<|
 a4u @a5h.{0}<|
 a4u @UT<|
 a4u @Option.map_none.{0,0}<|
 a4u @UR<|
 a4u @qg<|
 a4u @nU<|
 a4u @BQ<|
 a4u @UU<|
 a4u @UW<|
 a4u @Te<|
 a4u @Tf<|
 a4u @Tg<|
 a4u @rL<|
 a4u @rK<|
 a4u @Ti<|
 a4u @Tj<|
 a4u @To<|
 a4u @Tp<|
 a4u @Bu<|
 a4u @Tr<|
 a4u @Tt<|
 a4u @Tu<|
 a4u @Tw<|
 a4u @Tx<|
 a4u @rP<|
 a4u @Tz<|
 a4u @Uz<|
 a4u @tC<|
 a4u @jy<|
 a4u @TC<|
 a4u @TD<|
 a4u @TJ<|
 a4u @TK<|
 a4u @rQ<|
 a4u @TN<|
 a4u @TP<|
 a4u @TS<|
 a4u @TV<|
 a4u @TX<|
 a4u @TY<|
 a4u @TZ<|
 a4u @TW<|
 a4u @a5x.{0,0}<|
 a4u @U6<|
 a4u @U7<|
 a4u @U5<|
 a4u @U9<|
 a4u @U8<|
 a4u @rS<|
 a4u @a4U.{0,0}<|
 a4u @a6k.{0,0}<|
 a4u @Uk<|
 a4u @Ul<|
 a4u @Um<|
 a4u @Un<|
 a4u @Uo<|
 a4u @Up<|
 a4u @Uq<|
 a4u @Ur<|
 a4u @Us<|
 a4u @Ut<|
 a4u @Uu<|
 a4u @Uv<|
 a4u @UD<|
 a4u @BN<|
 a4u @BO<|
 a4u @UE<|
 a4u @UF<|
 a4u @UG<|
 a4u @UH<|
 a4u @UI<|
 a4u @UJ<|
 a4u @wrap_i64<|
 a4u @Ug<|
 a4u @Uh<|
 a4u @Ui<|
 a4u @Uj<|
 a4u @Uw<|
 a4u @Ux<|
 a4u @Uy<|
 a4u @rR<|
 a4u @wrap_u64<|
 a4u @UC<|
 a4u @BH<|
 a4u @a4I.{0,0}<|
 a4u @a4C.{0}<|
 a4u @a4G.{0}<|
 a4u @U.By<|
 a4u @U.Ua<|
 a4u @U.Ub<|
 a4u @U.Uc<|
 a4u @U.Ud<|
 a4u @U.set_set<|
 a4u @U.Bz<|
 a4u @U.BA<|
 a4u @U.BB<|
 a4u @U.BC<|
 a4u @U.BD<|
 a4u @U.BE<|
 a4u @U.BG<|
 a4u @U.Uf<|
 a4u @BI<|
 a4u @BJ<|
 a4u @BK<|
 a4u @BL<|
 a4u @BM<|
 a4u @hK<|
 a4u @a6C.{0}<|
 a4u @and_self<|
 a4u @a4W<|
 a4u @a5n<|
 a4u @a7q<|
 a4u @a5a<|
 a4u @true_and<|
 a4u @and_true<|
 a4u @a6w<|
 a4u @a5c<|
 a4u @UA<|
 @UB
def fW:=
 a4u @V5<|
 a4u @V6<|
 a4u @V2<|
 a4u @V1<|
 a4u @V4<|
 @V3
def bk:=
 a4u @a4C.{0}<|
 a4u @a4G.{0}<|
 a4u @a4I.{0,0}<|
 a4u @a4y.{0}<|
 a4u @a6o.{0}<|
 a4u @List.length_range<|
 a4u @a4z.{0}<|
 a4u @a4N.{0}<|
 a4u @BI<|
 a4u @BJ<|
 a4u @BK<|
 a4u @BL<|
 a4u @BM<|
 a4u @hK<|
 a4u @tG<|
 a4u @UK<|
 a4u @BP<|
 a4u @UL<|
 a4u @and_true<|
 a4u @true_and<|
 a4u @a4W<|
 a4u @eq_self.{1}<|
 @and_self
def bb (a:List UInt8):R:= .v (.string ⟨a.toArray⟩)
theorem toList_mk (a:List UInt8):(⟨a.toArray⟩:ByteArray).toList=a:=a9a
theorem BX (a b:List UInt8):bn .eql (.string ⟨a.toArray⟩) (.string ⟨b.toArray⟩)=some (.bool (decide (a=b))):=by grind[bn,pT,toList_mk]
theorem BY (a b:List UInt8):bn .neq (.string ⟨a.toArray⟩) (.string ⟨b.toArray⟩)=some (.bool (decide (a≠b))):=by grind[bn,pT,toList_mk]
def nV (a:List UInt8):(⟨a.toArray⟩:ByteArray).size=a.length:=by rfl
variable{u:bl}{l h7:World}
section
def V8:rM K ⟨some e,e3,some (i,I)⟩ j f=hI (j i) I (cu (G K e3 j f (λa _=>a=j e)) ()) (cu ((.aK []:R)=j e) ()):=rfl
def V9 {a:Option Nat}:Def K ⟨a,e3,some (e,I)⟩ j=hI (j e) I (cu (G K e3 j U.emp (λ_ _=>True)) ()) (cu True ()):=rfl
def mR (a:R):Option R:=
 match a with
 | .J xs _=>match bytesOf xs with
  |some b=>some (.v (.string ⟨b.toArray⟩))
  |none=>none
 | _=>none
def BZ:mR (.J (B.map al) M)=some (.v (.string ⟨B.toArray⟩)):=by simp[mR,rp]
def Va:G K (.pZ Z) j f s=dD (mR (ak j Z)) (bZ (λa=>s a f) ()):=by simp only[G,mR];generalize ak j Z=b;cases b<;>first|rfl|(rename_i c h;simp only[];generalize bytesOf c=d;cases d<;>rfl)
def qh (d:Bool) (a b:R):Option R:=
 match a,b with
 | .v (.int c a),.v (.int h b)=>if c=h then some (.v (.int c (if d then max a b else min a b)))else none
 | _,_=>none
def Vb {a:Int}:qh true (.v (.int e2 b1)) (.v (.int e2 a))=some (.v (.int e2 (max b1 a))):=by simp[qh]
def Vc {a:Int}:qh false (.v (.int e2 b1)) (.v (.int e2 a))=some (.v (.int e2 (min b1 a))):=by simp[qh]
def Vd:G K (.lI I e2 Z e9) j f s=dD (qh I (ak j Z) (ak j e9)) (bZ (λa=>s a f) ()):=by
 simp only[G,qh];generalize ak j Z=b;generalize ak j e9=c;cases b<;>first
  |rfl
  |(rename_i v;cases v<;>first
    |rfl
    |(cases c<;>first
      |rfl
      |(rename_i d;cases d<;>first|rfl|(simp only[jx,iV]))))
def rY (a:R):Option R:=
 match a with
 | .v (.string b)=>some (.v (.int .i64 b.size))
 | _=>none
def wJ:rY (.v (.string ⟨B.toArray⟩))=some (.v (.int .i64 B.length)):=by rfl
def Ve:G K (.pX Z) j f s=dD (rY (ak j Z)) (bZ (λa=>s a f) ()):=by simp only[G,rY];generalize ak j Z=b;cases b<;>first|rfl|(rename_i v;cases v<;>rfl)
def qi (a:R) (d h:Option R):Option R:=
 match a with
 | .v (.string b)=>match cE d 0,cE h b.size with
  |some a,some c=>if 0<=a/\a<=c/\c<=b.size then some (.v (.string (b.extract a.toNat c.toNat)))else none
  | _,_=>none
 | _=>none
def wK (a:List UInt8) (b c:Nat):(⟨a.toArray⟩:ByteArray).extract b c=⟨((a.take c).drop b).toArray⟩:=by apply ByteArray.ext;simp only[ByteArray.data_extract];simp[a5P]
def Vf (a:0<=b1) (b:b1<=B.length):qi (.v (.string ⟨B.toArray⟩)) (some (.v (.int e2 b1))) none=some (.v (.string ⟨(B.drop b1.toNat).toArray⟩)):=by simp[qi,cE,intOf,nV,a,b,wK]
def Vg (a:0<=b1) (b:b1<=B.length):qi (.v (.string ⟨B.toArray⟩)) none (some (.v (.int e2 b1)))=some (.v (.string ⟨(B.take b1.toNat).toArray⟩)):=by simp[qi,cE,intOf,nV,a,b,wK]
def Vh {b:IntKind}{a:Int} (c:0<=b1) (d:b1<=a) (h:a<=B.length):qi (.v (.string ⟨B.toArray⟩)) (some (.v (.int e2 b1))) (some (.v (.int b a)))=some (.v (.string ⟨((B.take a.toNat).drop b1.toNat).toArray⟩)):=by simp[qi,cE,intOf,nV,c,d,h,wK]
theorem C0 (a:0<=b1) (b:b1<B.length):rU (.v (.string ⟨B.toArray⟩)) (.v (.int e2 b1))=some (.v (.int .u8 (B.getD b1.toNat 0).toNat)):=by grind[List.getD,rU]
def C1 (c:Nat) (h:U) (r x:R) (p:R->U->Prop):Prop:=
 match r,x with
 | .bA d off a _ k,.J b _=>k=c/\(∀o∈b,o.cells.length=c)/\match h d with
  |some (.cells cs)=>off+a*c<=cs.length/\p (.v (.int .i64 (min b.length a))) (h.set d (.cells (putAt cs off (flat (b.take a)))))
  | _=>False
 | .an d a _ k,.J b _=>k=c/\(∀o∈b,o.cells.length=c)/\match h d with
  |some (.cells cs)=>a*c<=cs.length/\p (.v (.int .i64 (min b.length a))) (h.set d (.cells (putAt cs 0 (flat (b.take a)))))
  | _=>False
 | _,_=>False
def Vi:G K (.mA e Z e9) j f s=C1 e f (ak j Z) (ak j e9) (bO s ()):=rfl
def C2 {a:cy s} (b:aS e g) (c:f v=some (.cells A)) (d:O+i*e<=A.length)
  (h:s (.v (.int .i64 (min g.length i))) (f.set v (.cells (putAt A O (flat (g.take i)))))):C1 e f (.bA v O i b8 e) (.J g M) (bO s a):=by
 refine⟨rfl,b,?_⟩;rw[c];trivial
def tH (c b:Nat) (k:U) (a:R) (o p:Option R):Option R:=
 match a with
 | .ptr h off=>match cE o 0,cE p b with
  |some a,some d=>match k.read h with
   |some cs=>if 0<=a/\a<=d/\d<=b/\off+b*c<=cs.length/\a<b then some (.bA h (off+a.toNat*c) (d.toNat - a.toNat) (b - a.toNat) c)else none
   |none=>none
  | _,_=>none
 | _=>none
def wL (a:f.read v=some g) (b:O+e*i<=g.length) (c:0<e):tH i e f (.ptr v O) none none=some (.bA v O e e i):=by simp[tH,cE,a,b,c]
theorem Vj {a b:Option Operand}:G K (.kf i e Z a b false) j f s=dD (tH i e f (ak j Z) (a.map (ak j)) (b.map (ak j))) (bZ (λc=>s c f) ()):=by
 simp only[G,tH,wE];generalize ak j Z=d;generalize a.map (ak j)=h;generalize b.map (ak j)=k;cases d<;>try rfl
 rename_i o y;simp only[];generalize cE h 0=p;generalize cE k e=r;generalize f.read o=x;cases p<;>cases r<;>cases x<;>first
  |rfl
  |(simp[dD];done)
  |(
    simp only[jx,iV,a5A,if_false];grind)
def nW (d:Nat) (b:U) (a:List R) (h:R->U->Prop):Prop:=
 (∀k∈a,k.cells.length=d)/\(if a.length=0 then h (.J [] .zero) b else∀c,b c=none->h (.an c a.length a.length d) (b.set c (.cells (flat a))))
def Vk {a:List Operand}:G K (.kh e a) j f s=nW e f (a.map (ak j)) (bO s ()):=by simp only[G,nW,bO,a4I]
def nX {a:cy s}:nW e f [] (bO s a)=s (.J [] .zero) f:=by simp[nW,bO]
def eP {b:cy s} (c:aS e g) (d:g≠ []) (h: ∀a,f a=none->s (.an a g.length g.length e) (f.set a (.cells (flat g)))):nW e f g (bO s b):=by refine⟨c,?_⟩;rw[if_neg (λk=>d (a4B k))];exact h
def C3 (d h:Nat) (k:List R) (c:U) (o p:R) (r:R->U->Prop):Prop:=
 match o,p with
 | .v (.int _ a),.v (.int _ x)=>a=x/\0<=a/\a<=9223372036854775807/\a*h<=281474976710656/\ ∀b,c b=none->r (.an b a.toNat a.toNat d) (c.set b (.cells (List.replicate a.toNat k).flatten))
 | _,_=>False
def Vl:G K (.kg e i g Z e9) j f s=C3 e i g f (ak j Z) (ak j e9) (bO s ()):=rfl
theorem wM {b:IntKind}{c:cy s} (d:e*v<=281474976710656) (h:e<=9223372036854775807) (k: ∀a,f a=none->s (.an a e e i) (f.set a (.cells (List.replicate e g).flatten))):
  C3 i v g f (.v (.int e2 (e:Int))) (.v (.int b (e:Int))) (bO s c):=⟨rfl,a8Z,a8Z,a8Z,λa o=>by
 grind[bO,Int.toNat_natCast]⟩
def jG (c z:Nat) (d:U) (E F:R) (x:R->U->Prop):Prop:=
  match mJ d c F with
  |some (b,y)=>match E with
    | .J xs D=>xs= []/\(D= .nil\/D= .zero)/\b*z<=140737488355328/\b<=9223372036854775807/\
      (if b=0 then x (.J [] D) d else∀h k p,d h=none->b<=k->k<=maxLen->p.length=(k - b)*c->x (.an h b k c) (d.set h (.cells (y++p))))
    | .an r a k C=>match d r with
      |some (.cells cs)=>C=c/\cs.length=k*c/\(a+b)*z<=140737488355328/\a+b<=9223372036854775807/\
        (if a+b<=k then x (.an r (a+b) k c) (d.set r (.cells (putAt cs (a*c) y)))
         else∀h o p,d h=none->a+b<=o->o<=maxLen->p.length=(o -(a+b))*c->x (.an h (a+b) o c) (d.set h (.cells (cs.take (a*c)++y++p))))
      |some (.fB cs)=>C=c/\cs.length=k*c/\(a+b)*z<=140737488355328/\a+b<=9223372036854775807/\
        (if a+b<=k then x (.an r (a+b) k c) (d.set r (.fB (putAt cs (a*c) y)))
         else∀h o p,d h=none->a+b<=o->o<=maxLen->p.length=(o -(a+b))*c->x (.an h (a+b) o c) (d.set h (.cells (cs.take (a*c)++y++p))))
      | _=>False
    | .bA r off a k C=>match d r with
      |some (.cells cs)=>C=c/\off+k*c<=cs.length/\(a+b)*z<=140737488355328/\a+b<=9223372036854775807/\
        (if a+b<=k then x (.bA r off (a+b) k c) (d.set r (.cells (putAt cs (off+a*c) y)))
         else∀h o p,d h=none->a+b<=o->o<=maxLen->p.length=(o -(a+b))*c->x (.an h (a+b) o c) (d.set h (.cells ((cs.drop off).take (a*c)++y++p))))
      | _=>False
    | _=>False
  |none=>False
def Vm:G K (.lJ e i Z e9) j f s=jG e i f (ak j Z) (ak j e9) (bO s ()):=rfl
def au (p r:U) (a:Nat) (d:List R) (h:R):Prop:=
 p.sub r/\((d= []/\(h= .J [] .nil\/h= .J [] .zero))\/ ∃k b c o,h= .an k b c a/\p k=none/\r k=some (.cells o)/\o.length=c*a/\o.take (b*a)=d/\d.length=b*a/\b<=c/\c<=maxLen)
theorem au.nil {a b:U}{c:Nat} (d:a.sub b):au a b c [] (.J [] .nil):=⟨d,.inl ⟨rfl,.inl rfl⟩⟩
def au.zero {a b:U}{c:Nat} (d:a.sub b):au a b c [] (.J [] .zero):=⟨d,.inl ⟨rfl,.inr rfl⟩⟩
def au.mono {a:R} (d:au f t e g a) (c:t.sub e4):au f e4 e g a:=by
 obtain⟨h,b⟩:=d;refine⟨U.ar h c,?_⟩;rcases b with b|⟨k,o,p,r,x,y,z,C⟩
 .exact .inl b
 .exact .inr ⟨k,o,p,r,x,y,c _ _ z,C⟩
theorem au.base (c:au f e4 e g n) (b:t.sub f):au t e4 e g n:=by
 obtain⟨d,a⟩:=c;refine⟨U.ar b d,?_⟩;rcases a with a|⟨h,k,o,p,r,x,y⟩
 .exact .inl a
 .exact .inr ⟨h,k,o,p,r,U.bF b x,y⟩
def au.new {ob:bq} (h:au t f i g n) (k:f e=none):au (t.set e ob) (f.set e ob) i g n:=by
 obtain⟨o,a⟩:=h;refine⟨U.kW o,?_⟩;rcases a with a|⟨c,p,r,x,y,z,b,C⟩
 .exact .inl a
 .have d:c≠e:=by rintro rfl;rw[k]at b;cases b
  exact .inr ⟨c,p,r,x,y,by rw[U.ao _ _ d];exact z,by rw[U.ao _ _ d];exact b,C⟩
theorem au.src (b:au t f e g n): ∃a,g.length=a*e/\bN f e n=some (a,g)/\fb n=some (.v (.int .i64 a)):=by
 obtain⟨h,c⟩:=b;rcases c with ⟨rfl,rfl|rfl⟩|⟨k,a,o,p,rfl,r,x,y,z,d,C,D⟩
 .exact⟨0,a9a,rfl,rfl⟩
 .exact⟨0,a9a,rfl,rfl⟩
 .refine⟨a,d,?_,rfl⟩;simp_all [a4L,bN,U.ae]
theorem fg {l:cy s} (m:au t f e A n) (G:0<e) (q:bN f e b3=some (i,g)) (h:g.length=i*e) (u:(A.length+g.length)*v<=140737488355328*e) (w:A.length+g.length<=9223372036854775807)
  (r: ∀L P,au t P e (A++g) L->s L P):jG e v f n b3 (bO s l):=by
 obtain⟨b,B⟩:=m;unfold jG;rw[vI q];simp only[bO];have da: ∀a,A.length=a*e->(a+i)*v<=140737488355328/\a+i<=9223372036854775807:=by
  intro a H;have x:A.length+g.length=(a+i)*e:=by rw[H,h,a5F]
  rw[x]at u w;constructor
  .have:(a+i)*v*e<=140737488355328*e:=by grind
   exact Nat.le_of_mul_le_mul_right this G
  .have:(a+i)*1<=(a+i)*e:=a8P _ G;omega
 rcases B with ⟨rfl,Y⟩|⟨I,a,c,y,rfl,S,K,z,T,V,Z,M⟩
 .obtain⟨C,W⟩:=da 0 a9a;have j9: ∀k,(k= .nil\/k= .zero)->(([]:List R)= []/\(k= .nil\/k= .zero)/\i*v<=140737488355328/\i<=9223372036854775807/\
   (if i=0 then s (.J [] k) f else∀d c o,f d=none->i<=c->c<=maxLen->o.length=(c - i)*e->s (.an d i c e) (f.set d (.cells (g++o))))):=by
   intro k N;refine⟨rfl,N,by simpa using C,a8Z,?_⟩;split
   .rename_i hm;subst hm;have:g= []:=a4B (by simpa using h);subst this;refine r _ _ ⟨b,.inl ⟨rfl,?_⟩⟩;simp_all
   .intro d c o p D E F;refine r _ _ ⟨U.af b (U.bF b p),.inr ⟨d,i,c,g++o,rfl,U.bF b p,U.ah _ _ _,?_,?_,by trivial,D,E⟩⟩
    .rw[a4y,h,F,<-a5F];congr 1;omega
    .rw[<-h,a7e];rfl
  grind
 .obtain⟨C,W⟩:=da a V;simp only[K];refine⟨trivial,z,C,W,?_⟩;have O:(y.take (a*e)).length=a*e:=by rw[T,V]
  split
  .rename_i j;have Q:a*e+g.length<=y.length:=by rw[h,z,<-a5F];exact a4L _ j
   refine r _ _ ⟨U.af b S,.inr ⟨I,a+i,c,_,rfl,S,U.ah _ _ _,?_,?_,by grind,j,M⟩⟩
   .rw[eH _ _ _ Q,z]
   .have x:(a+i)*e=(y.take (a*e)++g).length:=by grind
    rw[putAt,x,a7e,T]
  .intro d X o p D E F;refine r _ _ ⟨U.af b (U.bF b p),.inr ⟨d,a+i,X,_,rfl,U.bF b p,U.ah _ _ _,?_,?_,by grind,D,E⟩⟩
   .rw[a4y,a4y,O,h,F,<-a5F,<-a5F];congr 1;omega
   .have x:(a+i)*e=(y.take (a*e)++g).length:=by grind
    grind
theorem C4:bN f 1 (.J (B.map al) M)=some (B.length,B.map al):=by grind[al,decide,R.cells,bN,ru]
def wN (a:U) (b:R):Option R:=
 match bN a 1 b with
 |some (_,xs)=>match bytesOf xs with
  |some c=>some (.v (.string ⟨c.toArray⟩))
  |none=>none
 |none=>none
def Vn (a:bN f 1 n=some (e,B.map al)):wN f n=some (.v (.string ⟨B.toArray⟩)):=by simp[wN,a,rp]
def tI (a:R):Option R:=
 match a with
 | .v (.string b)=>some (.J (b.data.toList.map al) .any)
 | _=>none
def Vo:tI (.v (.string ⟨B.toArray⟩))=some (.J (B.map al) .any):=by rfl
def Vp:G K (.q0 Z) j f s=dD (tI (ak j Z)) (bZ (λa=>s a f) ()):=by simp only[G,tI];generalize ak j Z=b;cases b<;>first|rfl|(rename_i v;cases v<;>rfl)
theorem aY.frozen {v:Value} (h:Holds u f l) (k:f O=some (.ro g)) (o:e*i<=g.length) (p:aY u v (.an O e b8 i)):aY u v (.J (ed i e g) .any):=by
 obtain⟨r,x,T,L,P,c,S⟩:=h.dO O _ k;have V:=c.1;cases p with
 |an O e b8 i hk y=>
  obtain⟨z,C,d⟩:=vQ hk o r;by_cases D:e=0
  .subst D;have:=a4B d;rw[this];exact .dg _ _ _ (λE=>by cases E) trivial
  .refine .J O 0 e b8 i (λa=>x.getD a Go.undef) _ .any hk d.symm y z ?_ ?_ ?_ trivial;grind;grind
   .intro a F b;rw[C]at b;have G:a<e*i:=by grind
    rw[a5w G]at b;exact c.2 a F b
end
def rZ:=
 a4u @Vk<|
 a4u @Vm<|
 a4u @Vl<|
 a4u @Vp<|
 a4u @Va<|
 a4u @Vd<|
 a4u @Ve<|
 a4u @Vi<|
 a4u @Vj<|
 a4u @V8<|
 @V9
def s0:=
 a4u @Vo<|
 a4u @jz<|
 a4u @TI<|
 a4u @UQ<|
 a4u @BZ<|
 a4u @Vb<|
 a4u @Vc<|
 a4u @wJ<|
 a4u @Vf<|
 a4u @Vg<|
 a4u @Vh<|
 a4u @wL<|
 a4u @BY<|
 a4u @BX<|
 a4u @C0<|
 a4u @ite_true.{1}<|
 a4u @ite_false.{1}<|
 a4u @a5r<|
 a4u @a5q<|
 a4u @a7f<|
 a4u @Bool.true_xor<|
 a4u @a5U<|
 a4u @a6N<|
 a4u @decide_true<|
 @decide_false
section
def Vq {a b:List Operand}:G K (.bG b5 a b) j f s=mP (.bG b5 (a.map (ak j)) (b.map (ak j))) (bZ (λc=>s c f) ()):=rfl
def wO (a:Ctx) (b:R) (c:List R) (d:U) (h:R->U->Prop):Prop:=
 match b with
 | .bG fn cJ cs=>gf a.p fn=true/\hE a.p fn (cJ++c++cs) d h (up a.k)
 | _=>False
def Vr {a:List Operand}:G K (.iO Z a) j f s=wO K (ak j Z) (a.map (ak j)) f (bO s ()):=rfl
def fF {c:cy s} (d:gf K.p b5=true) (h:AC K.p b5 (g++e0++A) f a7) (k: ∀a b,a7 a b->s a b):wO K (.bG b5 g A) e0 f (bO s c):=⟨d,(h.mono k).p⟩
def Vs:G K (.q1 b2 Z) j f s=mP (.iface b2 (ak j Z)) (bZ (λa=>s a f) ()):=rfl
def p0 (d:TypeId) (a:Bool) (b:R) (h:R):Option R:=
 match h with
 | .iface k c=>if k=d then some (if a then .aK [c,.v (.bool true)]else c)else if a=true then some (.aK [b,.v (.bool false)])else none
 | .v .nilIface=>if a=true then some (.aK [b,.v (.bool false)])else none
 | _=>none
def Vt:p0 b2 true b3 (.iface b2 n)=some (.aK [n,.v (.bool true)]):=by simp[p0]
def Vu {a:TypeId} (b:a≠b2):p0 b2 true n (.iface a b3)=some (.aK [n,.v (.bool false)]):=by simp[p0,b]
def Vv:p0 b2 true n (.v .nilIface)=some (.aK [n,.v (.bool false)]):=by rfl
def Vw:p0 b2 false b3 (.iface b2 n)=some n:=by simp[p0]
def C5 (a:Bool) (b:R):Option R:=
 match b with
 | .iface _ _=>some (.v (.bool a))
 | .v .nilIface=>some (.v (.bool (!a)))
 | _=>none
def Vx:C5 I (.iface b2 n)=some (.v (.bool I)):=rfl
def Vy:C5 I (.v .nilIface)=some (.v (.bool (!I))):=rfl
def C6 (a:Bool) (b:R):Option R:=
 match b with
 | .bG _ _ _=>some (.v (.bool a))
 | .v .nilFunc=>some (.v (.bool (!a)))
 | _=>none
def Vz:C6 I (.bG e g A)=some (.v (.bool I)):=rfl
def VA:C6 I (.v .nilFunc)=some (.v (.bool (!I))):=rfl
def VB (a:Ctx) (b:R) (c:U):Prop:=
 match b with
 | .iface d h=>up a.k (.iface d h) c
 | _=>False
def VC:G K (.mC Z) j f s=VB K (ak j Z) f:=rfl
def wP (b:R) (c:U) (d:Nat->ByteArray->Prop):Prop:=
 match b with
 | .v (.string h)=> ∀a,c a=none->d a h
 | _=>False
def VD:G K (.ki Z) j f s=wP (ak j Z) f (bO (λa b=>s (.ptr a 0) (f.set a (.it b 0))) ()):=rfl
def C7 {a:Nat->ByteArray->Prop}{b:cy a}:wP (.v (.string ⟨B.toArray⟩)) f (bO a b)=iW f (bZ (λc=>a c ⟨B.toArray⟩) ()):=rfl
def wQ (h:R) (b:U) (c:R->U->Prop):Prop:=
 match h with
 | .ptr d off=>off=0/\match b d with
  |some (.it a pos)=>if pos<a.size then c (.aK [.v (.bool true),.v (.int .i64 pos),.v (.int .i32 (Utf8.decode a pos).1)]) (b.set d (.it a (pos+(Utf8.decode a pos).2)))else c (.aK [.v (.bool false)]) b
  | _=>False
 | _=>False
def VE:G K (.mD Z) j f s=wQ (ak j Z) f (bO s ()):=rfl
def VF {a:cy s} (b:f i=some (.it ⟨B.toArray⟩ e)) (c:e<B.length)
  (d:s (.aK [.v (.bool true),.v (.int .i64 e),.v (.int .i32 (Utf8.decode ⟨B.toArray⟩ e).1)]) (f.set i (.it ⟨B.toArray⟩ (e+(Utf8.decode ⟨B.toArray⟩ e).2)))):wQ (.ptr i 0) f (bO s a):=by
 refine⟨rfl,?_⟩;rw[b];simp only[nV,if_pos c];exact d
def VG {a:cy s} (b:f e=some (.it ⟨B.toArray⟩ i)) (c: ¬i<B.length) (d:s (.aK [.v (.bool false)]) f):wQ (.ptr e 0) f (bO s a):=by refine⟨rfl,?_⟩;rw[b];simp only[nV,if_neg c];exact d
def wR (a:R):Option R:=
 match a with
 | .J [] .nil=>some (.v (.pointer none))
 | .an b _ cap _=>if 0<cap then some (.ptr b 0)else none
 | _=>none
def VH:wR (.J [] .nil)=some (.v (.pointer none)):=rfl
def VI (a:0<i):wR (.an e v i O)=some (.ptr e 0):=by simp[wR,a]
def VJ:bS K .refuse e8 j f=False:=rfl
def U.VK:(f.set e (.oJ b2 g)).read e=some g:=by simp[U.read,U.set]
def VL:(R.bG e g A).cells= [.bG e g A]:=rfl
def VM:rN (.bG e g A)=some (.bG e g A):=rfl
def s3 (a:Bool) (b:U) (h k:R):Option R:=
 match h,k with
  | .ptr _ _,.v (.pointer none)=>some (.v (.bool a))
  | .v (.pointer none),.ptr _ _=>some (.v (.bool a))
  | .v (.pointer none),.v (.pointer none)=>some (.v (.bool (!a)))
  | .ptr c o,.ptr d p=>if vJ b c=true/\vJ b d=true then some (.v (.bool (xor a (decide (c=d/\o=p)))))else none
  | _,_=>none
def VN (a:vJ f e=true):s3 I f (.ptr e i) (.ptr e i)=some (.v (.bool (!I))):=by simp[s3,a]
def VO:s3 I f (.ptr e i) (.v (.pointer none))=some (.v (.bool I)):=rfl
def VP:s3 I f (.v (.pointer none)) (.ptr e i)=some (.v (.bool I)):=rfl
def VQ:s3 I f (.v (.pointer none)) (.v (.pointer none))=some (.v (.bool (!I))):=rfl
end
def VR:(true==true)=true:=rfl
def VS:(true==false)=false:=rfl
def VT:(false==true)=false:=rfl
def VU:(false==false)=true:=rfl
def C8:=
 a4u @Vq<|
 a4u @Vr<|
 a4u @Vs<|
 a4u @VC<|
 a4u @VD<|
 a4u @VE<|
 @VJ
def C9:=
 a4u @VR<|
 a4u @VS<|
 a4u @VT<|
 a4u @VU<|
 a4u @Vt<|
 a4u @Vu<|
 a4u @Vv<|
 a4u @Vw<|
 a4u @Vx<|
 a4u @Vy<|
 a4u @Vz<|
 a4u @VA<|
 a4u @C7<|
 a4u @VH<|
 a4u @VI<|
 a4u @U.VK<|
 a4u @VL<|
 a4u @VM<|
 a4u @VN<|
 a4u @VO<|
 a4u @VP<|
 @VQ
noncomputable def jH (b:R->Option R) (c v:R):R->Option R:=λa=> @ite _ (a=c) (Classical.propDecidable _) (some v) (b a)
def tJ {a:R->Option R}{v:R}:jH a n v n=some v:=by simp[jH]
def qj {a:R->Option R}{v:R} (b:n≠b3):jH a b3 v n=a n:=by simp[jH,b]
def wS (b:R): ∀(a:List (R×R×Nat)) (c:Nat),dC a b c=(dC a b 0).map λd=>(d.1+c,d.2)
 | [],_=>rfl
 |h::a,c=>by
  unfold dC;split
  .simp
  .rw[wS b a (c+1),wS b a (0+1)];cases dC a b 0<;>simp[a8i,Nat.add_left_comm,a7Y]
theorem kX (b:R×R×Nat) (d:List (R×R×Nat)) (a:R):dC (b::d) a 0= @ite _ (a=b.1) (Classical.propDecidable _) (some (0,b.2.1)) ((dC d a 0).map λh=>(h.1+1,h.2)):=by
 conv=>lhs;unfold dC
 rw[wS a d (0+1)];by_cases c:a=b.1
 .rw[if_pos ((rm _ _).2 c),if_pos c]
 .rw[if_neg (λk=>c ((rm _ _).1 k)),if_neg c]
theorem Ca (b v:R) (o:Nat) (a:R): ∀c:List (R×R×Nat),dC c b 0=none->(dC (c++ [(b,v,o)]) a 0).map (·.2)=jH (λa=>(dC c a 0).map (·.2)) b v a
 | [],_=>by
  grind[kX,jH,dC]
 |p::c,h=>by
  rw[kX]at h;split at h
  .cases h
  .next r=>
   have x:dC c b 0=none:=by simp_all
   have ih:=Ca b v o a c x;rw[a5K,kX];by_cases d:a=p.1
   .have k:a≠b:=λy=>r (by rw[<-y];exact d);rw[if_pos d,qj k];rw[kX,if_pos d]
   .rw[if_neg d];by_cases k:a=b;simp_all [tJ]
    .rw[qj k]at ih|-;rw[kX,if_neg d,a7U,a7U];exact ih
theorem Cb (c v k:R) (b:R): ∀(d:List (R×R×Nat)) (o:Nat),dC d c 0=some (o,v)->(dC (d.modify o λh=>(h.1,k,h.2.2)) b 0).map (·.2)=jH (λb=>(dC d b 0).map (·.2)) c k b
 | [],_,a=>by trivial
 |h::d,o,a=>by
  rw[kX]at a;split at a
  .next p=>
   simp only[a4H,a5G]at a;obtain⟨rfl,_⟩:=a;rw[a8B,kX];by_cases a:b=c
   .subst a;rw[tJ];simp[p]
   simp_all [qj,kX]
  .next p=>
   cases r:dC d c 0 with
   |none=>rw[r]at a;cases a
   |some y=>
    rw[r]at a;simp only[a5x,a4H,a5G]at a;obtain⟨rfl,rfl⟩:=a;have ih:=Cb c y.2 k b d y.1 r;rw[a8C,kX];by_cases a:b=h.1
    .have x:b≠c:=λz=>p (by rw[<-z];exact a);rw[if_pos a,qj x];rw[kX,if_pos a]
    .rw[if_neg a];by_cases x:b=c;simp_all [tJ]
     .rw[qj x]at ih|-;rw[kX,if_neg a,a7U,a7U];exact ih
structure kY (rs:List (Nat×c8)) (us:List (R×R×Nat)) (a:Nat) (b:R->Option R):Prop where
 val: ∀k,(dC us k 0).map (·.2)=b k
 keys:rn rs us
 born:(us.map (·.2.2)).Nodup
 lt: ∀c∈us,c.2.2<a
def kY.new:kY j4 [] 0 λ_=>none:=⟨λ_=>rfl,λb a=>by simp at a,a9a,λb a=>by simp at a⟩
theorem VV (a:List (R×R×Nat)) (c:Nat) (v:R):(a.modify c λb=>(b.1,v,b.2.2)).map (·.2.2)=a.map (·.2.2):=by
 induction a generalizing c with
 |nil=>simp
 |cons b a ih=>grind
theorem mem_modify {b:List (R×R×Nat)}{v:R}{a:R×R×Nat} (d:a∈b.modify e λa=>(a.1,v,a.2.2)): ∃c∈b,a.1=c.1/\a.2.2=c.2.2:=by
 induction b generalizing e with
 |nil=>simp at d
 |cons c b ih=>grind
theorem kY.set {a:List (R×R×Nat)}{p:R->Option R} (b:kY j4 a i p) {v:R} (r:dC a n 0=some (e,v)):kY j4 (a.modify e λc=>(c.1,b3,c.2.2)) i (jH p n b3) where
 val:=λx=>by
  rw[Cb n v b3 x a e r];simp only[jH];rw[b.val]
 keys:=λc d=>by
  obtain⟨h,k,o,_⟩:=mem_modify d;rw[o];exact b.keys h k
 born:=by rw[VV];exact b.born
 lt:=λc d=>by
  obtain⟨h,k,_,o⟩:=mem_modify d;rw[o];exact b.lt h k
theorem kY.push {d:List (R×R×Nat)}{h:R->Option R} (b:kY j4 d e h) {v:R} (x:dA j4 g) (o:dC d (.agg g) 0=none):kY j4 (d++ [(.agg g,v,e)]) (e+1) (jH h (.agg g) v) where
 val:=λp=>by
  rw[Ca _ v e p d o];simp only[jH];rw[b.val]
 keys:=λc a=>by
  rcases a4M.1 a with a|a
  .exact b.keys c a
  simp_all
 born:=by rw[a5y,List.nodup_append];refine⟨b.born,a9a,?_⟩;intro y r z k;obtain⟨c,a,rfl⟩:=a4R.1 r;simp at k;subst k;exact Nat.ne_of_lt (b.lt c a)
 lt:=λc a=>by
  rcases a4M.1 a with a|a
  .exact Nat.lt_succ_of_lt (b.lt c a)
  simp_all
def qk (c:U) (d:Nat) (h:List (Nat×c8)) (k:R->Option R):Prop:= ∃a b,c d=some (.mp a b)/\kY h a b k
def a4m (h:U) (k:Nat) (o:List (Nat×c8)) (p:R->Option R) (r:R) (x:Nat):Prop:=
 ∃a b,h k=some (.mp a b)/\ ∀v,∃c,Hc a (x:Int)=some c/\kY o (a.modify c λd=>(d.1,v,d.2.2)) b (jH p r v)
section
def VW:G K .kj j f s=iW f (bZ (λa=>s (.gQ a) (f.set a (.mp [] 0))) ()):=rfl
def tK (a:Bool) (b:List (Nat×c8)) (c:R) (h:U) (k o:R) (d:R->Prop):Prop:=
 match k,o with
 | .gQ p,.agg cs=>match h p with
  |some (.mp us _)=>dA b cs/\rn b us/\(match dC us (.agg cs) 0 with
   |some (_,v)=>d (if a then .aK [v,.v (.bool true)]else v)
   |none=>d (if a then .aK [c,.v (.bool false)]else c))
  | _=>False
 | _,_=>False
def VX:G K (.lK I j4 n Z e9) j f s=tK I j4 n f (ak j Z) (ak j e9) (bZ (λa=>s a f) ()):=by simp only[G,tK];generalize ak j Z=b;generalize ak j e9=c;rfl
def Cc {c:R->Option R}{a:R->Prop}{k:cy a} (o:qk f e j4 c) (p:dA j4 g)
  (r: ∀v,c (.agg g)=some v->a (if I then .aK [v,.v (.bool true)]else v)) (x:c (.agg g)=none->a (if I then .aK [n,.v (.bool false)]else n)):tK I j4 n f (.gQ e) (.agg g) (bZ a k):=by
 obtain⟨y,C,z,d⟩:=o;simp only[tK,z];refine⟨p,d.keys,?_⟩;have b:=d.val (.agg g);cases h:dC y (.agg g) 0 with
 |none=>rw[h]at b;exact x b.symm
 |some D=>rw[h]at b;exact r _ b.symm
def tL (a:List (Nat×c8)) (b:U) (d h v:R) (k:U->Prop):Prop:=
 match d,h with
 | .gQ c,.agg cs=>match b c with
  |some (.mp us clock)=>dA a cs/\rn a us/\k (b.set c (.mp (kN us (.agg cs) v clock).1 (kN us (.agg cs) v clock).2))
  | _=>False
 | _,_=>False
def VY {v:Operand}:G K (.lL j4 Z e9 v) j f s=tL j4 f (ak j Z) (ak j e9) (ak j v) (bZ (λa=>s (.aK []) a) ()):=by simp only[G,tL];generalize ak j Z=b;generalize ak j e9=c;rfl
def VZ {v:R}{c:R->Option R}{a:U->Prop}{o:cy a} (p:qk f e j4 c) (d:dA j4 g)
  (r: ∀h,qk (f.set e h) e j4 (jH c (.agg g) v)->a (f.set e h)):tL j4 f (.gQ e) (.agg g) v (bZ a o):=by
 obtain⟨x,z,y,b⟩:=p;simp only[tL,y];refine⟨d,b.keys,r _ ⟨_,_,U.ah _ _ _,?_⟩⟩;unfold kN;cases k:dC x (.agg g) 0 with
 |none=>exact b.push d k
 |some C=>exact b.set k
end
theorem wT {a b:List UInt8}:iX .neq (bb a) (bb b)=some (.v (.bool (!decide (a=b)))):=by grind[bb,rQ,BY]
def ql {a b:List UInt8}:iX .eql (bb a) (bb b)=some (.v (.bool (decide (a=b)))):=by simp only[bb,rQ,BX a b];rfl
def W0:wN f (.J (B.map al) M)=some (bb B):=Vn C4
def p1 {a:List UInt8}{b:Own}:mR (.J (a.map al) b)=some (bb a):=BZ
def mS (k:(∀a,R.J a .nil∈g->a= [])->AC m b5 g f s):AC m b5 g f s:=λb o p c r=>by
 refine k (λa x=> ?_) b o p c r;obtain⟨d,y,z⟩:=a5i x;have h:=c.2 d _ (by rw[a4w y,z]);generalize b.getD d undef=v at h;cases h with
 |dg=>rfl
 |J C off len cap D E a F hk hlen G L P hH S T=>trivial
def W1:=
 a4u @VW<|
 a4u @VX<|
 @VY
def W2:=
 a4u @wT<|
 a4u @ql<|
 a4u @W0<|
 @p1
def qm:=a4u rW (a4u rZ (a4u C8 W1))
def W3:=a4u rX<|a4u fW<|a4u s0<|a4u C9 W2
attribute [go_sem ↓] qm
attribute [go_sem] W3 a6c ne_eq not_true_eq_false not_false_eq_true a6h a6t ak ofConst cT
def aj (a:N) (b:h2) (c:N->b4=h2:=by intro d;simp -dsimp -implicitDefEqProofs (disch:=first|omega|assumption|(simp only[bk,Nat.reduceAdd];try omega)) only[go_sem,simprocAttr,-List.reduceReplicate,d];rfl):b4:=(c a).mpr b
def bT (a:b4) (b:N=b4:=by simp -dsimp -implicitDefEqProofs (disch:=first|omega|assumption|(simp only[bk,Nat.reduceAdd];try omega)) only[go_sem,simprocAttr,-List.reduceReplicate];rfl):N:=b.mpr a
def aE (a:N) (b:h2) (c:N->b4=h2:=by intro d;simp -dsimp -implicitDefEqProofs (disch:=first|omega|assumption|(simp only[bk,Nat.reduceAdd];try omega)) only[go_sem,simprocAttr,d];rfl):b4:=(c a).mpr b
def eA (a:b4) (b:N=b4:=by simp -dsimp -implicitDefEqProofs (disch:=first|omega|assumption|(simp only[bk,Nat.reduceAdd];try omega)) only[go_sem,simprocAttr];rfl):N:=b.mpr a
def cm (a:N) (b:N->b4=True:=by intro c;simp -dsimp -implicitDefEqProofs (disch:=first|omega|assumption|(simp only[bk,Nat.reduceAdd];try omega)) only[go_sem,simprocAttr,-List.reduceReplicate,c]):b4:=of_eq_true (b a)
def mT (a:N=True:=by simp -dsimp -implicitDefEqProofs (disch:=first|omega|assumption|(simp only[bk,Nat.reduceAdd];try omega)) only[go_sem,simprocAttr,-List.reduceReplicate]):N:=of_eq_true a
def gT (a:N) (b:N->b4=True:=by intro c;simp -dsimp -implicitDefEqProofs (disch:=first|omega|assumption|(simp only[bk,Nat.reduceAdd];try omega)) only[go_sem,simprocAttr,c]):b4:=of_eq_true (b a)
def qn (a:N=True:=by simp -dsimp -implicitDefEqProofs (disch:=first|omega|assumption|(simp only[bk,Nat.reduceAdd];try omega)) only[go_sem,simprocAttr]):N:=of_eq_true a
def c2 (a:N) (b:b4):N/\b4:=⟨a,b⟩
def aH (a:N) (b:b4) (c:h2):N/\b4/\h2:=⟨a,b,c⟩
def aI (a:N) (b:b4) (c:h2) (d:h8):N/\b4/\h2/\h8:=⟨a,b,c,d⟩
def bm (a:N) (b:b4) (c:h2) (d:h8) (h:j1):N/\b4/\h2/\h8/\j1:=⟨a,b,c,d,h⟩
def bs {a:Prop} (b:N) (c:b4) (d:h2) (h:h8) (k:j1) (o:a):N/\b4/\h2/\h8/\j1/\a:=⟨b,c,d,h,k,o⟩
def c6 {a b:Prop} (c:N) (d:b4) (h:h2) (k:h8) (o:j1) (p:a) (r:b):N/\b4/\h2/\h8/\j1/\a/\b:=⟨c,d,h,k,o,p,r⟩
def bt {a b c:Prop} (d:N) (h:b4) (k:h2) (o:h8) (p:j1) (r:a) (x:b) (y:c):N/\b4/\h2/\h8/\j1/\a/\b/\c:=⟨d,h,k,o,p,r,x,y⟩
def cV {a b c d:Prop} (h:N) (k:b4) (o:h2) (p:h8) (r:j1) (x:a) (y:b) (z:c) (C:d):N/\b4/\h2/\h8/\j1/\a/\b/\c/\d:=⟨h,k,o,p,r,x,y,z,C⟩
def cf {a b c d h:Prop} (k:N) (o:b4) (p:h2) (r:h8) (x:j1) (y:a) (z:b) (C:c) (D:d) (E:h):N/\b4/\h2/\h8/\j1/\a/\b/\c/\d/\h:=⟨k,o,p,r,x,y,z,C,D,E⟩
def gj {a b c d h k:Prop} (o:N) (p:b4) (r:h2) (x:h8) (y:j1) (z:a) (C:b) (D:c) (E:d) (F:h) (G:k):N/\b4/\h2/\h8/\j1/\a/\b/\c/\d/\h/\k:=⟨o,p,r,x,y,z,C,D,E,F,G⟩
def gU {a b c d h k o:Prop} (p:N) (r:b4) (x:h2) (y:h8) (z:j1) (C:a) (D:b) (E:c) (F:d) (G:h) (L:k) (P:o):N/\b4/\h2/\h8/\j1/\a/\b/\c/\d/\h/\k/\o:=⟨p,r,x,y,z,C,D,E,F,G,L,P⟩
def kZ {a b c d h k o p:Prop} (r:N) (x:b4) (y:h2) (z:h8) (C:j1) (D:a) (E:b) (F:c) (G:d) (L:h) (P:k) (S:o) (T:p):N/\b4/\h2/\h8/\j1/\a/\b/\c/\d/\h/\k/\o/\p:=⟨r,x,y,z,C,D,E,F,G,L,P,S,T⟩
def fu {a b c d h k o p r:Prop} (x:N) (y:b4) (z:h2) (C:h8) (D:j1) (E:a) (F:b) (G:c) (L:d) (P:h) (S:k) (T:o) (V:p) (W:r):N/\b4/\h2/\h8/\j1/\a/\b/\c/\d/\h/\k/\o/\p/\r:=⟨x,y,z,C,D,E,F,G,L,P,S,T,V,W⟩
def p2 {a b c d h k o p r x:Prop} (y:N) (z:b4) (C:h2) (D:h8) (E:j1) (F:a) (G:b) (L:c) (P:d) (S:h) (T:k) (V:o) (W:p) (e:r) (f:x):N/\b4/\h2/\h8/\j1/\a/\b/\c/\d/\h/\k/\o/\p/\r/\x:=⟨y,z,C,D,E,F,G,L,P,S,T,V,W,e,f⟩
def lW {a b c d h k o p r x y:Prop} (z:N) (C:b4) (D:h2) (E:h8) (F:j1) (G:a) (L:b) (P:c) (S:d) (T:h) (V:k) (W:o) (e:p) (f:r) (g:x) (i:y):N/\b4/\h2/\h8/\j1/\a/\b/\c/\d/\h/\k/\o/\p/\r/\x/\y:=⟨z,C,D,E,F,G,L,P,S,T,V,W,e,f,g,i⟩
def mU {a b c d h k o p r x y z:Prop} (C:N) (D:b4) (E:h2) (F:h8) (G:j1) (L:a) (P:b) (S:c) (T:d) (V:h) (W:k) (e:o) (f:p) (g:r) (i:x) (j:y) (l:z):N/\b4/\h2/\h8/\j1/\a/\b/\c/\d/\h/\k/\o/\p/\r/\x/\y/\z:=⟨C,D,E,F,G,L,P,S,T,V,W,e,f,g,i,j,l⟩
def wU {a b c d h k o p r x y z C:Prop} (D:N) (E:b4) (F:h2) (G:h8) (L:j1) (P:a) (S:b) (T:c) (V:d) (W:h) (e:k) (f:o) (g:p) (i:r) (j:x) (l:y) (m:z) (n:C):N/\b4/\h2/\h8/\j1/\a/\b/\c/\d/\h/\k/\o/\p/\r/\x/\y/\z/\C:=⟨D,E,F,G,L,P,S,T,V,W,e,f,g,i,j,l,m,n⟩
def Cd {a b c d h k o p r x y z C D:Prop} (E:N) (F:b4) (G:h2) (L:h8) (P:j1) (S:a) (T:b) (V:c) (W:d) (e:h) (f:k) (g:o) (i:p) (j:r) (l:x) (m:y) (n:z) (q:C) (s:D):N/\b4/\h2/\h8/\j1/\a/\b/\c/\d/\h/\k/\o/\p/\r/\x/\y/\z/\C/\D:=⟨E,F,G,L,P,S,T,V,W,e,f,g,i,j,l,m,n,q,s⟩
def nY {a b c d h k o p r x y z C D E:Prop} (F:N) (G:b4) (L:h2) (P:h8) (S:j1) (T:a) (V:b) (W:c) (e:d) (f:h) (g:k) (i:o) (j:p) (l:r) (m:x) (n:y) (q:z) (s:C) (t:D) (u:E):N/\b4/\h2/\h8/\j1/\a/\b/\c/\d/\h/\k/\o/\p/\r/\x/\y/\z/\C/\D/\E:=⟨F,G,L,P,S,T,V,W,e,f,g,i,j,l,m,n,q,s,t,u⟩
section
def W4:G K (.mE Z) j f s=dD (rq (ak j Z)) (bZ (λa=>s a f) ()):=by simp only[G];rfl
def W5:rq (.an i v e O)=some (.v (.int .i64 e)):=rfl
def W6:rq (.J [] .nil)=some (.v (.int .i64 0)):=rfl
def cg (d:Nat) (x:R) (h k o:Option R):Option R:=
 match x with
 | .an p len cap r=>match cE h 0,cE k len,cE o cap with
  |some a,some c,some b=>if r=d/\0<=a/\a<=c/\c<=b/\b<=cap then
    some (if h.isSome=true then(if a<b then .bA p (a.toNat*d) (c.toNat - a.toNat) (b.toNat - a.toNat) d else .J [] .zero)else .an p c.toNat b.toNat d)
   else none
  | _,_,_=>none
 | .bA p off len cap r=>match cE h 0,cE k len,cE o cap with
  |some a,some c,some b=>if r=d/\0<=a/\a<=c/\c<=b/\b<=cap then
    some (if a<b then .bA p (off+a.toNat*d) (c.toNat - a.toNat) (b.toNat - a.toNat) d else .J [] .zero)
   else none
  | _,_,_=>none
 | .J [] .nil=>match cE h 0,cE k 0,cE o 0 with
  |some a,some c,some b=>if a=0/\c=0/\b=0 then some (.J [] .nil)else none
  | _,_,_=>none
 | .J [] .zero=>match cE h 0,cE k 0,cE o 0 with
  |some a,some c,some b=>if a=0/\c=0/\b=0 then some (.J [] .zero)else none
  | _,_,_=>none
 | _=>none
def W7 {a b c:Option Operand}:rr j e n a b c=cg e n (a.map (ak j)) (b.map (ak j)) (c.map (ak j)):=by simp only[rr,cg,wE,Option.isSome_map];rfl
def W8 {a b c:Option Operand}:G K (.lM e Z a b c) j f s=dD (cg e (ak j Z) (a.map (ak j)) (b.map (ak j)) (c.map (ak j))) (bZ (λd=>s d f) ()):=by simp only[G,W7];rfl
theorem hL (a:v<=i):cg e (.an O b8 i e) none (some (.v (.int e2 (v:Int)))) none=some (.an O v i e):=by grind[cg,cE,intOf]
theorem gk (a:e<=v) (b:v<=O) (c:e<O):cg i (.an b8 v O i) (some (.v (.int e2 (e:Int)))) none none=some (.bA b8 (e*i) (v - e) (O - e) i):=by grind[cg,cE,intOf]
def tM (a:e=v):cg i (.an O e v i) (some (.v (.int e2 (e:Int)))) none none=some (.J [] .zero):=by subst a;simp[cg,cE,intOf]
theorem Ce {a:IntKind} (b:e<=O) (c:O<=v) (d:e<v):cg i (.an b8 j0 v i) (some (.v (.int e2 (e:Int)))) (some (.v (.int a (O:Int)))) none=some (.bA b8 (e*i) (O - e) (v - e) i):=by grind[cg,cE,intOf]
def W9:cg e (.J [] .zero) (some (.v (.int e2 0))) none none=some (.J [] .zero):=by rfl
def Wa:cg e (.J [] .nil) (some (.v (.int e2 0))) none none=some (.J [] .nil):=by rfl
def wV:cg e (.J [] .nil) none (some (.v (.int e2 0))) none=some (.J [] .nil):=by rfl
def Cf (a:Option U) (b:U->Prop):Prop:=
 match a with
 |some c=>b c
 |none=>False
def Wb {a:U->Prop}{b:cy a}:Cf (some f) (bZ a b)=a f:=rfl
def Cg (a:Option (R×U)) (b:R->U->Prop):Prop:=
 match a with
 |some (c,d)=>b c d
 |none=>False
def Wc {a:cy s}:Cg (some (n,f)) (bO s a)=s n f:=rfl
def Wd:G K (.mF e g Z) j f s=Cf (kP e g (ak j Z) f) (bZ (λa=>s (.aK []) a) ()):=by simp only[G];rfl
def We:G K (.mG e Z e9) j f s=Cg (lN e (ak j Z) (ak j e9) f) (bO s ()):=by simp only[G];rfl
def Wf:G K (.mI Z e9) j f s=dD (kQ (ak j Z) (ak j e9) f) (bZ (λa=>s a f) ()):=by simp only[G];rfl
def wW (a:f i=some (.cells g)) (b:v+O*e<=g.length):kP e A (.bA i v O b8 e) f=some (f.set i (.cells (putAt g v (List.replicate O A).flatten))):=by simp[kP,a,b]
def Wg:kP e g (.J [] M) f=some f:=rfl
def hn (a:bN f e n=some (b8,A)) (b:f v=some (.cells g)) (c:O+i*e<=g.length):lN e (.bA v O i j0 e) n f=some (.v (.int .i64 (min b8 i:Nat)),f.set v (.cells (putAt g O (A.take (i*e))))):=by simp[lN,a,b,c]
def wX (a:cK n=some e) (b:cK b3=some i) (c:e≠i) (d:kl f e=true) (h:kl f i=true):kQ n b3 f=some (.v (.bool false)):=by simp[kQ,a,b,c,d,h]
def qo (a:f e=some (.cells g)) (b:g≠ []):kl f e=true:=by
 cases g with
 |nil=>trivial
 |cons c g=>simp[kl,a]
def s4 (c p:Nat) (r:List R) (k:U) (y z:R) (x:R->U->Prop):Prop:=
 match y,z with
  | .an C d cap D,.v (.int .i64 a)=>match k.read C with
   |some cs=>D=c/\cs.length=cap*c/\0<=a/\cap<d+a.toNat/\(d+a.toNat)*p<=140737488355328/\d+a.toNat<=9223372036854775807/\
    ∀h b o,k h=none->d+a.toNat<=b->b<=maxLen->o.length=(b -(d+a.toNat))*c->x (.an h (d+a.toNat) b c) (k.set h (.cells (cs.take (d*c)++(List.replicate a.toNat r).flatten++o)))
   |none=>False
  | .J xs E,.v (.int .i64 a)=>xs= []/\E= .nil/\0<a/\a.toNat*p<=140737488355328/\a<=9223372036854775807/\
    ∀h b o,k h=none->a.toNat<=b->b<=maxLen->o.length=(b - a.toNat)*c->x (.an h a.toNat b c) (k.set h (.cells ((List.replicate a.toNat r).flatten++o)))
  | _,_=>False
def Wh:G K (.mH e i g Z e9) j f s=s4 e i g f (ak j Z) (ak j e9) (bO s ()):=rfl
def wY {d:cy s} (h:f j0=some (.cells g)) (k:g.length=O*v) (o:O<e+i) (p:(e+i)*b8<=140737488355328) (r:e+i<=9223372036854775807)
  (x: ∀b a c,f b=none->e+i<=a->a<=maxLen->c.length=(a -(e+i))*v->s (.an b (e+i) a v) (f.set b (.cells (g.take (e*v)++(List.replicate i A).flatten++c)))):s4 v b8 A f (.an j0 e O v) (.v (.int .i64 (i:Int))) (bO s d):=by
 simp only[s4,U.ae h,a5a];exact⟨trivial,k,a8Z,o,p,r,x⟩
def Ch {d:cy s} (o:0<e) (h:e*v<=140737488355328) (p:e<=9223372036854775807)
  (k: ∀b a c,f b=none->e<=a->a<=maxLen->c.length=(a - e)*i->s (.an b e a i) (f.set b (.cells ((List.replicate e g).flatten++c)))):s4 i v g f (.J [] .nil) (.v (.int .i64 (e:Int))) (bO s d):=by
 simp only[s4,a5a];exact⟨trivial,trivial,a8Z,h,a8Z,k⟩
def View (c:U) (h:R) (k:U) (o:R):Prop:= ∀(a:bl) (b:World) (v:Value),Holds a c b->aY a v h-> ∃d,Step a c b d k b/\aY d v o
def AC.view (k:AC m b5 g f s) (o: ∀a b,s a b-> ∃c d,View b a d c/\a7 c d):AC m b5 g f a7:=
 λp r x y z=>(k p r x y z).mono λ_ _ C=>by
  obtain⟨v,a,D,b,E,h,F,G⟩:=C;obtain⟨c,d,L,P⟩:=o a b G;obtain⟨S,T,V⟩:=L D _ v h.holds F;exact⟨v,c,S,d,E,h.trans T,V,P⟩
theorem View.refl {a:U}{b:R}:View a b a b:=λc k v d h=>⟨c,.refl d,h⟩
theorem View.J {s:U}{a:List R}{o:Own}:View s (.J a o) s (.J a .any):=λb E v c d=>by
 refine⟨b,.refl c,?_⟩;cases d with
 |dg h cap dm bW k=>exact .dg h cap .any bW trivial
 |J p off len cap r x a dm hk hlen y z C hH D k=>exact .J p off len cap r x a .any hk hlen y z C hH D trivial
theorem View.an {b:U}{c n cap k:Nat}{a:List R} (h:b c=some (.cells a)) (o:n*k<=a.length):View b (.an c n cap k) (b.set c (.ro a)) (.J (ed k n a) .any):=λy z v p r=>by
 obtain⟨x,d⟩:=Step.freeze p h;exact⟨x,d,aY.frozen d.holds (U.ah _ _ _) o (r.mono d.le)⟩
theorem kq:ed 1 e g=g.take e:=by rfl
theorem Wi (c:i<=v):ed e i (g.take (v*e))=ed e i g:=by
 unfold ed;by_cases hk:e=1;grind
 .simp only[hk,if_false];refine a6b λa b=> ?_;have b:a<i:=by simpa using b
  have d:a*e+e<=v*e:=by have:(a+1)*e<=v*e:=a4L _ a8Z;grind
  rw[a5P,a5L,a6f a8Z]
theorem View.dR (o:au t f e g n): ∃a d,g.length=a*e/\t.sub d/\View f n d (.J (ed e a g) .any):=by
 obtain⟨b,p⟩:=o;rcases p with ⟨rfl,rfl|rfl⟩|⟨h,a,F,r,rfl,x,y,G,z,C,L,P⟩
 .refine⟨0,f,a9a,b,?_⟩;grind[ed,View.J]
 .refine⟨0,f,a9a,b,?_⟩;grind[ed,View.J]
 .refine⟨a,f.set h (.ro r),C,λk D c=> ?_,?_⟩
  .have E:k≠h:=by rintro rfl;rw[x]at c;cases c
   rw[U.ao _ _ E];exact b k D c
  .rw[<-z,Wi (a5c a)];exact View.an y (by grind)
theorem View.trans {a b c:U}{d h k:R} (r:View a d b h) (x:View b h c k):View a d c k:=λy o v z C=>by
 obtain⟨D,p,E⟩:=r y o v z C;obtain⟨F,G,L⟩:=x D o v p.holds E;exact⟨F,p.trans G,L⟩
theorem View.aK {c d:U}{b h:R}{a k:List R} (x:View c b d h):View c (.aK (a++b::k)) d (.aK (a++h::k)):=λy z v C D=>by
 cases D with
 |aK E cs F o=>
  have G:=o a.length b a9a;obtain⟨L,p,S⟩:=x y z _ C G;refine⟨L,p,.aK E _ (by simpa using F) λr P T=> ?_⟩;by_cases V:r=a.length;simp_all
  .refine(o r P ?_).mono p.le;grind
theorem View.agg {d h:U}{b c:R}{a k:List R} (S:c.one=true) (x:View d b h c):View d (.agg (a++b::k)) h (.agg (a++c::k)):=λy z v C D=>by
 cases D with
 |agg E cs T F o=>
  have G:=o a.length b a9a;obtain⟨L,p,V⟩:=x y z _ C G;refine⟨L,p,.agg E _ (λW e=> ?_) (by simpa using F) λr P f=> ?_⟩;grind;by_cases g:r=a.length;simp_all
  .refine(o r P ?_).mono p.le;grind
end
def eI:=
 a4u @W4<|
 a4u @W8<|
 a4u @Wd<|
 a4u @We<|
 a4u @Wf<|
 a4u @Wh<|
 a4u @Wb<|
 a4u @Wc<|
 a4u @W5<|
 a4u @W6<|
 @wV
def dB (a:N) (b:h2) (c:N->b4=h2:=by intro d;simp -dsimp -implicitDefEqProofs (disch:=first|omega|assumption|(simp only[bk,Nat.reduceAdd];try omega)) only[go_sem,simprocAttr,-List.reduceReplicate,↓eI,d];rfl):b4:=(c a).mpr b
def Ci (a:b4) (b:N=b4:=by simp -dsimp -implicitDefEqProofs (disch:=first|omega|assumption|(simp only[bk,Nat.reduceAdd];try omega)) only[go_sem,simprocAttr,-List.reduceReplicate,↓eI];rfl):N:=b.mpr a
def wr:dH->List Nat
 | .plain ops| .draw ops _=>ops.filterMap (·.dst)
 | .seq a b| .cond _ a b=>wr a++wr b
 | .block _ a| .loop a=>wr a
 | _=> []
def ho (b:List Nat) (c d:Fr):Prop:= ∀a,a∉b->d a=c a
theorem ho.trans {a:List Nat}{b c d:Fr} (o:ho a b c) (p:ho a c d):ho a b d:=λh k=>(p h k).trans (o h k)
def ho.put {c:List Nat}{b:Option Nat} (d: ∀a,b=some a->a∈c):ho c j (dk j b n):=λa h=>tu j b n a λk=>h (d a k)
section
def Cj {a:List Nat}{k:Fr->U->Prop}{o:Fr}: ∀(b:List c7),(∀c∈b,∀p,c.dst=some p->p∈a)-> ∀(j:Fr) (f:U),ho a o j->iR K b k j f->iR K b (λr d=>k r d/\ho a o r) j f
 | [],_,j,f,ct,h=>⟨h,ct⟩
 |c::y,x,j,f,ct,h=>mM (λE d z=>Cj y (λC D=>x C (a5R _ D)) _ d (ct.trans (ho.put (x c (a6q ..)))) z) h
def Ck {b:List Nat}{c:Nat->c7}{h:Fr->U->Prop}{k:Fr} (o: ∀z p,(c z).dst=some p->p∈b): ∀(r:List di) (j:Fr) (f:U),ho b k j->can K c h r j f->can K c (λx d=>h x d/\ho b k x) r j f
 | [],j,f,ct,a=>⟨a,ct⟩
 |C::D,j,f,ct,a=>⟨a.1,mM (λE d y=>⟨y.1,Ck o D _ d (ct.trans (ho.put (o C.i))) y.2⟩) a.2⟩
theorem nZ {r:List Nat}: ∀(x:dH),(∀b∈wr x,b∈r)-> ∀ {o:gh->Fr->U->Prop}{d:Fr} (j:Fr) (f:U),ho r d j->bS K x o j f->bS K x (λh C E=>o h C E/\ho r d C) j f
 | .skip,_,_,_,j,f,ct,a=>⟨a,ct⟩
 | .ret,_,_,_,j,f,ct,a=>⟨a,ct⟩
 | .exit _,_,_,_,j,f,ct,a=>⟨a,ct⟩
 | .plain ops,hw,_,_,j,f,ct,a=>Cj ops (λF G b p=>hw b (a7W.2 ⟨F,G,p⟩)) j f ct a
 | .draw ops L,hw,_,_,j,f,ct,a=>Ck (λy b p=>by
   refine hw b (a7W.2 ?_);grind[nth,List.mem_of_getElem?]) L j f ct a
 | .seq c z,hw,o,d,j,f,ct,a=>iY c (λh j f a=>by
   cases h with
   |norm=>exact nZ z (λb k=>hw b (a6D _ k)) j f a.2 a.1
   |exit y=>exact a
   |ret=>exact a) j f (nZ c (λb k=>hw b (a6I _ k)) j f ct a)
 | .block y c,hw,o,d,j,f,ct,a=>iY c (λh j f a=>by
   cases h with
   |norm=>exact a
   |exit e=>obtain⟨P,g⟩:=a;simp only[kV]at P|-;split<;>(simp_all)
   |ret=>exact a) j f (nZ c hw j f ct a)
 | .cond x c z,hw,o,d,j,f,ct,a=>by
   simp only[wy,Bq,ko]at a|-;split at a
   .exact⟨λp=>nZ c (λb k=>hw b (a6I _ k)) j f ct (a.1 p),λp=>nZ z (λb k=>hw b (a6D _ k)) j f ct (a.2 p)⟩
   .trivial
 | .loop c,hw,o,d,j,f,ct,a=>by
   obtain⟨S,T,V,W⟩:=a;refine⟨λj f=>S j f/\ho r d j,T,⟨V,ct⟩,λj f D=>iY c (λh j f a=> ?_) j f (nZ c hw j f D.2 (W j f D.1))⟩;cases h with
   |norm=>exact⟨⟨a.1.1,a.2⟩,a.1.2⟩
   |exit y=>exact a
   |ret=>exact a
def gI (a:Fr):List (Nat×R)->Prop
 | []=>True
 |b::c=>a b.1=b.2/\gI a c
def Wj:gI j []=True:=rfl
def Wk {v:R}:gI j [(e,v)]=(j e=v):=by simp[gI]
def Wl {v:R}{a:Nat×R}{b:List (Nat×R)}:gI j ((e,v)::a::b)=(j e=v/\gI j (a::b)):=rfl
def gV (a:Fr):List (Nat×R)->Fr
 | []=>a
 |b::c=>dk (gV a c) (some b.1) b.2
def Wm:gV j []=j:=rfl
def Wn {v:R}{a:List (Nat×R)}:gV j ((e,v)::a)=dk (gV j a) (some e) v:=rfl
theorem s5 {a:Fr}: ∀ {b:List (Nat×R)},gI a b->gV a b=a
 | [],_=>rfl
 |d::o,c=>by
  rw[gV,s5 c.2];funext h;by_cases k:h=d.1
  .subst k;rw[<-c.1];simp[dk,lF]
  grind[tu,Option.some.inj]
def keeps (a:Fr):List Nat->List (Nat×R)
 | []=> []
 |b::c=>(b,a b)::keeps a c
def Wo:keeps j []= []:=rfl
def Wp {a:List Nat}:keeps j (e::a)=(e,j e)::keeps j a:=rfl
def wZ {b c:Fr}: ∀ {d:List Nat},(∀a∈d,c a=b a)->gI c (keeps b d)
 | [],_=>trivial
 |a::p,h=>⟨h a (a6q ..),wZ λk o=>h k (a5R _ o)⟩
theorem Cl: ∀ {a:Nat},j5 a-> ∃a,j5 a/\ ∀b,j5 b->a<=b:=by
 intro a
 induction a using Nat.strongRecOn with
 |ind a ih=>grind
theorem ch (D:List Nat) (y:b0->List (Nat×R)) (E:b0->U->Prop) (h:b0->Nat) (L:b0)
  (m:E L f/\gI j (y L)) (P: ∀x c,E x c-> ∀d,bS K h6 (eO (λn q=> ∃a,E a q/\gI n (y a)/\h a<h x) e8) (gV (gV d (keeps j D)) (y x)) c)
  (I:D.all (λS=> !(wr h6).contains S)=true:=by kernel_rfl):cu (bS K (.loop h6) e8 j f) ():=by
 classical
 let p:=λd c a=>E a c/\gI d (y a)
 let z:=λd c=>if C: ∃k,(∃a,p d c a/\h a=k)/\ ∀o,(∃a,p d c a/\h a=o)->k<=o then C.choose else 0;refine⟨λd c=>(∃a,p d c a)/\ho (wr h6) j d,z,⟨⟨L,m⟩,λ_ _=>rfl⟩,λb r T=> ?_⟩;have C: ∃k,(∃a,p b r a/\h a=k)/\ ∀o,(∃a,p b r a/\h a=o)->k<=o:=by obtain⟨a,s⟩:=T.1;exact Cl ⟨a,s,rfl⟩
 obtain⟨⟨x,i,hm⟩,M⟩:=C.choose_spec;have t:gI b (keeps j D):=wZ λS N=>T.2 S λO=>by
  simp_all
 have u:gV (gV b (keeps j D)) (y x)=b:=by rw[s5 t,s5 i.2]
 have l:=P x r i.1 b;rw[u]at l;refine iY h6 (λv F G V=> ?_) b r (nZ h6 (λ_ P=>P) b r T.2 l);cases v with
 |norm=>obtain⟨⟨a,W,e,w⟩,A⟩:=V;refine⟨⟨⟨a,W,e⟩,A⟩,?_⟩;have g: ∃k,(∃a,p F G a/\h a=k)/\ ∀o,(∃a,p F G a/\h a=o)->k<=o:=Cl ⟨a,⟨W,e⟩,rfl⟩;show z F G<z b r;have B:z F G=g.choose:=dif_pos g;have H:z b r=C.choose:=dif_pos C;rw[B,H];exact Nat.lt_of_le_of_lt (g.choose_spec.2 _ ⟨a,⟨W,e⟩,rfl⟩) (by rw[<-hm];exact w)
 |exit Q=>exact V.1
 |ret=>exact V.1
end
theorem gJ (d:List Nat) (b:b0->List (Nat×R)) (c:b0->Prop) (h:b0->Nat) (k:b0)
  (x:c k) (y:gI j (b k)) (z: ∀a,c a-> ∀o,bS K h6 (eO (λC D=> ∃p,D=f/\c p/\gI C (b p)/\h p<h a) e8) (gV (gV o (keeps j d)) (b a)) f)
  (E:d.all (λF=> !(wr h6).contains F)=true:=by kernel_rfl):cu (bS K (.loop h6) e8 j f) ():=
 ch d b (λa r=>r=f/\c a) h k ⟨⟨rfl,x⟩,y⟩ (λa r G o=>by
  obtain⟨rfl,L⟩:=G;refine iY h6 (λP S T V=> ?_) _ _ (z a L o);grind) E
def tN:=
 a4u @Wj<|
 a4u @Wk<|
 a4u @Wl<|
 a4u @Wm<|
 a4u @Wn<|
 a4u @Wo<|
 @Wp
def U.tO (a:f e=none) (b:t.sub f):t e=none:=U.bF b a
def U.Wq (c:f e=none):f.sub (t.set e Y)=f.sub t:=propext ⟨λa d h b=>by
 have k:d≠e:=by rintro rfl;rw[c]at b;cases b
 have:=a d h b;rwa[U.ao _ _ k]at this,λa=>U.af a c⟩
def U.sub_self:f.sub f=True:=eq_true U.a1
def Wr:(∃b,b.sub t/\f.sub b)=f.sub t:=propext ⟨λ⟨_,a,h⟩ c d k=>a c d (h c d k),λa=>⟨f,a,U.a1⟩⟩
def Ws:(∃b,b.sub t/\b=f)=f.sub t:=propext ⟨λ⟨_,a,c⟩=>by subst c;exact a,λa=>⟨f,a,rfl⟩⟩
def Wt:rY (bb B)=some (.v (.int .i64 B.length)):=wJ
def Wu (a:e<B.length):rU (bb B) (.v (.int e2 (e:Int)))=some (.v (.int .u8 (B.getD e 0).toNat)):=by have:=C0 (B:=B) (e2:=e2) (b1:=(e)) a8Z a8Z;trivial
def o0:cL e (.J g M) (.v (.int e2 (i:Int)))=ez e g[i]? :=by rfl
def Wv:ez 1 (some (.v e5))=some (.bV [.v e5]):=rfl
def Ww:ez 1 (some (bb B))=some (.bV [bb B]):=rfl
def Wx:ez 1 (some (.J g M))=some (.bV [.J g M]):=rfl
def Wy:ez 1 (some (.ptr e i))=some (.bV [.ptr e i]):=rfl
def Wz [Decidable N]:(!decide N)=decide (¬N):=decide_not.symm
def WA:(xor false I)=I:=a7f I
def WB:(∃b,b.sub t/\f.sub b/\N)=(f.sub t/\N):=propext ⟨λ⟨_,a,h,k⟩=>⟨λc d o=>a c d (h c d o),k⟩,λa=>⟨f,a.1,U.a1,a.2⟩⟩
def WC:(∃b,b.sub t/\b=f/\N)=(f.sub t/\N):=propext ⟨λ⟨_,a,c,d⟩=>by subst c;trivial,λa=>⟨f,a.1,rfl,a.2⟩⟩
def WD {a:b0}{b:List b0}:List.take (e+1) (a::b)=a::List.take e b:=rfl
def WE {a:List b0}:List.take 0 a= []:=rfl
def WG:List.take e ([]:List b0)= []:=a8L
def WH {a:List b0}:List.drop 0 a=a:=rfl
def WI:putAt (b3::g) 0 (n::A)=n::putAt g 0 A:=by rfl
def WJ:putAt g 0 []=g:=by rfl
def WK:putAt (n::g) (e+1) A=n::putAt g e A:=by simp[putAt,Nat.add_right_comm]
def WL {b:b0}{a:List b0}:(b::a).length=a.length+1:=rfl
def WM:([]:List b0).length=0:=rfl
def WN:(bb B).cells= [bb B]:=rfl
def WO:(R.J g M).cells= [.J g M]:=rfl
def WQ:(R.ptr e i).cells= [.ptr e i]:=rfl
def WR {v:Value}:(R.v v).cells= [.v v]:=rfl
theorem p3 (a:e<=g.length) (b:aS i g):dI i (.J g M) (some (.v (.int e2 (e:Int)))) none=some (.J (g.drop e) .any):=by grind[qg,Int.toNat_natCast]
def WS (a:e<g.length) (b:aS i g):dI i (.J g M) (some (.v (.int e2 ((e:Int)+1)))) none=some (.J (g.drop (e+1)) .any):=p3 (e:=e+1) a b
theorem WT (a:e<=g.length) (b:aS i g):dI i (.J g M) none (some (.v (.int e2 (e:Int))))=some (.J (g.take e) .any):=by grind[nU,Int.toNat_natCast]
theorem WU {a:IntKind} (b:i<=e) (c:e<=g.length) (d:aS v g):dI v (.J g M) (some (.v (.int e2 (i:Int)))) (some (.v (.int a (e:Int))))=some (.J ((g.take e).drop i) .any):=by grind[BQ,Int.toNat_natCast]
def WV:(∃ _:Unit,True)=True:=eq_true ⟨(),trivial⟩
def WW {a:cy s}:jE e f [] (bO s a)=s (.J [] .zero) f:=by simp[jE,bO]
def WX:cL e (.J g M) (.v (.int e2 0))=ez e g[0]? :=o0 (i:=0)
def WY:cL e (.J g M) (.v (.int e2 1))=ez e g[1]? :=o0 (i:=1)
def tP:=
 a4u @WX<|
 a4u @WY<|
 a4u @WV<|
 a4u @p3<|
 a4u @WS<|
 a4u @WT<|
 a4u @WU<|
 a4u @WN<|
 a4u @WO<|
 a4u @WQ<|
 a4u @WR<|
 a4u @U.ah<|
 a4u @U.ao<|
 a4u @WI<|
 a4u @WJ<|
 a4u @WK<|
 a4u @WL<|
 a4u @WM<|
 a4u @WD<|
 a4u @WE<|
 a4u @WG<|
 a4u @WH<|
 a4u @U.Wq<|
 a4u @U.sub_self<|
 a4u @Wr<|
 a4u @Ws<|
 a4u @WB<|
 a4u @WC<|
 a4u @true_and<|
 a4u @and_true<|
 a4u @Wt<|
 a4u @Wu<|
 a4u @o0<|
 a4u @Wv<|
 a4u @Ww<|
 a4u @Wx<|
 a4u @Wy<|
 a4u @hK<|
 a4u @hK<|
 a4u @BH<|
 a4u @decide_true<|
 a4u @decide_false<|
 a4u @a5q<|
 a4u @a5r<|
 a4u @a5U<|
 a4u @a6N<|
 a4u @a8M<|
 a4u @Bool.and_false<|
 a4u @WA<|
 a4u @Bool.true_xor<|
 a4u @Wz<|
 @Decidable.not_not
theorem s6 {a:Nat->Bool} (b:e<i) (c:a e=false):(List.range i).all a=false:=List.all_eq_false.2 ⟨e,a5O.2 b,by simp[c]⟩
theorem s7 {a:Nat->Bool} (b: ∀c<e,a c=true):(List.range e).all a=true:=a4O.2 λd h=>b d (a5O.1 h)
def upto (b: ∀a<e,j5 a) (c:j5 e): ∀a<e+1,j5 a:=λa d=>(Nat.lt_or_eq_of_le (Nat.le_of_lt_succ d)).elim (b a) λh=>h▸c
def WZ:R.v (.int e2 ((e:Int)+1))= .v (.int e2 ((e+1:Nat):Int)):=rfl
theorem qp {a:Bool} (b:(I=true)=(a=true):=by apply propext;(try dsimp only);(try simp (disch:=omega) only[if_pos,if_neg,a4A,a6g,a6d,Bool.not_eq_eq_eq_not,a5q,a5r,decide_eq_true_eq,decide_eq_false_iff_not,a5A,false_iff,iff_false,true_iff,iff_true,true_and,and_true,false_and,and_false,false_or,or_false,true_or,or_true,iff_self, *])<;>omega):I=a:=by simp_all
theorem aO {a:Bool} (b:I=a:=by exact qp):R.v (.bool I)= .v (.bool a):=b▸rfl
theorem aP {a:Bool} (b:I=a):R.v (.bool I)= .v (.bool a):=by rw[b]
def U.tQ (a:f.sub t) (b:f e=some Y):t e=some Y:=a _ _ b
def U.tR (a:bg f t i g M) (b:f e=some Y):t e=some Y:=a.sub _ _ b
def ir (c d:U):Prop:= ∀a b,c a=some (.cells b)->d a=some (.cells b)
def U.o1 (a:f.sub t):ir f t:=λc d b=>a _ _ b
theorem ir.trans (a:ir f t) (b:ir t e4):ir f e4:=λd h c=>b _ _ (a _ _ c)
def U.tS (a:ir f t) (b:f e=some (.cells g)):t e=some (.cells g):=a _ _ b
def U.tT {a:bq} (b:f e=some Y) (c:f i=none):(f.set i a) e=some Y:=U.af U.a1 c _ _ b
def U.gW (b:f i=none) (a:f e=some Y):e≠i:=by rintro rfl;rw[b]at a;cases a
def a0 (a:f e=some Y:=by first|assumption|exact U.ah _ _ _):f e=some Y:=a
def a3 (a:f e=some Y:=by first|exact a0|exact U.tT a2 a9c|exact U.tQ a9c a2|exact U.tR a9c a2|exact U.x0 a9c a2|exact U.tS a9c a2):f e=some Y:=a
def a4 (a:f e=some Y:=by first|exact a0|exact U.tT a3 a9c|exact U.tQ a9c a3|exact U.tR a9c a3|exact U.x0 a9c a3|exact U.tS a9c a3):f e=some Y:=a
def a5 (a:f e=some Y:=by first|exact a0|exact U.tT a4 a9c|exact U.tQ a9c a4|exact U.tR a9c a4|exact U.x0 a9c a4|exact U.tS a9c a4):f e=some Y:=a
def ds (a:f e=some Y:=by first|exact a0|exact U.tT a5 a9c|exact U.tQ a9c a5|exact U.tR a9c a5|exact U.x0 a9c a5|exact U.tS a9c a5):f e=some Y:=a
def fB (c: ∀a b,f a=some (.cells b)->t a=some (.cells b):=by intro _ _ _;exact ds):ir f t:=c
def qq (c: ∀a b,f a=some b->t a=some b:=by intro _ _ _;exact ds):f.sub t:=c
section
def eB (a:N=b4:=by simp -dsimp -implicitDefEqProofs (disch:=first|omega|assumption|exact U.tO a9c a9c|(simp only[bk,Nat.reduceAdd];try omega)) only[go_sem,simprocAttr,-List.reduceReplicate,↓eI,tP,tN, *]<;>rfl):N=b4:=a
def hM (a:N=b4:=by first|exact eB|rfl):N=b4:=a
def aa (a:b4) (b:N=b4:=by exact hM):N:=b.mpr a
def aR (a:N=True:=by simp -dsimp -implicitDefEqProofs (disch:=first|omega|assumption|exact U.tO a9c a9c|(simp only[bk,Nat.reduceAdd];try omega)) only[go_sem,simprocAttr,-List.reduceReplicate,↓eI,tP,tN, *]):N:=of_eq_true a
def aN (b:m.follows .mixedOrders=true) {a:List (Nat×Option (Bool×Nat))} (c:dr m v e=some ⟨i,O,h6,a⟩) (d:N) (h:g.length<=i:=by simp)
  (k:bS (Ctx.of m) h6 (oZ a s) (lR g) f=N:=by exact eB):AC m e g f s:=bd b c h (k.mpr d)
def bp {c:Nat->Prop} (d: ∀a,f a=none->c a) (h: ∀a,f a=none->j5 a=c a:=by intro a b;exact eB):iW f (bZ j5 ()):=λa b=>(h a b).mpr (d a b)
def U.set_nil (a:(f.set i Y) e=none):f e=none/\e≠i/\i≠e:=⟨(U.gH a).2,(U.gH a).1,(U.gH a).1.symm⟩
def cW {d:Nat->Prop} (o: ∀a,f a=none->a≠e->e≠a->d a) (h: ∀a,f a=none->a≠e->e≠a->j5 a=d a:=by intro a b c h;exact eB):iW (f.set e Y) (bZ j5 ()):=λa b=>by
 obtain⟨b,c,k⟩:=U.set_nil b;exact(h a b c k).mpr (o a b c k)
def hp {k:Nat->Prop}{r:bq} (x: ∀a,f a=none->a≠e->e≠a->a≠i->i≠a->k a) (o: ∀a,f a=none->a≠e->e≠a->a≠i->i≠a->j5 a=k a:=by intro a b c o d h;exact eB):iW ((f.set e Y).set i r) (bZ j5 ()):=λa b=>by
 obtain⟨b,d,h⟩:=U.set_nil b;obtain⟨b,c,p⟩:=U.set_nil b;exact(o a b c p d h).mpr (x a b c p d h)
def cl (c:AC m b5 g f a7) (d: ∀a b,a7 a b->s a b) (h:N=nT K b5 g f (bO s ()):=by exact hM) (k:K.p=m:=by rfl):N:=by subst k;exact h.mpr (ai c d)
def bc (a:AC K.p b5 g f λb c=>c=f/\b=n) (d:N) (h:s n f=N:=by exact eB):nT K b5 g f (bO s ()):=ai a λ_ _ a=>by rw[a.1,a.2];exact h.mpr d
theorem lX (c:AC m b5 g f λa b=>b=f/\a=n) (d:b4) (h:N=nT K b5 g f (bO s ()):=by exact hM) (k:s n f=b4:=by exact hM) (o:K.p=m:=by rfl):N:=by grind[ai]
theorem gs {c:U->Prop} (b:AC K.p b5 g f λd a=>f.sub a/\d=n) (h: ∀a,f.sub a->c a) (k: ∀a,f.sub a->s n a=c a:=by intro a b;exact eB):nT K b5 g f (bO s ()):=ai b λ_ a b=>by simp_all
def mV (a:N=b4:=by first|(simp only[decide_eq_true_eq,decide_eq_false_iff_not,a6d,Bool.not_eq_false',a5q,a5r,Decidable.not_not]<;>rfl)|rfl):N=b4:=a
def X0 {c:Prop} (k:(I=true)=N:=by exact mV) (o:(I=false)=b4:=by exact mV) (d:N->h2=j1:=by intro;first|exact eB|rfl) (h:b4->h8=c:=by intro;first|exact eB|rfl):ko (.v (.bool I)) (cu h2 ()) (cu h8 ())=((N->j1)/\(b4->c)):=by subst k o;exact propext ⟨λb=>⟨λa=>(d a).mp (b.1 a),λa=>(h a).mp (b.2 a)⟩,λb=>⟨λa=>(d a).mpr (b.1 a),λa=>(h a).mpr (b.2 a)⟩⟩
def X1 {c:Bool}{d:Prop} (o:(I=c)=N:=by exact mV) (p:(I= !c)=b4:=by exact mV) (h:N->h2=j1:=by intro;first|exact eB|rfl) (k:b4->h8=d:=by intro;first|exact eB|rfl):hI (.v (.bool I)) c (cu h2 ()) (cu h8 ())=((N->j1)/\(b4->d)):=by rw[SX];subst o p;exact propext ⟨λb=>⟨λa=>(h a).mp (b.1 a),λa=>(k a).mp (b.2 a)⟩,λb=>⟨λa=>(h a).mpr (b.1 a),λa=>(k a).mpr (b.2 a)⟩⟩
def aG (a:h8->b4) (b:j1->h2) (c:N=((h8->b4)/\(j1->h2)):=by first|exact X0|exact X1):N:=c.mpr ⟨a,b⟩
def Cm (a:N:=by first|assumption|(simp only[decide_eq_true_eq,decide_eq_false_iff_not,a6d,Bool.not_eq_false',Decidable.not_not]<;>omega)):N:=a
def X2 (a:I=true:=by exact Cm) (b:N=b4:=by exact eB):ko (.v (.bool I)) (cu N ()) (cu h2 ())=b4:=by subst a;exact Br.trans b
def X3 (a:I=false:=by exact Cm) (b:N=b4:=by exact eB):ko (.v (.bool I)) (cu h2 ()) (cu N ())=b4:=by subst a;exact Bs.trans b
def iu (a:b4) (b:N=b4:=by first|exact X2|exact X3|exact a4n|exact a4o):N:=b.mpr a
end
theorem eQ {a:List b0}{b:b0} (c:e<a.length):a.take (e+1)=a.take e++ [a.getD e b]:=by simp_all
abbrev fG (a b:U) (c:List UInt8) (d:R):Prop:=au a b 1 (c.map al) d
def o2 (b:U) (c:R) (a:List UInt8):Prop:=bN b 1 c=some (a.length,a.map al)
theorem o2.J {s:U}{a:List UInt8}{o:Own}:o2 s (.J (a.map al) o) a:=by have b:=C4 (f:=s) (B:=a) (M:=o);exact b
def fG.lY (b:fG t f B n):o2 f n B:=by obtain⟨d,a,c,_⟩:=b.src;simp only[a4I,a5n]at a;subst a;exact c
def au.sub {a b:U}{c:Nat}{d:List R}{h:R} (k:au a b c d h):a.sub b:=k.1
section
def Cn {d:List UInt8} (c:fG t f B n) (h:o2 f b3 d) (k: ∀b a,fG t a (B++d) b->t.sub a->a7 b a) (p:B.length+d.length<=100000000000:=by(try simp only[a4y,a4C,a4G,a4I, *])<;>omega)
  (o: ∀b a,fG t a (B++d) b->t.sub a->s b a=a7 b a:=by intro b f c r;exact eB):jG 1 1 f n b3 (bO s ()):=
 fg c a8Z h a9a a9b a9b λb a c=>by rw[<-a5y]at c;exact(o b a c c.sub).mpr (k b a c c.sub)
def mW {c:List UInt8} (d:fG t e4 B n) (h:fG e4 f c b3) (k: ∀b a,fG t a (B++c) b->t.sub a->a7 b a) (o:B.length+c.length<=100000000000:=by(try simp only[a4y,a4C,a4G,a4I, *])<;>omega)
  (p: ∀b a,fG t a (B++c) b->t.sub a->s b a=a7 b a:=by intro b f d r;exact eB):jG 1 1 f n b3 (bO s ()):=Cn (d.mono h.sub) h.lY k o p
def tU (b:List UInt8) (o: ∀c a,fG f a b c->f.sub a->a7 c a) (z:g=b.map al:=by first|rfl|simp) (p:g.length<=1000000000000:=by(try simp only[a4y,a4C,a4G,a4I, *])<;>omega)
  (r: ∀c a,fG f a b c->f.sub a->s c a=a7 c a:=by intro c f d E;exact eB):nW 1 f g (bO s ()):=by
 have h:=λc a d=>(r c a d d.sub).mpr (o c a d d.sub);subst z;rw[a4I]at p;by_cases k:b= []
 .subst k;rw[a6k,nX];exact h _ _ (au.zero U.a1)
 .refine eP (by intro F C;obtain⟨_,_,rfl⟩:=a4R.1 C;rfl) (by simpa using k) λD x=>h _ _ ?_;have y:flat (b.map al)=b.map al:=by
   clear h o r k p
   induction b with
   |nil=>rfl
   |cons G b ih=>simp only[a4U,flat,a4Y]at ih|-;rw[ih];rfl
  refine⟨U.af U.a1 x,.inr ⟨D,b.length,b.length,_,a9a,x,U.ah _ _ _,?_,?_,a9a,a8Z,by simp only[maxLen];omega⟩⟩
  .rw[y];simp
  .rw[y,a4x a9a]
def hN {d:R->U->Prop} (c:AC K.p b5 g f s) (h: ∀a b,s a b->d a b) (k: ∀a b,s a b->a7 a b=d a b:=by intro a f c;exact eB):nT K b5 g f (bO a7 ()):=ai c λa b c=>(k a b c).mpr (h a b c)
end
section
def x1 {c:Nat->Prop}{x y:bq} (z: ∀a,f a=none->a≠e->e≠a->a≠i->i≠a->a≠v->v≠a->c a) (C: ∀a,f a=none->a≠e->e≠a->a≠i->i≠a->a≠v->v≠a->j5 a=c a:=by intros;exact eB):iW (((f.set e Y).set i x).set v y) (bZ j5 ()):=λa b=>by
 obtain⟨b,d,h⟩:=U.set_nil b;obtain⟨b,k,o⟩:=U.set_nil b;obtain⟨b,p,r⟩:=U.set_nil b;exact(C a b p r k o d h).mpr (z a b p r k o d h)
def X4 {c:Nat->Prop}{z C D:bq} (E: ∀a,f a=none->a≠e->e≠a->a≠i->i≠a->a≠v->v≠a->a≠O->O≠a->c a) (F: ∀a,f a=none->a≠e->e≠a->a≠i->i≠a->a≠v->v≠a->a≠O->O≠a->j5 a=c a:=by intros;exact eB):iW ((((f.set e Y).set i z).set v C).set O D) (bZ j5 ()):=λa b=>by
 obtain⟨b,d,h⟩:=U.set_nil b;obtain⟨b,k,o⟩:=U.set_nil b;obtain⟨b,p,r⟩:=U.set_nil b;obtain⟨b,x,y⟩:=U.set_nil b;exact(F a b x y p r k o d h).mpr (E a b x y p r k o d h)
def jI {v:R} (c: ∀a,f a=none->j5 a) (d:aS e (v::g):=by simp[aS,R.cells, *]) (h: ∀a,f a=none->s (.J (v::g) (.buf a (v::g).length)) (f.set a (.buf e (v::g).length (v::g).length))=j5 a:=by intros;exact eB):jE e f (v::g) (bO s ()):=by refine⟨d,?_⟩;rw[if_neg a9a];intro a b;exact(h a b).mpr (c a b)
def X5 {v:R} (h: ∀a,f a=none->a≠e->e≠a->j5 a) (k:aS i (v::g):=by simp[aS,R.cells, *]) (o: ∀a,f a=none->a≠e->e≠a->s (.J (v::g) (.buf a (v::g).length)) ((f.set e Y).set a (.buf i (v::g).length (v::g).length))=j5 a:=by intros;exact eB):jE i (f.set e Y) (v::g) (bO s ()):=by refine⟨k,?_⟩;rw[if_neg a9a];intro a b;obtain⟨b,c,d⟩:=U.set_nil b;exact(o a b c d).mpr (h a b c d)
def tV {v:R}{c:bq} (p: ∀a,f a=none->a≠e->e≠a->a≠i->i≠a->j5 a) (r:aS O (v::g):=by simp[aS,R.cells, *]) (x: ∀a,f a=none->a≠e->e≠a->a≠i->i≠a->s (.J (v::g) (.buf a (v::g).length)) (((f.set e Y).set i c).set a (.buf O (v::g).length (v::g).length))=j5 a:=by intros;exact eB):jE O ((f.set e Y).set i c) (v::g) (bO s ()):=by refine⟨r,?_⟩;rw[if_neg a9a];intro a b;obtain⟨b,d,h⟩:=U.set_nil b;obtain⟨b,k,o⟩:=U.set_nil b;exact(x a b k o d h).mpr (p a b k o d h)
def X6 {c:Nat}{v:R}{d h k o:bq} (L: ∀a,f a=none->a≠e->e≠a->a≠i->i≠a->a≠O->O≠a->a≠b8->b8≠a->a≠j0->j0≠a->j5 a) (P:aS c (v::g):=by simp[aS,R.cells, *]) (S: ∀a,f a=none->a≠e->e≠a->a≠i->i≠a->a≠O->O≠a->a≠b8->b8≠a->a≠j0->j0≠a->s (.J (v::g) (.buf a (v::g).length)) ((((((f.set e Y).set i d).set O h).set b8 k).set j0 o).set a (.buf c (v::g).length (v::g).length))=j5 a:=by intros;exact eB):jE c (((((f.set e Y).set i d).set O h).set b8 k).set j0 o) (v::g) (bO s ()):=by refine⟨P,?_⟩;rw[if_neg a9a];intro a b;obtain⟨b,p,r⟩:=U.set_nil b;obtain⟨b,x,y⟩:=U.set_nil b;obtain⟨b,z,C⟩:=U.set_nil b;obtain⟨b,D,E⟩:=U.set_nil b;obtain⟨b,F,G⟩:=U.set_nil b;exact(S a b F G D E z C x y p r).mpr (L a b F G D E z C x y p r)
def X7 {d:Nat}{v:R}{c:Nat}{h k o p r:bq} (V: ∀a,f a=none->a≠e->e≠a->a≠i->i≠a->a≠O->O≠a->a≠b8->b8≠a->a≠j0->j0≠a->a≠c->c≠a->j5 a) (W:aS d (v::g):=by simp[aS,R.cells, *]) (j: ∀a,f a=none->a≠e->e≠a->a≠i->i≠a->a≠O->O≠a->a≠b8->b8≠a->a≠j0->j0≠a->a≠c->c≠a->s (.J (v::g) (.buf a (v::g).length)) (((((((f.set e Y).set i h).set O k).set b8 o).set j0 p).set c r).set a (.buf d (v::g).length (v::g).length))=j5 a:=by intros;exact eB):jE d ((((((f.set e Y).set i h).set O k).set b8 o).set j0 p).set c r) (v::g) (bO s ()):=by refine⟨W,?_⟩;rw[if_neg a9a];intro a b;obtain⟨b,x,y⟩:=U.set_nil b;obtain⟨b,z,C⟩:=U.set_nil b;obtain⟨b,D,E⟩:=U.set_nil b;obtain⟨b,F,G⟩:=U.set_nil b;obtain⟨b,L,P⟩:=U.set_nil b;obtain⟨b,S,T⟩:=U.set_nil b;exact(j a b S T L P F G D E z C x y).mpr (V a b S T L P F G D E z C x y)
def lZ (a:AC K.p b5 (g++e0++A) f λb c=>c=f/\b=n) (d:N) (h:gf K.p b5=true:=by kernel_rfl) (k:s n f=N:=by exact eB):wO K (.bG b5 g A) e0 f (bO s ()):=
 fF h a λ_ _ a=>by rw[a.1,a.2];exact k.mpr d
end
section
theorem x2 {r:dH}{h:Fr}{k:List Nat}{x:b0->List (Nat×R)}{y:b0->U->Prop} (z: ∀c∈wr h6,c∈k) (D:ho k h j) (o:List Nat) (V:o.all (λc=> !k.contains c)=true)
  (E:bS K h6 (eO (λa b=> ∃C,y C b/\gI a (x C)) e8) j f) (F: ∀d b,y d b-> ∀a,bS K r e8 (gV (gV a (keeps h o)) (x d)) b):bS K h6 (eO (bS K r e8) e8) j f:=by
 refine iY h6 (λG a b p=> ?_) j f (nZ h6 z j f D E);cases G with
 |norm=>
  obtain⟨⟨d,L,P⟩,S⟩:=p;have T:gI a (keeps h o):=wZ λc W=>S c λz=>by
   simp_all
  have:=F d b L a;rw[s5 T,s5 P]at this;exact this
 |exit e=>exact p.1
 |ret=>exact p.1
def p4 {h:dH} (b:List Nat) (k:b0->List (Nat×R)) (o:b0->U->Prop)
  (x:bS K h6 (eO (λc a=> ∃p,o p a/\gI c (k p)) e8) j f) (d: ∀r a,o r a-> ∀c,bS K h e8 (gV (gV c (keeps j b)) (k r)) a) (y:b.all (λz=> !(wr h6).contains z)=true:=by kernel_rfl):bS K (.seq h6 h) e8 j f:=
 x2 (k:=wr h6) (λ_ d=>d) (λ_ _=>rfl) b y x d
def o3 {h k:dH}{z:cy (bS K h (eO (bS K h6 e8) e8) j f)}{C:cy (bS K k (eO (bS K h6 e8) e8) j f)} (o:List Nat) (p:b0->List (Nat×R)) (r:b0->U->Prop)
  (D:I=true->bS K h (eO (λc a=> ∃d,r d a/\gI c (p d)) e8) j f) (E:I=false->bS K k (eO (λc a=> ∃d,r d a/\gI c (p d)) e8) j f) (b: ∀x a,r x a-> ∀c,bS K h6 e8 (gV (gV c (keeps j o)) (p x)) a) (y:o.all (λI=> !(wr h++wr k).contains I)=true:=by kernel_rfl):
  ko (.v (.bool I)) (cu (bS K h (eO (bS K h6 e8) e8) j f) z) (cu (bS K k (eO (bS K h6 e8) e8) j f) C):=
 ⟨λh6=>x2 (λ_ b=>a6I _ b) (λ_ _=>rfl) o y (D h6) b,λh6=>x2 (λ_ b=>a6D _ b) (λ_ _=>rfl) o y (E h6) b⟩
end
def Co (a:N=b4:=by first|(simp -dsimp -implicitDefEqProofs (disch:=first|omega|assumption|exact U.tO a9c a9c|(simp only[bk,Nat.reduceAdd];try omega)) only[WW,nX,go_sem,simprocAttr,-List.reduceReplicate,↓eI,tP,tN, *]<;>rfl)|rfl):N=b4:=a
def p5 (a:e<=i:=by first|omega|((try simp only[a4y,a4C,a4G,a4I,a4z,a4N, *])<;>omega)):e<=i:=a
def rd (a:f.sub t) (b:f e=some (.cells g)):t.read e=some g:=U.ae (a _ _ b)
theorem Cp {v:R} (b:aS e g) (h:v.cells.length=e):aS e (g++ [v]):=λc d=>by
 rcases a4M.1 d with a|a
 .exact b c a
 grind
def Cq:aS e []:=λ_ a=>by cases a
theorem bg.o4 (r:bg t f e g M): ∃d:U,bg d f e g M/\d.sub f/\t.sub d/\ ∀a,(∀b o,M= .buf b o->b≠a)->d a=f a:=by
 obtain⟨k,h⟩:=r;cases M with
 |buf b o=>
  have p:(f.del b).sub f:=λa M c=>by
   grind[U.il,U.eG]
  refine⟨f.del b,⟨p,U.il _ _,h.2⟩,p,λa M c=> ?_,λa c=>U.eG _ (a4F (c _ _ rfl))⟩;have x:a≠b:=by rintro rfl;rw[h.1]at c;cases c
  rw[U.eG _ x];exact k _ _ c
 |any=>trivial
 |nil=>exact⟨f,⟨U.a1,h⟩,U.a1,k,λ_ _=>rfl⟩
 |zero=>exact⟨f,⟨U.a1,h⟩,U.a1,k,λ_ _=>rfl⟩
def qs {k:cy s} (d:bg t f e g M) (o:aS e g) (p:aS e A) (r:(g.length+A.length)*i<=140737488355328) (x:g.length+A.length<=9223372036854775807)
  (y: ∀b a,bg t a e (g++A) b->ir f a->s (.J (g++A) b) a):lV e i f (.J g M) (.J A e6) (bO s k):=by
 obtain⟨G,z,L,C,D⟩:=d.o4;refine dY z o p r x λb a h=>y b a (h.base C) λE P c=>h.sub _ _ ?_;rw[D E (λS T F=>by subst F;rintro rfl;rw[d.2.2]at c;cases c)];exact c
section
def hP {v:R}{k:Nat->R->U->Prop}{o:Nat->Own->U->Prop} (p:bg t f e g M) (y:aS e g) (z: ∀a c b,bg t b e (g++ [v]) c->ir f b->o a c b)
  (C:N=jE e f [v] (bO s ()):=by exact hM)
  (D: ∀a,f a=none->s (.J [v] (.buf a 1)) (f.set a (.buf e 1 1))=lV e i (f.set a (.buf e 1 1)) (.J g M) (.J [v] (.buf a 1)) (bO (k a) ()):=by intro a d;exact eB)
  (E: ∀a c b,bg t b e (g++ [v]) c->k a (.J (g++ [v]) c) b=o a c b:=by intro a c b p;exact hM)
  (r:v.cells.length=e:=by first|rfl|assumption|simp[R.cells, *]) (P:g.length<=1000000000:=by exact p5) (F:i<=10000:=by decide):N:=by
 rw[C];refine⟨λG h=>by rw[a4Q.1 h];exact r,?_⟩;rw[if_neg a9a];intro a d;refine(D a d).mpr (qs (p.mono (U.af U.a1 d)) y (λG h=>by rw[a4Q.1 h];exact r) ?_ ?_ λc b x L=>(E a c b x).mpr (z a c b x ((U.o1 (U.af U.a1 d)).trans L)))
 .exact a5u (a7V (show g.length+1<=1000000001 by omega) F) a9d
 .simp;omega
def X8:aS 1 (B.map al):=λb a=>by obtain⟨_,_,rfl⟩:=a4R.1 a;rfl
def X9 {d:UInt8}{k:Nat->R->U->Prop}{o:Nat->Own->U->Prop} (p:bg t f 1 (B.map al) M) (x: ∀a c b,bg t b 1 ((B++ [d]).map al) c->ir f b->o a c b)
  (y:N=jE 1 f [al d] (bO s ()):=by exact hM)
  (z: ∀a,f a=none->s (.J [al d] (.buf a 1)) (f.set a (.buf 1 1 1))=lV 1 e (f.set a (.buf 1 1 1)) (.J (B.map al) M) (.J [al d] (.buf a 1)) (bO (k a) ()):=by intro a G;exact eB)
  (C: ∀a c b,bg t b 1 ((B++ [d]).map al) c->k a (.J ((B++ [d]).map al) c) b=o a c b:=by intro a c b p;exact hM)
  (D:B.length<=1000000000:=by exact p5) (E:e<=10000:=by decide):N:=by
 have r:B.map al++ [al d]=(B++ [d]).map al:=by rw[a5y];rfl
 refine hP p X8 (λa c b h F=>x a c b (r▸h) F) y z (λa c b h=> ?_) rfl (by rw[a4I];exact D) E;rw[r]at h|-;exact C a c b h
def kr {c:Own->U->Prop} (d:bg t f e g M) (k:aS e g) (o:aS e A) (p: ∀b a,bg t a e (g++A) b->ir f a->c b a)
  (r:N=lV e i f (.J g M) (.J A e6) (bO s ()):=by exact hM) (x: ∀b a,bg t a e (g++A) b->s (.J (g++A) b) a=c b a:=by intro b a d;exact hM)
  (y:g.length+A.length<=1000000000:=by exact p5) (z:i<=10000:=by decide):N:=by
 rw[r];refine qs d k o (a5u (a7V y z) a9d) a8Z λb a h C=>(x b a h).mpr (p b a h C)
def s8 {c:Own->U->Prop} (h:aS e g) (k: ∀a b,bg f b e g a->c a b)
  (o:N=lV e i f (.J [] M) (.J g e6) (bO s ()):=by exact Co) (p:M= .nil\/M= .zero:=by first|exact .inl rfl|exact .inr rfl) (r: ∀a b,bg f b e g a->s (.J g a) b=c a b:=by intro a b d;exact hM)
  (x:g.length<=1000000000:=by exact p5) (y:i<=10000:=by decide):N:=
 kr (t:=f) (c:=c) (by rcases p with rfl|rfl;exact bg.nil U.a1;exact bg.zero U.a1) Cq h (λa b d _=>k a b d) o r (by simpa using x) y
def qt (c:au t f e A n) (k:bN f e b3=some (v,g)) (o: ∀a b,au t b e (A++g) a->a7 a b)
  (p:N=jG e i f n b3 (bO s ()):=by exact hM) (r: ∀a b,au t b e (A++g) a->s a b=a7 a b:=by intro a b c;exact hM)
  (d:0<e:=by decide) (x:g.length=v*e:=by first|rfl|omega|simp) (y:A.length+g.length<=1000000000:=by exact p5) (z:i<=10000:=by decide):N:=by
 rw[p];refine fg c d k x (a5u (a7V y z) (a5u a9d (a8p _ d))) a8Z λa b h=>(r a b h).mpr (o a b h)
def tW (c:bN f e n=some (v,g)) (d: ∀a b,au f b e g a->a7 a b)
  (h:N=jG e i f (.J [] M) n (bO s ()):=by exact Co) (k:M= .nil\/M= .zero:=by first|exact .inl rfl|exact .inr rfl) (o: ∀a b,au f b e g a->s a b=a7 a b:=by intro a b z;exact hM)
  (p:0<e:=by decide) (r:g.length=v*e:=by first|rfl|omega|simp) (x:g.length<=1000000000:=by exact p5) (y:i<=10000:=by decide):N:=
 qt (A:= []) (t:=f) (by rcases k with rfl|rfl;exact au.nil U.a1;exact au.zero U.a1) c d h o p r (by simpa using x) y
def Xa {v:R}{h k:Nat->R->U->Prop} (o:au t f 1 g n) (r: ∀a b c,au t c 1 (g++ [v]) b->h a b c) (x:N=nW 1 f [v] (bO s ()):=by exact hM)
  (y: ∀a,f a=none->s (.an a 1 1 1) (f.set a (.cells [v]))=jG 1 e (f.set a (.cells [v])) n (.an a 1 1 1) (bO (k a) ()):=by intro a d;exact eB)
  (z: ∀a b c,au t c 1 (g++ [v]) b->k a b c=h a b c:=by intro a b c o;exact hM) (p:v.cells= [v]:=by first|rfl|assumption) (C:g.length+1<=1000000000:=by exact p5) (D:e<=10000:=by decide):N:=by
 have E:flat [v]= [v]:=by simp[flat,p]
 rw[x];refine eP (λG F=>by rw[a4Q.1 F,p];rfl) a9a λa d=> ?_;rw[E];refine(y a d).mpr (qt (o.mono (U.af U.a1 d)) ?_ (r a) rfl (z a) a9d rfl C D);simp[bN,U.read,U.set]
end
end Go.bx
set_option maxRecDepth 100000
namespace Go.Proofs.YtlgnfcaolejgeaaGreat
open Go Go.bx
def rotl (a:UInt32) (b:Nat):UInt32:=a<<<UInt32.ofNat b|||a>>>UInt32.ofNat (32 - b)
def Xb (a:Nat) (b:0<a/\a<32):bn .and (.int .u64 (IntKind.u64.wrap (-((32 - a:Nat):Int)))) (.int .u64 31)=some (.int .u64 a):=by have c: ∀a:Fin 32,0<a.val->IntKind.u64.wrap (BitVec.ofInt IntKind.u64.bits (IntKind.u64.wrap (-((32 - a.val:Nat))))&&&BitVec.ofInt IntKind.u64.bits 31).toNat=(a.val):=a9d;have:=c ⟨a,b.2⟩ b.1;simp only[bn,fq,hF,this];rfl
theorem Xc (c:UInt32) (a:Nat) (d:0<a/\a<32) (b:U):AC Tryz.prog 323 [.v (.int .u32 c.toNat),.v (.int .i64 (-((32 - a:Nat):Int)))] b λh k=>k=b/\h= .v (.int .u32 (rotl c a).toNat):=by refine bd hm RV a9a ?_;refine aE (Xb a d) ?_;refine⟨b,U.a1,rfl,?_⟩;grind[rotl]
def ma (b:UInt32) (d:Int) (a:Nat) (h:0<a/\a<32) (k:d= -((32 - a:Nat):Int)) (c:U):AC Tryz.prog 323 [.v (.int .u32 b.toNat),.v (.int .i64 d)] c λo p=>p=c/\o= .v (.int .u32 (rotl b a).toNat):=by subst k;exact Xc b a h c
def word (a:List UInt8) (b:Nat):UInt32:=(a.getD (4*b) 0).toUInt32<<<24|||(a.getD (4*b+1) 0).toUInt32<<<16|||(a.getD (4*b+2) 0).toUInt32<<<8|||(a.getD (4*b+3) 0).toUInt32
def Xd (a:UInt32):UInt32:=rotl a 25^^^rotl a 14^^^a>>>3
def Xe (a:UInt32):UInt32:=rotl a 15^^^rotl a 13^^^a>>>10
def more (a:List UInt32):List UInt32:=a++ [a.getD (a.length - 16) 0+Xd (a.getD (a.length - 15) 0)+a.getD (a.length - 7) 0+Xe (a.getD (a.length - 2) 0)]
def first (a:List UInt8) (b:Nat):List UInt32:=(List.range b).map (word a)
def grow:Nat->List UInt32->List UInt32
 |0,a=>a
 |b+1,a=>grow b (more a)
def sched (a:List UInt8):List UInt32:=grow 48 (first a 16)
def ef (a:List UInt32):List R:=a.map (λb=> .v (.int .u32 b.toNat))++List.replicate (64 - a.length) (.v (.int .u32 0))
def Xf:ef []=List.replicate 64 (.v (.int .u32 0)):=by rfl
variable{h5:List UInt32}
def s9 (a:h5.length<=64):(ef h5).length=64:=by simp[ef];omega
variable{e i v O b8 j0:Nat}
theorem x3 (a:UInt32) (b:e=h5.length) (d:h5.length<64):putAt (ef h5) e [.v (.int .u32 a.toNat)]=ef (h5++ [a]):=by subst b;have c:64 - h5.length=(64 -(h5.length+1))+1:=a8Z;simp only[putAt,ef,c,a6K];grind
theorem la (a:e<h5.length):aX false 1 ((ef h5).drop e)= .v (.int .u32 (h5.getD e 0).toNat):=by grind[aX,ef,List.map_drop,List.drop_eq_getElem_cons,List.getD]
theorem Xg (c:List UInt8) (V:Own) (i:c.length=64) (D:U):AC Tryz.prog 321 [.J (c.map al) V] D λj r=>r=D/\j= .agg ((sched c).map λP=> .v (.int .u32 P.toNat)):=by
 refine bd hm RR a9a ?_;refine eA ?_;refine aM λF l=> ?_;refine eA ?_;refine aM λG S=> ?_;obtain⟨s,S⟩:=U.gH S;refine eA ?_;refine cr (λb r=> ∃a:Nat,a<=16/\b 0= .J (c.map al) V/\b 2= .ptr F 0/\b 3= .ptr G 0/\b 10= .v (.int .i64 a)/\r=(D.set F (.cells (List.replicate 64 (.v (.int .u32 0))))).set G (.cells (ef (first c a))))
  (λb _=>match b 10 with| .v (.int _ T)=>(16 - T).toNat| _=>0) ⟨0,a8Z,?_⟩ ?_
 .simp -dsimp -implicitDefEqProofs (disch:=first|omega|assumption|(simp only[bk,Nat.reduceAdd];try omega)) only[go_sem,↓reduceIte,Nat.reduceEqDiff,Nat.reduceAdd,Nat.reduceSub,Nat.reduceMul,Nat.reduceLeDiff,Nat.reduceLT,Int.reduceNeg,Int.reduceToNat,Int.reduceAdd,Int.reduceSub,Int.reduceMul,Int.reduceLT,Int.reduceLE,Int.reduceEq,Int.reduceNe,first,List.range_zero,Xf]
  all_goals (simp)
 .rintro b r ⟨a,m,W,d,h,e,rfl⟩;have f:(first c a).length=a:=by simp[first]
  by_cases k:(a:Int)<16
  .have o:(ef (first c a)).length=64:=s9 a8Z;have n:(4*(a:Int)).toNat=4*a:=a8Z;have x:(4*(a:Int)+1).toNat=4*a+1:=a8Z;have y:(4*(a:Int)+2).toNat=4*a+2:=a8Z;have z:(4*(a:Int)+3).toNat=4*a+3:=a8Z;have t:(a:Int).toNat+1<=64:=a8Z;refine aE (gj @W @d @h @e @k @o @i @n @x @y @z) ?_;rw[x3 _ f.symm a8Z];refine⟨⟨a+1,a8Z,a9a,?_⟩,a8Z⟩;simp only[first,a8u,a5y,a4U,a6k];rfl
  .obtain rfl:a=16:=a8Z;refine aE (bm @W @d @h @e @k) ?_;refine cr (λb r=> ∃(p:List UInt32) (a:Nat),a<=48/\p.length=16+a/\grow (48 - a) p=sched c/\b 2= .ptr F 0/\b 3= .ptr G 0/\b 5= .v (.int .i64 ((16+a:Nat)))/\r=(D.set F (.cells (List.replicate 64 (.v (.int .u32 0))))).set G (.cells (ef p)))
    (λb _=>match b 5 with| .v (.int _ T)=>(64 - T).toNat| _=>0) ⟨first c 16,0,a8Z,f,rfl,?_⟩ ?_
   .simp -dsimp -implicitDefEqProofs (disch:=first|omega|assumption|(simp only[bk,Nat.reduceAdd];try omega)) only[go_sem,↓reduceIte,Nat.reduceEqDiff,Nat.reduceAdd,Nat.reduceSub,Nat.reduceMul,Nat.reduceLeDiff,Nat.reduceLT,Int.reduceNeg,Int.reduceToNat,Int.reduceAdd,Int.reduceSub,Int.reduceMul,Int.reduceLT,Int.reduceLE,Int.reduceEq,Int.reduceNe,d,h,grow];rfl
   .rintro b r ⟨p,a,m,L,g,d,h,C,rfl⟩;by_cases k:((16+a:Nat):Int)<64
    .have o:(ef p).length=64:=s9 a8Z;have x:(((16+a:Nat):Int) - 15).toNat=a+1:=a8Z;have y:(((16+a:Nat):Int) - 2).toNat=a+14:=a8Z;have z:(((16+a:Nat):Int) - 16).toNat=a:=a8Z;have E:(((16+a:Nat):Int) - 7).toNat=a+9:=a8Z;refine aE (cf @d @h @C @k @x @y @z @E @o @la) ?_;refine ai (ma _ _ 25 a9d a9d _) ?_;rintro _ _ ⟨rfl,rfl⟩;refine aE (cf @d @h @C @k @x @y @z @E @o @la) ?_;refine ai (ma _ _ 14 a9d a9d _) ?_;rintro _ _ ⟨rfl,rfl⟩;refine aE (cf @d @h @C @k @x @y @z @E @o @la) ?_;refine ai (ma _ _ 15 a9d a9d _) ?_;rintro _ _ ⟨rfl,rfl⟩;refine aE (cf @d @h @C @k @x @y @z @E @o @la) ?_;refine ai (ma _ _ 13 a9d a9d _) ?_;rintro _ _ ⟨rfl,rfl⟩;refine aE (cf @d @h @C @k @x @y @z @E @o @la) ?_;rw[x3 _ L.symm a8Z];refine⟨⟨_,a+1,a8Z,by simp[L];omega,?_,?_,rfl⟩,a8Z⟩
     .rw[<-g,show 48 - a=(48 -(a+1))+1 by omega,grow,more,L];rw[show 16+a - 16=a by omega,show 16+a - 15=a+1 by omega,show 16+a - 7=a+9 by omega,show 16+a - 2=a+14 by omega];rfl
     .simp;omega
    .obtain rfl:a=48:=a8Z;have o:(ef p).length=64:=s9 a8Z;have q:(ef p).take 64=p.map λP=> .v (.int .u32 P.toNat):=by grind[ef,List.take_of_length_le]
     have u:p=sched c:=g;refine aE (c6 @d @h @C @k @o @q @L) ?_;exact⟨D,U.af (U.af U.a1 l) S,rfl,by grind⟩
def wl (a:List UInt32):List R:=a.map λb=> .v (.int .u32 b.toNat)
theorem eJ:(wl h5).length=h5.length:=by simp[wl]
theorem hq (a:e<h5.length):aX false 1 ((wl h5).drop e)= .v (.int .u32 (h5.getD e 0).toNat):=by simp only[aX,wl];simp_all
def p6 (a:0<h5.length):aX false 1 (wl h5)= .v (.int .u32 (h5.getD 0 0).toNat):=hq (e:=0) a
def Cr (a:UInt32) (b:e<h5.length):putAt (wl h5) e [.v (.int .u32 a.toNat)]=wl (h5.set e a):=by simp only[putAt,wl,a4C,a4G,<-a7Z,<-a7p];rw[a5N,if_pos b];simp
def mX:List UInt32:= [
 0x428a2f98,0x71374491,0xb5c0fbcf,0xe9b5dba5,0x3956c25b,0x59f111f1,0x923f82a4,0xab1c5ed5,
 0xd807aa98,0x12835b01,0x243185be,0x550c7dc3,0x72be5d74,0x80deb1fe,0x9bdc06a7,0xc19bf174,
 0xe49b69c1,0xefbe4786,0x0fc19dc6,0x240ca1cc,0x2de92c6f,0x4a7484aa,0x5cb0a9dc,0x76f988da,
 0x983e5152,0xa831c66d,0xb00327c8,0xbf597fc7,0xc6e00bf3,0xd5a79147,0x06ca6351,0x14292967,
 0x27b70a85,0x2e1b2138,0x4d2c6dfc,0x53380d13,0x650a7354,0x766a0abb,0x81c2c92e,0x92722c85,
 0xa2bfe8a1,0xa81a664b,0xc24b8b70,0xc76c51a3,0xd192e819,0xd6990624,0xf40e3585,0x106aa070,
 0x19a4c116,0x1e376c08,0x2748774c,0x34b0bcb5,0x391c0cb3,0x4ed8aa4a,0x5b9cca4f,0x682e6ff3,
 0x748f82ee,0x78a5636f,0x84c87814,0x8cc70208,0x90befffa,0xa4506ceb,0xbef9a3f7,0xc67178f2]
def gl:List UInt32:= [0x6a09e667,0xbb67ae85,0x3c6ef372,0xa54ff53a,0x510e527f,0x9b05688c,0x1f83d9ab,0x5be0cd19]
def x4 (a:U):AC Tryz.prog 270 [] a λb c=>c=a/\b= .agg (wl gl):=by refine bd hm QO a9a ?_;refine eA ?_;refine aM λh d=> ?_;simp -dsimp -implicitDefEqProofs (disch:=first|omega|assumption|(simp only[bk,Nat.reduceAdd];try omega)) only[go_sem,simprocAttr,putAt,List.take,List.drop,List.replicate,a5K,a4P];exact⟨a,U.af U.a1 d,rfl,rfl⟩
def Xh (a:U):AC Tryz.prog 322 [] a λb c=>c=a/\b= .agg (wl mX):=by refine bd hm RT a9a ?_;refine eA ?_;refine aM λh d=> ?_;simp -dsimp -implicitDefEqProofs (disch:=first|omega|assumption|(simp only[bk,Nat.reduceAdd];try omega)) only[go_sem,simprocAttr,putAt,List.take,List.drop,List.replicate,a5K,a4P];exact⟨a,U.af U.a1 d,rfl,rfl⟩
def sa (p r:UInt32):List UInt32->List UInt32
 | [a,c,d,x,b,h,k,y]=>
  let o:=y+(rotl b 26^^^rotl b 21^^^rotl b 7)+(b&&&h^^^ ~~~b&&&k)+p+r
  let z:=(rotl a 30^^^rotl a 19^^^rotl a 10)+(a&&&c^^^a&&&d^^^c&&&d)
  [o+z,a,c,d,x+o,b,h,k]
 |C=>C
def iv:List UInt32->List UInt32->List UInt32->List UInt32
 |a::bI,b::ws,v=>iv bI ws (sa a b v)
 | _,_,v=>v
def comp (a:List UInt32) (b:List UInt8):List UInt32:=List.zipWith (·+ ·) (iv mX (sched b) a) a
def jJ (a:Nat) (v b:List UInt32):List UInt32:=List.zipWith (·+ ·) (v.take a) (b.take a)++v.drop a
def Cs: ∀(a:Nat) (b:List UInt32),(grow a b).length=b.length+a
 |0,b=>rfl
 |a+1,b=>by rw[grow,Cs a,more];simp;omega
def Xi (a:List UInt8):(sched a).length=64:=by simp[sched,Cs,first]
def Xj (a:List UInt8) (c:Own) (d:a.length=64) (b:U):AC Tryz.prog 321 [.J (a.map al) c] b λh k=>k=b/\h= .agg (wl (sched a)):=Xg a c d b
def Ct (v b:List UInt32) (c:v.length=8) (d:b.length=8) (a:Nat) (h:a<8):
  (jJ a v b).length=8/\(jJ a v b).set a ((jJ a v b).getD a 0+b.getD a 0)=jJ (a+1) v b:=by
 match v,c,b,d with
 | [k,o,p,r,x,y,z,C],_,[D,E,F,G,L,P,S,T],_=>rcases(by omega:a=0\/a=1\/a=2\/a=3\/a=4\/a=5\/a=6\/a=7)with rfl|rfl|rfl|rfl|rfl|rfl|rfl|rfl<;>exact⟨rfl,rfl⟩
def Xk (a b:UInt32) (v:List UInt32) (c:v.length=8):(sa a b v).length=8:=by
 match v,c with
 | [d,h,k,o,p,r,x,a],_=>rfl
def Cu: ∀(a b v:List UInt32),v.length=8->(iv a b v).length=8
 | [],_,v,c=>by trivial
 | _:: _,[],v,c=>by trivial
 |d::a,h::b,v,c=>by rw[iv];exact Cu a b _ (Xk d h v c)
theorem Cv (b c v:List UInt32) (a:Nat) (d:a<b.length) (h:a<c.length):iv (b.drop a) (c.drop a) v=iv (b.drop (a+1)) (c.drop (a+1)) (sa (b.getD a 0) (c.getD a 0) v):=by grind[List.drop_eq_getElem_cons,iv,List.getD]
theorem Xl (c x y:List UInt32) (I:List UInt8) (K:Own) (t:c.length=8) (N:x.length=64) (O:y.length=64)
  (Q: ∀o,AC Tryz.prog 322 [] o λT p=>p=o/\T= .agg (wl x))
  (X: ∀o,AC Tryz.prog 321 [.J (I.map al) K] o λT p=>p=o/\T= .agg (wl y)) (o:U):
  AC Tryz.prog 271 [.agg (wl c),.J (I.map al) K] o λT p=>p=o/\T= .agg (wl (List.zipWith (·+ ·) (iv x y c) c)):=by
 refine bd hm QQ a9a ?_;have z:(wl c).length=8:=by rw[eJ,t]
 have C:(wl x).length=64:=by rw[eJ,N]
 have D:(wl y).length=64:=by rw[eJ,O]
 refine aE @z ?_;refine aM λW Y=> ?_;refine aE @z ?_;refine aM λe u=> ?_;obtain⟨k6,u⟩:=U.gH u;refine aE @z ?_;refine ai (X _) ?_;rintro _ _ ⟨rfl,rfl⟩;refine aE @z ?_;refine ai (Q _) ?_;rintro _ _ ⟨rfl,rfl⟩;refine aE @z ?_;refine aM λw V=> ?_;obtain⟨k7,V⟩:=U.gH V;obtain⟨k8,V⟩:=U.gH V;refine aE @z ?_;refine aM λA S=> ?_;obtain⟨k9,S⟩:=U.gH S;obtain⟨l0,S⟩:=U.gH S;obtain⟨l1,S⟩:=U.gH S;refine aE @z ?_;refine aM λf E=> ?_;obtain⟨l2,E⟩:=U.gH E;obtain⟨l3,E⟩:=U.gH E;obtain⟨l4,E⟩:=U.gH E;obtain⟨l5,E⟩:=U.gH E;refine aE (aI @z @C @D @a4x.{0}) ?_;refine cr (λb p=> ∃(a:Nat) (v:List UInt32),a<=64/\v.length=8/\iv (x.drop a) (y.drop a) v=iv x y c/\b 2= .ptr W 0/\b 4= .ptr e 0/\b 5= .ptr w 0/\b 6= .ptr A 0/\b 7= .ptr f 0/\b 18= .v (.int .i64 a)/\
   p=(((((o.set W (.cells (wl c))).set e (.cells (List.replicate 8 (.v (.int .u32 0))))).set w (.cells (wl y))).set A (.cells (wl x))).set f (.cells (wl v))))
  (λb _=>match b 18 with| .v (.int _ B)=>(64 - B).toNat| _=>0) ⟨0,c,a8Z,t,rfl,?_⟩ ?_
 .exact qn
  all_goals (trivial)
 .rintro b p ⟨a,v,Z,H,j9,d,h,F,G,k,L,rfl⟩;have P:(wl v).length=8:=by rw[eJ,H]
  by_cases r:(a:Int)<64
  .obtain⟨g,i,j,l,m,n,q,s,rfl⟩: ∃g i j l m n q s,v= [g,i,j,l,m,n,q,s]:=by
    match v,H with
    | [g,i,j,l,m,n,q,s],_=>simp
   refine aE (fu @d @h @F @G @k @L @r @P @C @D @hq @p6 @a5f.{0} @a5h.{0}) ?_;refine ai (ma _ _ 26 a9d a9d _) ?_;rintro _ _ ⟨rfl,rfl⟩;refine aE (fu @d @h @F @G @k @L @r @P @C @D @hq @p6 @a5f.{0} @a5h.{0}) ?_;refine ai (ma _ _ 21 a9d a9d _) ?_;rintro _ _ ⟨rfl,rfl⟩;refine aE (fu @d @h @F @G @k @L @r @P @C @D @hq @p6 @a5f.{0} @a5h.{0}) ?_;refine ai (ma _ _ 7 a9d a9d _) ?_;rintro _ _ ⟨rfl,rfl⟩;refine aE (fu @d @h @F @G @k @L @r @P @C @D @hq @p6 @a5f.{0} @a5h.{0}) ?_;refine ai (ma _ _ 30 a9d a9d _) ?_;rintro _ _ ⟨rfl,rfl⟩;refine aE (fu @d @h @F @G @k @L @r @P @C @D @hq @p6 @a5f.{0} @a5h.{0}) ?_;refine ai (ma _ _ 19 a9d a9d _) ?_;rintro _ _ ⟨rfl,rfl⟩;refine aE (fu @d @h @F @G @k @L @r @P @C @D @hq @p6 @a5f.{0} @a5h.{0}) ?_;refine ai (ma _ _ 10 a9d a9d _) ?_;rintro _ _ ⟨rfl,rfl⟩;simp -dsimp -implicitDefEqProofs (disch:=first|omega|assumption|(simp only[bk,Nat.reduceAdd];try omega)) only[go_sem,↓reduceIte,Nat.reduceEqDiff,Nat.reduceAdd,Nat.reduceSub,Nat.reduceMul,Nat.reduceLeDiff,Nat.reduceLT,Int.reduceNeg,Int.reduceToNat,Int.reduceAdd,Int.reduceSub,Int.reduceMul,Int.reduceLT,Int.reduceLE,Int.reduceEq,Int.reduceNe,d,h,F,G,k,L,r,P,C,D,hq,p6,a5f,a5h,putAt,List.take,List.drop,List.replicate,a5K,a4P];refine⟨⟨a+1,sa (x.getD a 0) (y.getD a 0) [g,i,j,l,m,n,q,s],a8Z,rfl,?_,a9a,rfl⟩,a8Z⟩;grind[Cv]
  .obtain rfl:a=64:=a8Z;have k0:iv x y c=v:=by rw[<-j9,a5S a8Z];rfl
   refine aE (cf @d @h @F @G @k @L @r @P @C @D) ?_;refine cr (λb p=> ∃a:Nat,a<=8/\b 2= .ptr W 0/\b 4= .ptr e 0/\b 7= .ptr f 0/\b 108= .v (.int .i64 a)/\
     p=(((((o.set W (.cells (wl c))).set e (.cells (List.replicate 8 (.v (.int .u32 0))))).set w (.cells (wl y))).set A (.cells (wl x))).set f (.cells (wl (jJ a v c)))))
    (λb _=>match b 108 with| .v (.int _ B)=>(8 - B).toNat| _=>0) ⟨0,a8Z,?_⟩ ?_
   .refine aE (aH @d @h @k) ?_;rfl
   .rintro b p ⟨a,Z,d,h,k,M,rfl⟩;by_cases r:(a:Int)<8
    .obtain⟨k1,k2⟩:=Ct v c H t a a8Z;have k3:(wl (jJ a v c)).length=8:=by rw[eJ,k1]
     refine aE (cf @d @h @k @M @r @z @k3 @hq @Cr @k2) ?_;grind
    .obtain rfl:a=8:=a8Z;have k4:jJ 8 v c=List.zipWith (·+ ·) v c:=by grind[jJ,List.take_of_length_le,List.drop_of_length_le]
     have k5:(wl (List.zipWith (·+ ·) v c)).length=8:=by rw[eJ];simp;omega
     rw[k4];refine aE (c6 @d @h @k @M @r @k5 @a4x.{0}) ?_;refine⟨o,?_,rfl,by rw[k0]⟩;exact U.af (U.af (U.af (U.af (U.af U.a1 Y) u) V) S) E
def Cw (b:List UInt32) (a:List UInt8) (c:Own) (h:b.length=8) (k:a.length=64) (d:U):
  AC Tryz.prog 271 [.agg (wl b),.J (a.map al) c] d λo p=>p=d/\o= .agg (wl (comp b a)):=
 Xl b mX (sched a) a c h rfl (Xi a) Xh (Xj a c k) d
def x5 (a:List UInt32) (c:List UInt8) (b:a.length=8):(comp a c).length=8:=by simp[comp,Cu _ _ _ b,b]
def bytes (a:List UInt8) (b:Own):R:= .J (a.map al) b
def cF (a:Nat):List UInt8:= [UInt8.ofNat (a>>>56),UInt8.ofNat (a>>>48),UInt8.ofNat (a>>>40),UInt8.ofNat (a>>>32),UInt8.ofNat (a>>>24),UInt8.ofNat (a>>>16),UInt8.ofNat (a>>>8),UInt8.ofNat (a>>>0)]
theorem Cx (b:Nat) (x:U):AC Tryz.prog 272 [.v (.int .u64 b)] x λC h=> ∃c,bg x h 1 ((cF b).map al) c/\C= .J ((cF b).map al) c:=by
 refine bd hm QS a9a ?_;refine eA ?_;refine cr (λd h=> ∃(a:Nat) (c:Own),a<=8/\bg x h 1 (((cF b).take a).map al) c/\d 0= .v (.int .u64 b)/\d 3= .J (((cF b).take a).map al) c/\d 4= .v (.int .i64 (56 - 8*(a))))
  (λd _=>match d 4 with| .v (.int _ b)=>(b+8).toNat| _=>0) ⟨0,.nil,a8Z,bg.UX U.a1,?_⟩ ?_
 .refine eA ?_;rfl
 .rintro d h ⟨a,c,G,y,k,o,p⟩;by_cases r:(0)<=56 - 8*(a:Int)
  .refine aE (bm @k @o @p @r @iq) ?_;refine rT U.a1 λL P D=> ?_;refine aE (aI @k @o @p @r) ?_;refine wG (y.mono D.sub) (by simp[cF];omega) λE S F=> ?_;refine aE (aI @k @o @p @r) ?_;refine⟨⟨a+1,E,a8Z,?_,?_⟩,a8Z⟩
   .have z:(cF b).take (a+1)=(cF b).take a++ [UInt8.ofNat (b>>>(56 - 8*(a:Int)).toNat)]:=by rcases(by omega:a=0\/a=1\/a=2\/a=3\/a=4\/a=5\/a=6\/a=7)with rfl|rfl|rfl|rfl|rfl|rfl|rfl|rfl<;>rfl
    rw[z];exact F
   .have z:(cF b).take (a+1)=(cF b).take a++ [UInt8.ofNat (b>>>(56 - 8*(a:Int)).toNat)]:=by rcases(by omega:a=0\/a=1\/a=2\/a=3\/a=4\/a=5\/a=6\/a=7)with rfl|rfl|rfl|rfl|rfl|rfl|rfl|rfl<;>rfl
    grind
  .obtain rfl:a=8:=a8Z;refine aE (aI @k @o @p @r) ?_;exact⟨h,U.a1,c,y,rfl⟩
def p7 (b:List (List UInt8×Own)):List R:=b.map λa=> .J (a.1.map al) a.2
def chunk (a:List UInt8):List UInt8:=cF a.length++a
def preB (a:UInt8) (b:List (List UInt8)):List UInt8:=a::b.flatMap chunk
def x6 (a:UInt8): ∀b:List (List UInt8),b.length<(preB a b).length
 | []=>by simp[preB]
 |d::c=>by
  have:=x6 a c;simp only[preB,a4C,a4Y,a4y,chunk,cF,a4G]at this|-;omega
def Xm (b:UInt8) (c:List (List UInt8×Own)) (p:Own) (S:(preB b (c.map (·.1))).length<=70368744177664) (G:U):
  AC Tryz.prog 189 [.v (.int .u8 b.toNat),.J (p7 c) p] G λT r=> ∃p,bg G r 1 ((preB b (c.map (·.1))).map al) p/\T= .J ((preB b (c.map (·.1))).map al) p:=by
 refine bd hm OO a9a ?_;refine eA ?_;refine rT U.a1 λV n W=> ?_;refine eA ?_;refine cr (λh r=> ∃(a k:List (List UInt8×Own)) (E:Own),c=a++k/\bg G r 1 ((preB b (a.map (·.1))).map al) E/\h 5= .J ((preB b (a.map (·.1))).map al) E/\h 10= .J (p7 c) p/\h 11= .v (.int .i64 c.length)/\h 12= .v (.int .i64 a.length))
  (λh _=>match h 12 with| .v (.int _ e)=>(c.length - e).toNat| _=>0) ⟨[],c,V,rfl,W,?_⟩ ?_
 .refine eA ?_;exact⟨rfl,by simp[p7]⟩
 .rintro h r ⟨a,k,E,rfl,L,x,y,z,C⟩;cases k with
  |nil=>have o: ¬(a.length:Int)<((a++ []).length):=a9a;refine aE (bm @x @y @z @C @o) ?_;simp only[a5B]at*;exact⟨r,U.a1,E,L,rfl⟩
  |cons f k=>
   obtain⟨d,D⟩:=f;have o:(a.length:Int)<((a++(d,D)::k).length):=a9b;have F:(p7 (a++(d,D)::k))[a.length]? =some (.J (d.map al) D):=by simp[p7]
   have q:(preB b (a.map (·.1))).length+8+d.length<=70368744177664:=by refine a5u ?_ S;simp[preB,chunk,cF];omega
   have g:=x6 b (a.map (·.1));rw[a4I]at g;refine aE (c6 @x @y @z @C @o @F @hJ) ?_;refine ai (Cx d.length _) ?_;rintro _ s ⟨t,i,rfl⟩;refine aE (c6 @x @y @z @C @o @F @hJ) ?_;refine mQ (L.mono i.sub) ?_ λu v j=> ?_
   .simp only[cF,a4C,a4G];omega
   refine aE (c6 @x @y @z @C @o @F @hJ) ?_;refine mQ j ?_ λl w P=> ?_
   .simp only[cF,a4y,a4C,a4G];omega
   refine aE (c6 @x @y @z @C @o @F @hJ) ?_;have m:preB b (a.map (·.1))++cF d.length++d=preB b ((a++ [(d,D)]).map (·.1)):=by simp[preB,chunk]
   rw[m]at P|-;refine⟨⟨a++ [(d,D)],k,l,a9a,P,rfl,?_⟩,?_⟩
   .simp
   omega
def blocks:Nat->List UInt32->List UInt8->List UInt32
 |0,a,_=>a
 |b+1,a,aP=>blocks b (comp a (aP.take 64)) (aP.drop 64)
def p8: ∀(b:Nat) (a:List UInt32) (aP:List UInt8),a.length=8->(blocks b a aP).length=8
 |0,_,_,c=>c
 |b+1,a,aP,c=>by rw[blocks];exact p8 b _ _ (x5 a _ c)
theorem tX: ∀(a:Nat) (b:List UInt32) (aP:List UInt8),blocks (a+1) b aP=comp (blocks a b aP) ((aP.drop (64*a)).take 64)
 |0,b,aP=>by rfl
 |a+1,b,aP=>by
  rw[blocks,tX a,blocks,a5l];grind
theorem Cy: ∀(a b:Nat) (c:List UInt32) (aP:List UInt8),blocks (a+b) c aP=blocks b (blocks a c aP) (aP.drop (64*a))
 |0,b,c,aP=>by simp[blocks]
 |a+1,b,c,aP=>by
  rw[show a+1+b=(a+b)+1 by omega,blocks,Cy a b,blocks,a5l,show 64+64*a=64*(a+1) by omega]
theorem Cz: ∀(a:Nat) (b:List UInt32) (aP c:List UInt8),64*a<=aP.length->blocks a b (aP++c)=blocks a b aP
 |0,_,_,_,_=>rfl
 |a+1,b,aP,c,d=>by
  rw[blocks,blocks,a5Y a8Z,a5Z a8Z];exact Cz a _ _ _ a9b
variable{n b3:R}
section
variable {h:List UInt32}(hh:h.length=8)
include hh
def mb:(wl h++ [n,b3]).length=10:=by simp[wl,hh]
def qu:(wl h++ [n,b3]).drop 9= [b3]:=by rw[show(9)=(wl h).length+1 by rw[eJ,hh],<-a5l,a7g];rfl
theorem qv:(wl h++ [n,b3]).drop 8= [n,b3]:=by grind[wl,eJ,List.drop_left]
theorem qw:(wl h++ [n,b3]).take 8=wl h:=by grind[wl,eJ,List.take_left]
theorem x7 {a:R} :putAt (wl h++ [n,b3]) 9 [a]=wl h++ [n,a]:=by simp_all [eJ,putAt,a7F,a4x]
theorem tY {a:R} :putAt (wl h++ [n,b3]) 8 [a]=wl h++ [a,b3]:=by simp_all [eJ,putAt,a5V]
theorem x8 (a:h5.length=8):putAt (wl h++ [n,b3]) 0 (wl h5)=wl h5++ [n,b3]:=by grind[wl,eJ,putAt,List.take_append,List.drop_append,List.drop_of_length_le]
end
variable{f t e4:U}{Y:bq}
theorem U.p9 (a:f e=some Y):f.set e Y=f:=by grind[U.set]
theorem U.CA {c:bq} (d:(f.set e c).sub t):(f.set e Y).sub (t.set e Y):=λh k a=>by
 rw[U.tE]at a|-;split;simp_all
 .rename_i b;rw[if_neg b]at a;exact d h k (by rw[U.tE,if_neg b];exact a)
theorem Xn (h:List UInt32) (a:h.length=8) (T: ∀o,AC Tryz.prog 270 [] o λV p=>p=o/\V= .agg (wl h)) (b:List UInt8) (W:Own) (s:b.length<=70368744177664) (o:U) (k:Nat) (e:o k=some (.cells (wl h++ [.J [] .nil,.v (.int .u64 0)]))):
  AC Tryz.prog 187 [.ptr k 0,.J (b.map al) W] o λ_ p=> ∃r,p=o.set k (.cells (wl (blocks (b.length/64) h b)++ [.J ((b.drop (64*(b.length/64))).map al) r,.v (.int .u64 b.length)])):=by
 refine bd hm OK a9a ?_;have E:(wl h).length=8:=by rw[eJ,a]
 rw[<-U.p9 e];simp -dsimp -implicitDefEqProofs (disch:=first|omega|assumption|(simp only[bk,Nat.reduceAdd];try omega)) only[go_sem,simprocAttr,mb a,qu a,qv a,qw a,x7 a,tY a];refine ai (T _) ?_;rintro _ _ ⟨rfl,rfl⟩;simp -dsimp -implicitDefEqProofs (disch:=first|omega|assumption|(simp only[bk,Nat.reduceAdd];try omega)) only[go_sem,simprocAttr,mb a,qu a,qv a,qw a,x7 a,tY a,x8 a a,E];refine dc U.a1 (by simp[aS]) λt u F=> ?_;have G:=F.sub k _ (U.ah _ _ _);simp -dsimp -implicitDefEqProofs (disch:=first|omega|assumption|(simp only[bk,Nat.reduceAdd];try omega)) only[go_sem,simprocAttr,U.aJ G,U.ae G,mb a,qu a,qv a,qw a,x7 a,tY a,x8 a a,E];refine dY F (by simp[aS]) (by simp[aS]) a9a a9a λv w f=> ?_;refine eA ?_;refine mQ (B:= []) f a9b λg i L=> ?_;have j:=L.sub k _ (U.ah _ _ _);rw[<-U.p9 j];simp -dsimp -implicitDefEqProofs (disch:=first|omega|assumption|(simp only[bk,Nat.reduceAdd];try omega)) only[go_sem,simprocAttr,a8j,a4P];refine cr (λx p=> ∃(c:Nat) (r:Own),64*c<=b.length/\x 0= .ptr k 0/\x 4= .J ((b.drop (64*c)).map al) r/\p=i.set k (.cells (wl (blocks c h b)++ [.J [] .nil,.v (.int .u64 b.length)])))
  (λx _=>match x 4 with| .J xs _=>xs.length| _=>0) ⟨0,g,a8Z,?_⟩ ?_
 .simp -dsimp -implicitDefEqProofs (disch:=first|omega|assumption|(simp only[bk,Nat.reduceAdd];try omega)) only[go_sem,simprocAttr,a8j];rfl
 .rintro x p ⟨c,r,A,C,D,rfl⟩;have d:=p8 c h b a;generalize P:blocks c h b=z at*;have B:(wl z).length=8:=by rw[eJ,d]
  by_cases y:(64)<=((b.drop (64*c)).length:Int)
  .have l:=y;rw[a4N]at l;simp -dsimp -implicitDefEqProofs (disch:=first|omega|assumption|(simp only[bk,Nat.reduceAdd];try omega)) only[go_sem,simprocAttr,C,D,y,mb d,qw d];have m:((b.drop (64*c)).take (64:Int).toNat).length=64:=a9b;refine ai (Cw z _ _ d m _) ?_;rintro _ _ ⟨rfl,rfl⟩;have S:=x5 z ((b.drop (64*c)).take 64) d;have n:(wl (comp z ((b.drop (64*c)).take 64))).length=8:=by rw[eJ,S]
   simp -dsimp -implicitDefEqProofs (disch:=first|omega|assumption|(simp only[bk,Nat.reduceAdd];try omega)) only[go_sem,simprocAttr,C,D,y,mb d,x8 d S,n];refine⟨⟨c+1,.any,a8Z,?_,?_⟩,by simp only[a4N];omega⟩;grind[List.drop_drop]
   .rw[tX,P]
  .simp -dsimp -implicitDefEqProofs (disch:=first|omega|assumption|(simp only[bk,Nat.reduceAdd];try omega)) only[go_sem,simprocAttr,C,D,y,mb d,tY d];rw[a4N]at y;have q:b.length/64=c:=a8Z;refine⟨o.set k _,U.CA L.sub,r,?_⟩;rw[q,P]
def Xo (a:List UInt8) (d:Own) (h:a.length<=70368744177664) (b:U) (c:Nat) (k:b c=some (.cells (wl gl++ [.J [] .nil,.v (.int .u64 0)]))):
  AC Tryz.prog 187 [.ptr c 0,.J (a.map al) d] b λ_ o=> ∃p,o=b.set c (.cells (wl (blocks (a.length/64) gl a)++ [.J ((a.drop (64*(a.length/64))).map al) p,.v (.int .u64 a.length)])):=
 Xn gl rfl x4 a d h b c k
def eg (a:Nat):Nat:=(55+64 - a%64)%64
def iZ (a:Nat) (b:List UInt8):List UInt8:=b++128::List.replicate (eg a) 0++cF (8*a)
def x9 (a:UInt32):List UInt8:= [(a>>>24).toUInt8,(a>>>16).toUInt8,(a>>>8).toUInt8,a.toUInt8]
def eh (a:List UInt32):List UInt8:=a.flatMap x9
def cG (a:List UInt8):R:= .agg (a.map al)
def hQ (a:List UInt8):List R:=a.map al++List.replicate (32 - a.length) (.v (.int .u8 0))
variable{B:List UInt8}
def tZ (a:B.length<=32):(hQ B).length=32:=by simp[hQ];omega
def xa (a:UInt8) (b:e=B.length) (d:B.length<32):putAt (hQ B) e [.v (.int .u8 a.toNat)]=hQ (B++ [a]):=by subst b;have c:32 - B.length=(32 -(B.length+1))+1:=a8Z;simp only[putAt,hQ,c,a6K];simp[a5V,al]
def u0: ∀a:List UInt32,(eh a).length=4*a.length
 | []=>rfl
 |c::b=>by simp only[eh,a4Y,a4y]at*;have:=u0 b;simp only[eh]at this;rw[this];simp[x9];omega
theorem Xp (m:List UInt32) (a08:m.length=8) (k4: ∀F,AC Tryz.prog 270 [] F λn p=>p=F/\n= .agg (wl m)) (r:List UInt32) (x:r.length=8) (a:Nat) (k:List UInt8) (H:Own) (a09:a<=70368744177664) (I:k.length=a%64) (k5:a=0->r=m)
  (F:U) (S:Nat) (T:F S=some (.cells (wl r++ [.J (k.map al) H,.v (.int .u64 a)]))):
  AC Tryz.prog 188 [.ptr S 0] F λn p=>p=F/\n=cG (eh (blocks ((iZ a k).length/64) r (iZ a k))):=by
 refine bd hm OM a9a ?_;have K:(wl r).length=8:=by rw[eJ,x]
 refine eA ?_;refine aM λG q=> ?_;have k6:S≠G:=by rintro rfl;rw[q]at T;cases T
 simp -dsimp -implicitDefEqProofs (disch:=first|omega|assumption|(simp only[bk,Nat.reduceAdd];try omega)) only[go_sem,↓reduceIte,Nat.reduceEqDiff,Nat.reduceAdd,Nat.reduceSub,Nat.reduceMul,Nat.reduceLeDiff,Nat.reduceLT,Int.reduceNeg,Int.reduceToNat,Int.reduceAdd,Int.reduceSub,Int.reduceMul,Int.reduceLT,Int.reduceLE,Int.reduceEq,Int.reduceNe,U.ae T,mb x,qu x,qv x,qw x];refine aM λL f=> ?_;obtain⟨M,f⟩:=U.gH f;have k7:S≠L:=by rintro rfl;rw[f]at T;cases T
 simp -dsimp -implicitDefEqProofs (disch:=first|omega|assumption|(simp only[bk,Nat.reduceAdd];try omega)) only[go_sem,↓reduceIte,Nat.reduceEqDiff,Nat.reduceAdd,Nat.reduceSub,Nat.reduceMul,Nat.reduceLeDiff,Nat.reduceLT,Int.reduceNeg,Int.reduceToNat,Int.reduceAdd,Int.reduceSub,Int.reduceMul,Int.reduceLT,Int.reduceLE,Int.reduceEq,Int.reduceNe,U.ae T,mb x,qu x,qv x,qw x,K];refine BT (λb p=>b 0= .ptr S 0/\b 2= .ptr G 0/\b 3= .ptr L 0/\p=(F.set G (.cells (List.replicate 32 (.v (.int .u8 0))))).set L (.cells (wl r))) ?_ ?_ ?_
 .intro N;have k8:a=0:=by simpa using N
  have k9:=k5 k8;subst k9;refine eA ?_;refine ai (k4 _) ?_;rintro _ _ ⟨rfl,rfl⟩;exact gT @K
 .intro _;exact qn
 .rintro b p ⟨z,c,d,rfl⟩;have O:((F.set G (.cells (List.replicate 32 (.v (.int .u8 0))))).set L (.cells (wl r))) S=some (.cells (wl r++ [.J (k.map al) H,.v (.int .u64 a)])):=by rw[U.ao _ _ k7,U.ao _ _ k6];exact T
  generalize s:((F.set G (.cells (List.replicate 32 (.v (.int .u8 0))))).set L (.cells (wl r)))=l0 at*;refine aE (aH @z @c @d) ?_;refine dc U.a1 (by simp[aS]) λa10 a11 Q=> ?_;have l1:=Q.sub _ _ O;simp -dsimp -implicitDefEqProofs (disch:=first|omega|assumption|(simp only[bk,Nat.reduceAdd];try omega)) only[go_sem,↓reduceIte,Nat.reduceEqDiff,Nat.reduceAdd,Nat.reduceSub,Nat.reduceMul,Nat.reduceLeDiff,Nat.reduceLT,Int.reduceNeg,Int.reduceToNat,Int.reduceAdd,Int.reduceSub,Int.reduceMul,Int.reduceLT,Int.reduceLE,Int.reduceEq,Int.reduceNe,z,c,d,U.ae l1,mb x,qv x];refine mQ (B:= []) Q a9b λa13 a14 l2=> ?_;refine aE (aH @z @c @d) ?_;refine rT (a:=128) U.a1 λa15 a16 l3=> ?_;refine aE (aH @z @c @d) ?_;refine wG (l2.mono l3.sub) a9b λl4 a18 a19=> ?_;refine aE (aI @z @c @d @a4P.{0}) ?_;refine cr (λb p=> ∃(E:Nat) (V:Own),E<=eg a/\b 0= .ptr S 0/\b 2= .ptr G 0/\b 3= .ptr L 0/\b 4= .J ((k++128::List.replicate E 0).map al) V/\bg l0 p 1 ((k++128::List.replicate E 0).map al) V)
   (λb _=>match b 4 with| .J xs _=>200 - xs.length| _=>0) ⟨0,l4,a8Z,?_⟩ ?_
  .simp -dsimp -implicitDefEqProofs (disch:=first|omega|assumption|(simp only[bk,Nat.reduceAdd];try omega)) only[go_sem,↓reduceIte,Nat.reduceEqDiff,Nat.reduceAdd,Nat.reduceSub,Nat.reduceMul,Nat.reduceLeDiff,Nat.reduceLT,Int.reduceNeg,Int.reduceToNat,Int.reduceAdd,Int.reduceSub,Int.reduceMul,Int.reduceLT,Int.reduceLE,Int.reduceEq,Int.reduceNe,z,c,d];trivial
  .rintro b p ⟨E,V,a27,z,c,d,C,t⟩;have N:eg a<=63:=by unfold eg;omega
   have X:(k++128::List.replicate E 0).length=a%64+1+E:=by simp[I];omega
   by_cases P:E<eg a
   .have l5: ¬(((a%64+1+E)%64:Nat):Int)=56:=by unfold eg at P;omega
    refine aE (c6 @z @c @d @C @X @BW @l5) ?_;refine rT (a:=0) U.a1 λl6 l7 u=> ?_;refine aE (aI @z @c @d @C) ?_;refine wG (t.mono u.sub) a8Z λY v i=> ?_;have a29:k++128::List.replicate E 0++ [0]=k++128::List.replicate (E+1) 0:=by simp[a8J]
    refine aE (aI @z @c @d @C) ?_;grind
   .obtain rfl:E=eg a:=a8Z;have l8:(((a%64+1+eg a)%64:Nat):Int)=56:=by unfold eg;omega
    have l9:=t.sub _ _ O;simp -dsimp -implicitDefEqProofs (disch:=first|omega|assumption|(simp only[bk,Nat.reduceAdd];try omega)) only[go_sem,↓reduceIte,Nat.reduceEqDiff,Nat.reduceAdd,Nat.reduceSub,Nat.reduceMul,Nat.reduceLeDiff,Nat.reduceLT,Int.reduceNeg,Int.reduceToNat,Int.reduceAdd,Int.reduceSub,Int.reduceMul,Int.reduceLT,Int.reduceLE,Int.reduceEq,Int.reduceNe,z,c,d,C,X,BW,l8,ne_eq,not_true_eq_false,U.ae l9,mb x,qu x];have W:(8)*(a)=((8*a:Nat):Int):=a9a;rw[W];refine ai (Cx (8*a) _) ?_;rintro _ l7 ⟨l6,u,rfl⟩;refine aE (aI @z @c @d @C) ?_;refine mQ (t.mono u.sub) (by simp[cF];omega) λY v i=> ?_;refine aE (aI @z @c @d @C) ?_;have n0:=i.sub _ _ (by rw[<-s];exact U.ah _ _ _);have Z:=i.sub _ _ (by rw[<-s,U.ao _ _ (a4F M)];exact U.ah _ _ _);have j9:=U.ar (by rw[<-s];exact U.af (U.af U.a1 q) f) i.sub;rw[<-U.p9 n0];have n1:k++128::List.replicate (eg a) 0++cF (8*a)=iZ a k:=rfl;have a30:(iZ a k).length=64*((iZ a k).length/64):=by
     have:(iZ a k).length=a%64+1+eg a+8:=by simp[iZ,I,cF];omega
     rw[this];unfold eg;omega
    rw[n1];generalize iZ a k=y at*;refine cr (λb p=> ∃(o:Nat) (V:Own),64*o<=y.length/\b 2= .ptr G 0/\b 3= .ptr L 0/\b 4= .J ((y.drop (64*o)).map al) V/\p=v.set L (.cells (wl (blocks o r y))))
     (λb _=>match b 4 with| .J xs _=>xs.length| _=>0) ⟨0,Y,a8Z,?_⟩ ?_
    .refine aE (c2 @c @d) ?_;rfl
    .rintro b p ⟨o,V,a34,c,d,C,rfl⟩;have w:=p8 o r y x;have j:(wl (blocks o r y)).length=8:=by rw[eJ,w]
     by_cases P:(0)<((y.drop (64*o)).length:Int)
     .have n2:=P;rw[a4N]at n2;have a36:64<=(y.drop (64*o)).length:=by rw[a4N];omega
      refine aE (bs @c @d @C @P @j @a4x.{0}) ?_;have n3:((y.drop (64*o)).take 64).length=64:=a9b;refine ai (Cw _ _ _ w n3 _) ?_;rintro _ _ ⟨rfl,rfl⟩;have n4:=x5 (blocks o r y) ((y.drop (64*o)).take 64) w;have n5:(wl (comp (blocks o r y) ((y.drop (64*o)).take 64))).length=8:=by rw[eJ,n4]
      refine aE (bm @c @d @C @j @n5) ?_;refine⟨⟨o+1,.any,a8Z,?_,?_⟩,by simp only[a4N];omega⟩;grind[List.drop_drop]
      .rw[tX]
     .rw[a4N]at P;have n9:o=y.length/64:=a8Z;refine aE (bm @c @d @C @a4N.{0} @P) ?_;rw[<-n9];generalize a38:blocks o r y=D at*;refine aM λA B=> ?_;obtain⟨a42,B⟩:=U.gH B;have k0:A≠G:=by grind
      refine aE (bm @c @d @C @j @a4x.{0}) ?_;refine cr (λb p=> ∃h:Nat,h<=8/\b 2= .ptr G 0/\b 5= .ptr A 0/\b 50= .agg (wl D)/\b 51= .v (.int .i64 h)/\p=(v.set L (.cells (wl D))).set A (.cells (hQ (eh (D.take h)))))
       (λb _=>match b 51 with| .v (.int _ a)=>(8 - a).toNat| _=>0) ⟨0,a8Z,?_⟩ ?_
      .refine aE (aH @c @d @C) ?_;rfl
      .rintro b p ⟨h,a43,c,k1,k2,k3,rfl⟩;have e:(eh (D.take h)).length=4*h:=by rw[u0];simp;omega
       by_cases P:(h:Int)<8
       .have a00:(hQ (eh (D.take h))).length=32:=tZ a8Z;have a01:(4*(h:Int)).toNat=4*h:=a8Z;have a02:(4*(h:Int)+1).toNat=4*h+1:=a8Z;have a03:(4*(h:Int)+2).toNat=4*h+2:=a8Z;have a04:(4*(h:Int)+3).toNat=4*h+3:=a8Z;have a47: ∀(g) (l),g.length<32->putAt (hQ g) g.length [.v (.int .u8 l.toNat)]=hQ (g++ [l]):=λg l a05=>xa l rfl a05;simp -dsimp -implicitDefEqProofs (disch:=first|omega|assumption|(simp only[bk,Nat.reduceAdd];try omega)) only[go_sem,↓reduceIte,Nat.reduceEqDiff,Nat.reduceAdd,Nat.reduceSub,Nat.reduceMul,Nat.reduceLeDiff,Nat.reduceLT,Int.reduceNeg,Int.reduceToNat,Int.reduceAdd,Int.reduceSub,Int.reduceMul,Int.reduceLT,Int.reduceLE,Int.reduceEq,Int.reduceNe,c,k1,k2,k3,P,j,hq,a01,a02,a03,a04,xa,tZ];refine⟨⟨h+1,a8Z,a9a,?_⟩,a8Z⟩;grind[eh,x9,List.getD,List.take_succ_eq_append_getElem]
       .obtain rfl:h=8:=a8Z;have a00:(hQ (eh (D.take 8))).length=32:=tZ a8Z;have W:D.take 8=D:=a4x a8Z;have a06:hQ (eh D)=(eh D).map al:=by rw[W]at e;simp[hQ,e]
        have a07:((eh D).map al).length=32:=by rw[W]at e;simp[e]
        have a48:(eh D).length=32:=by rw[W]at e;exact e
        rw[W,a06];refine aE (kZ @c @k1 @k2 @k3 @P @a07 @a4x.{0} (U.aJ Z) (U.ae Z) @k0 (a4F k0) (a4F M) @rS) ?_;refine⟨F,?_,rfl,rfl⟩;exact U.af (U.af (U.af j9 f) (U.bF j9 B)) q
def Xq (b:U):AC Tryz.prog 186 [] b λc d=> ∃a,b a=none/\c= .ptr a 0/\d=b.set a (.cells (wl gl++ [.J [] .nil,.v (.int .u64 0)])):=by refine bd hm OI a9a ?_;refine eA ?_;refine ai (x4 _) ?_;rintro _ _ ⟨rfl,rfl⟩;have h:(wl gl).length=8:=rfl;have k:putAt (List.replicate 8 (R.v (Value.int IntKind.u32 0))++ [R.J [] Own.nil]++ [R.v (Value.int IntKind.u64 0)]) 0 (wl gl)=wl gl++ [.J [] .nil,.v (.int .u64 0)]:=rfl;simp -dsimp -implicitDefEqProofs (disch:=first|omega|assumption|(simp only[bk,Nat.reduceAdd];try omega)) only[go_sem,↓reduceIte,Nat.reduceEqDiff,Nat.reduceAdd,Nat.reduceSub,Nat.reduceMul,Nat.reduceLeDiff,Nat.reduceLT,Int.reduceNeg,Int.reduceToNat,Int.reduceAdd,Int.reduceSub,Int.reduceMul,Int.reduceLT,Int.reduceLE,Int.reduceEq,Int.reduceNe,h,k];refine aM λa o=> ?_;refine eA ?_;exact⟨_,U.a1,a,o,rfl,rfl⟩
def fh (a:List UInt8):List UInt8:=
 eh (blocks ((iZ a.length (a.drop (64*(a.length/64)))).length/64) (blocks (a.length/64) gl a) (iZ a.length (a.drop (64*(a.length/64)))))
def sb (a:List UInt8):(fh a).length=32:=by rw[fh,u0,p8 _ _ _ (p8 _ _ _ rfl)]
def Xr (a:List UInt8) (c:Own) (d:a.length<=70368744177664) (b:U):AC Tryz.prog 121 [.J (a.map al) c] b λk o=>o=b/\k=cG (fh a):=by
 refine bd hm MJ a9a ?_;refine eA ?_;refine aM λG p=> ?_;refine eA ?_;refine ai (Xq _) ?_;rintro _ _ ⟨h,r,rfl,rfl⟩;obtain⟨x,y⟩:=U.gH r;refine eA ?_;refine ai (Xo a c d _ h (U.ah _ _ _)) ?_;rintro _ _ ⟨z,rfl⟩;refine eA ?_;have C:(a.drop (64*(a.length/64))).length=a.length%64:=a9b;refine ai (Xp gl rfl x4 (blocks (a.length/64) gl a) (p8 _ _ _ rfl) a.length (a.drop (64*(a.length/64))) z d C (λD=> ?_) _ h (U.ah _ _ _)) ?_
 .rw[D];rfl
 rintro _ _ ⟨rfl,rfl⟩;have E:((fh a).map al).length=32:=by rw[a4I,sb]
 have L:=sb a;have F:cG (eh (blocks ((iZ a.length (a.drop (64*(a.length/64)))).length/64) (blocks (a.length/64) gl a) (iZ a.length (a.drop (64*(a.length/64))))))= .agg ((fh a).map al):=rfl;rw[F];generalize fh a=P at*;refine aE (c2 @E (a4F x)) ?_;exact⟨b,U.af (U.af U.a1 p) y,rfl,by rw[a4x a8Z];rfl⟩
def a4p (a:List (List UInt8)):Prop:= ∀b∈a,b.length=32
def aZ:(cG B).cells=B.map al:=rfl
def ba (a:B.length=32):(.agg ((B.take 32).map al):R)=cG B:=by rw[a4x (by simp[a])];rfl
def Xs (a:List (List UInt8)) (b:Own) (c:List (List UInt8×Own)) (d:Own) (h:Bool):bq:= .cells [.J (a.map cG) b,.J (p7 c) d,.v (.bool h)]
def PS (c:U) (d:Nat) (h k:List (List UInt8)) (o:Bool) (p:U):Prop:=
 ∃r b a,a.map (·.1)=k/\bg (c.set d (Xs h r a b o)) p 1 (p7 a) b
def u1:List UInt8:=List.replicate 32 0
def eN:bq:= .cells (List.replicate 32 (.v (.int .u8 0)))
def Xt (a:List UInt8):bq:= .cells (a.map al)
theorem CB {a:List UInt8} (b:cG B=cG a):B=a:=by
 have c:B.map al=a.map al:=by simpa[cG] using b
 have d:=congrArg bytesOf c;rw[rp,rp]at d;simp_all
end Go.Proofs.YtlgnfcaolejgeaaGreat
set_option maxHeartbeats 1000000
namespace Go.Proofs.YtlgnfcaolejgeaaGreat
open Go Go.bx
structure BF where
 x:List UInt8
 y:List UInt8
 cJ:List (List UInt8)
 sc:List (List UInt8)
 iw:Bool
end Go.Proofs.YtlgnfcaolejgeaaGreat
set_option maxHeartbeats 1000000
namespace Go.Proofs.YtlgnfcaolejgeaaGreat
open Go Go.bx
def u2 (a:List UInt8) (b:Own):bq:= .cells [.J (a.map al) b,.v (.int .i64 0)]
def cv (c:U) (d:Nat) (a:List UInt8) (h:U):Prop:= ∃b,bg (c.set d (u2 a b)) h 1 (a.map al) b
def u3 (h k:U) (d:Nat) (a b:List UInt8) (y:Own) (c:cv h d a k) (D:a.length+b.length<=70368744177664):
  AC Tryz.prog 168 [.ptr d 0,.v (.bool true),.J (b.map al) y] k λ_ z=>cv h d (a++b) z:=by
 obtain⟨E,c⟩:=c;have C:=c.sub _ _ (U.ah _ _ _);refine bd hm O9 a9a ?_;refine aE (aI @a5q (U.ae C) @aZ @ba) ?_;refine mQ c a8Z λo F p=> ?_;have r:=p.sub _ _ (U.ah _ _ _);refine aE (aI (U.ae r) (U.aJ r) @aZ @ba) ?_;have x:=p.set (ob:=u2 (a++b) o) (U.ah _ _ _);rw[U.set_set]at x;exact⟨_,U.a1,o,x⟩
def mY (c k:U) (a:Nat) (b:List UInt8) (d:UInt8) (h:cv c a b k) (o:b.length+1<=70368744177664):
  AC Tryz.prog 103 [.ptr a 0,.v (.int .u8 d.toNat)] k λ_ p=>cv c a (b++ [d]) p:=by
 refine bd hm Mc a9a ?_;refine aE (c2 @aZ @ba) ?_;refine rT U.a1 λr x y=> ?_;refine aE (c2 @aZ @ba) ?_;obtain⟨z,h⟩:=h;refine ai (u3 c x a b [d] r ⟨z,h.mono y.sub⟩ o) ?_;intro E C D;refine aE (c2 @aZ @ba) ?_;exact⟨C,U.a1,D⟩
def ck (a:Int):Nat:=(BitVec.ofInt 64 a^^^BitVec.ofInt 64 9223372036854775808).toNat
def hR (a:Int):List UInt8:=cF (ck a)
theorem CC (a:Int):bn .xor (.int .u64 (IntKind.u64.wrap a)) (.int .u64 9223372036854775808)=some (.int .u64 (ck a)):=by
 have b:BitVec.ofInt 64 (IntKind.u64.wrap a)=BitVec.ofInt 64 a:=by rw[kp];apply BitVec.eq_of_toInt_eq;grind
 have c:bn .xor (.int .u64 (IntKind.u64.wrap a)) (.int .u64 9223372036854775808)=some (.int .u64 (IntKind.u64.wrap (BitVec.ofInt 64 (IntKind.u64.wrap a)^^^BitVec.ofInt 64 9223372036854775808).toNat)):=rfl;rw[c,b];have d:=(BitVec.ofInt 64 a^^^BitVec.ofInt 64 9223372036854775808).isLt;rw[wrap_u64 a8Z a8Z];rfl
theorem Xu (o C:U) (b:Nat) (p:List UInt8) (h:Int) (E:cv o b p C) (G:p.length+8<=70368744177664):
  AC Tryz.prog 254 [.ptr b 0,.v (.int .i64 h)] C λ_ c=>cv o b (p++hR h) c:=by
 refine bd hm QC a9a ?_;refine aE (aH @CC @aZ @ba) ?_;generalize F:ck h=k;refine cr (λd c=> ∃a:Nat,a<=8/\cv o b (p++(cF k).take a) c/\d 0= .ptr b 0/\d 4= .v (.int .u64 k)/\d 5= .v (.int .i64 (56 - 8*(a))))
  (λd _=>match d 5 with| .v (.int _ h)=>(h+8).toNat| _=>0) ⟨0,a8Z,by simpa using E,?_⟩ ?_
 .exact gT (c2 @aZ @ba)
 .rintro d c ⟨a,L,D,r,x,y⟩;by_cases z:(0)<=56 - 8*(a:Int)
  .refine aE (c6 @r @x @y @z @iq @aZ @ba) ?_;refine ai (mY o c b _ _ D ?_) ?_
   .simp;omega
   intro P S T;refine aE (bs @r @x @y @z @aZ @ba) ?_;refine⟨⟨a+1,a8Z,?_,a9b⟩,a8Z⟩;have V:(cF k).take (a+1)=(cF k).take a++ [UInt8.ofNat (k>>>(56 - 8*(a:Int)).toNat)]:=by rcases(by omega:a=0\/a=1\/a=2\/a=3\/a=4\/a=5\/a=6\/a=7)with rfl|rfl|rfl|rfl|rfl|rfl|rfl|rfl<;>rfl
   grind
  .obtain rfl:a=8:=a8Z;refine aE (bs @r @x @y @z @aZ @ba) ?_;refine⟨c,U.a1,?_⟩;rw[hR,F];exact D
end Go.Proofs.YtlgnfcaolejgeaaGreat
namespace Go.bx
open Go
def CD (a:Bool) (c:R) (b:R->Prop):Prop:=
 match c with
 | .J xs d=>match d with
  | .nil=>b (.v (.bool (!a)))
  | .buf _ _=>b (.v (.bool a))
  | _=>(xs= []->b (.v (.bool (!a))))/\b (.v (.bool a))
 | .an _ _ _ _=>b (.v (.bool a))
 | _=>False
variable{s a7:R -> U -> Prop}{I:Bool}{K:Ctx}{j:Fr}{f t e4:U}{Z e9:Operand}
def o5:G K (.mB I Z) j f s=CD I (ak j Z) (bZ (λa=>s a f) ()):=rfl
variable{g A e0:List R}{M e6 h4:Own}
def o6 {a:R->Prop}{b:cy a} (c:M= .nil->g= []) (d:g= []->a (.v (.bool (!I)))) (h:a (.v (.bool I))):CD I (.J g M) (bZ a b):=by
 cases M with
 |nil=>exact d (c rfl)
 |buf k o=>exact h
 |any=>trivial
 |zero=>trivial
end Go.bx
namespace Go.Proofs.YtlgnfcaolejgeaaGreat
open Go Go.bx
def xb (a:List UInt8) (d:Own) (b:U) (k:d= .nil->a= []) (C:a.length<=70368744177664):
  AC Tryz.prog 172 [.J (a.map al) d] b λo p=> ∃h,bg b p 1 (a.map al) h/\o= .J (a.map al) h:=by
 refine bd hm Oh a9a ?_;simp -dsimp -implicitDefEqProofs (disch:=first|omega|assumption|(simp only[bk,Nat.reduceAdd];try omega)) only[go_sem,simprocAttr,aZ,ba,↓o5];refine o6 (λc=>by rw[k c];rfl) (λc=> ?_) ?_
 .have r:a= []:=by simpa using c
  subst r;refine aE (aH @a5r @aZ @ba) ?_;exact⟨b,U.a1,.nil,bg.nil U.a1,rfl⟩
 .refine aE (c2 @aZ @ba) ?_;refine dc U.a1 (by simp[aS]) λD E x=> ?_;refine aE (c2 @aZ @ba) ?_;refine mQ (B:= []) x a9b λy z F=> ?_;refine aE (aH @a4P.{0} @aZ @ba) ?_;exact⟨z,U.a1,y,by trivial,rfl⟩
def CE (k b:U) (d:Nat) (a:List UInt8) (c:cv k d a b) (o:a.length<=70368744177664):
  AC Tryz.prog 106 [.ptr d 0] b λp r=> ∃h,bg b r 1 (a.map al) h/\p= .J (a.map al) h:=by
 obtain⟨x,c⟩:=c;have y:=c.sub _ _ (U.ah _ _ _);refine bd hm Mi a9a ?_;refine aE (aH (U.ae y) @aZ @ba) ?_;refine ai (xb a x b (λz=> ?_) o) ?_
 .subst z;have:=c.2;simpa using this
 rintro _ C ⟨D,E,rfl⟩;refine aE (c2 @aZ @ba) ?_;exact⟨C,U.a1,D,E,rfl⟩
end Go.Proofs.YtlgnfcaolejgeaaGreat
namespace Go.bx
open Go
end Go.bx
namespace Go.Proofs.YtlgnfcaolejgeaaGreat
open Go Go.bx
def xc (a:Int) (b c:List UInt8):List R:= .v (.int .i64 a)::(b.map al++c.map al)
def Xv (a:Int) (b c:List UInt8):R:= .agg (xc a b c)
def Xw (a:Int) (b c:List UInt8):List UInt8:=preB 68 [hR a,b,c]
end Go.Proofs.YtlgnfcaolejgeaaGreat
namespace Go.bx
open Go
variable{f t e4:U}{g A e0:List R}{e i v O b8 j0:Nat}
def Xx (a:g.length=e):rV 1 e (f.set i (.ro g)) (.ptr i 0)=some (.J g .any):=V0 (U.ah _ _ _) a
end Go.bx
namespace Go.Proofs.YtlgnfcaolejgeaaGreat
open Go Go.bx
structure ix where
 n:Int
 h:List UInt8
 d:List UInt8
 deriving DecidableEq
def ix.ok (a:ix):Prop:=a.h.length=32/\a.d.length=32
def ix.C (a:ix):List R:=xc a.n a.h a.d
def ix.V (a:ix):R:=Xv a.n a.h a.d
def ix.sum (a:ix):List UInt8:=fh (Xw a.n a.h a.d)
def cv.mono {b c d:U}{h:Nat}{k:List UInt8} (a:cv b h k c) (o:c.sub d):cv b h k d:=by obtain⟨p,a⟩:=a;exact⟨p,a.mono o⟩
def cv.sub {a c:U}{d:Nat}{h:List UInt8} (b:cv a d h c) (k:a d=none):a.sub c:=by obtain⟨o,b⟩:=b;exact U.ar (U.af U.a1 k) b.sub
theorem cv.base {b c d:U}{h:Nat}{k:List UInt8} (a:cv b h k d) (o:c.sub b):cv c h k d:=by obtain⟨p,a⟩:=a;exact⟨p,a.base (U.kW o)⟩
variable{f t e4:U}{B:List UInt8}{e i v O b8 j0:Nat}
def cv.cell (a:cv t e B f): ∃b,f e=some (u2 B b):=by obtain⟨b,a⟩:=a;exact⟨b,a.sub _ _ (U.ah _ _ _)⟩
def cv.new {d h:U}{c a:Nat}{p:List UInt8}{ob:bq} (b:cv d c p h) (k:h a=none):a≠c/\d a=none/\cv (d.set a ob) c p (h.set a ob):=by
 obtain⟨r,x⟩:=b.cell;have o:a≠c:=by rintro rfl;rw[k]at x;cases x
 obtain⟨r,b⟩:=b;have y:=U.bF b.sub k;rw[U.ao _ _ o]at y;refine⟨o,y,r,?_⟩;rw[U.dX _ o];exact b.new k
variable{Y:bq}
def cv.get (a:cv f i B t) (b:e≠i) (c:f e=some Y):t e=some Y:=by obtain⟨d,a⟩:=a;exact a.sub _ _ (by rw[U.ao _ _ b];exact c)
def CF (d h:U) (a:Nat) (b c:List UInt8) (k:c.length=32) (o:cv d a b h) (y:b.length+32<=70368744177664):
  AC Tryz.prog 170 [.ptr a 0,cG c] h λ_ p=>cv d a (b++c) p:=by
 refine bd hm Od a9a ?_;refine aE (aH @k @aZ @ba) ?_;refine aM λz r=> ?_;refine aE (aI @k @Xx @aZ @ba) ?_;refine ai (u3 d _ a b c .any (o.mono (U.af U.a1 r)) a8Z) ?_;intro C D x;refine aE (c2 @aZ @ba) ?_;exact⟨_,U.a1,x⟩
def CG (a:Int):(hR a).length=8:=rfl
end Go.Proofs.YtlgnfcaolejgeaaGreat
