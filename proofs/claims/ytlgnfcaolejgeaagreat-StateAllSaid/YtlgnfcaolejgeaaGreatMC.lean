import Derived.Test.YtlgnfcaolejgeaaGreatMB
set_option linter.all false
namespace Go.bA
open Go
abbrev cC.{a}{b:Sort a} (_:b):Type:=Unit
variable{b0:Type}
def c3 (a:b0->Prop) (_:cC a) (b:b0):Prop:=a b
def bO {a:Type} (b:b0->a->Prop) (_:cC b) (c:b0) (d:a):Prop:=b c d
def cw (a:Prop) (_:cC a):Prop:=a
def jI {a:b0->Prop}{c:cC a}{b:b0}:c3 a c b=a b:=rfl
def SB {b:Type}{a:b0->b->Prop}{h:cC a}{c:b0}{d:b}:bO a h c d=a c d:=rfl
variable{Q b5 h4 j1 j6:Prop}
def Bs {a:cC Q}:cw Q a=Q:=rfl
def iY (b:U) (c:Nat->Prop):Prop:= ∀a,b a=none->c a
def gV (a b:Prop):Prop:=a/\b
def rR {a:cC Q} (b:b5):gV b5 (cw Q a)=Q:=by simp[gV,cw,b]
def rS {a:cC Q}:gV True (cw Q a)=Q:=by simp[gV,cw]
variable{h7:dM}{e3:ca}{n b3:R}{s a7:R -> U -> Prop}{I:Bool}{K:Ctx}{e8:gm -> Fr -> U -> Prop}{j:Fr}{j4:Fr -> U -> Prop}{b4:FuncId}{f t e7:U}{b1:Int}{e2:IntKind}{g A e1:List R}{e i v M c0 j0:Nat}{j5:Nat -> Prop}{Y:bp}{Z e9:Operand}{N e5 h5:Own}{m:Program}{b2:TypeId}{e4:Value}
section
def SC:bT K .skip e8 j f=e8 .norm j f:=rfl
def SD:bT K .ret e8 j f=e8 .ret j f:=rfl
def SE:bT K (.exit e) e8 j f=e8 (.exit e) j f:=rfl
def SF {a:dM}:bT K (.seq h7 a) e8 j f=bT K h7 (eR (bT K a e8) e8) j f:=rfl
def SG:bT K (.block e h7) e8 j f=bT K h7 (lf e e8) j f:=rfl
def SH {a:List c6}:bT K (.plain a) e8 j f=iU K a (e8 .norm) j f:=rfl
def SI {a:List c6}{b:List dj}:bT K (.draw a b) e8 j f=can K (nth a) (e8 .norm) b j f:=rfl
def ku (b:R) (c d:Prop):Prop:=
 match b with
 | .v (.bool a)=>(a=true->c)/\(a=false->d)
 | _=>False
def wD {a:dM}:bT K (.cond Z h7 a) e8 j f=ku (aj j Z) (cw (bT K h7 e8 j f) ()) (cw (bT K a e8 j f) ()):=rfl
def Bt {a:cC Q}:ku (.v (.bool true)) (cw Q a) b5=Q:=by simp[ku,cw]
def Bu {a:cC Q}:ku (.v (.bool false)) b5 (cw Q a)=Q:=by simp[ku,cw]
def SJ:bT K (.loop h7) e8 j f=cw (bT K (.loop h7) e8 j f) ():=rfl
def SK:eR j4 e8 .norm j f=j4 j f:=rfl
def SL:eR j4 e8 .ret j f=e8 .ret j f:=rfl
def SM:eR j4 e8 (.exit e) j f=e8 (.exit e) j f:=rfl
def SN:lf e e8 .norm j f=e8 .norm j f:=rfl
def SO:lf e e8 .ret j f=e8 .ret j f:=rfl
def SP:lf i e8 (.exit e) j f=(if e=i then e8 .norm j f else e8 (.exit e) j f):=by simp only[lf];split<;>rfl
def SQ:lf e e8 (.exit e) j f=e8 .norm j f:=by simp[lf]
def SR:iU K [] j4 j f=j4 j f:=rfl
def SS {a:Option Nat}{b:List c6}:iU K (⟨a,e3,none⟩::b) j4 j f=G K e3 j f (λc d=>iU K b j4 (dm j a c) d):=rfl
def hM (b:R) (c:Bool) (d a:Prop):Prop:=
 match b with
 | .v (.bool h)=>if h=c then d else a
 | .aL []=>a
 | _=>False
def SU {a:Option Nat}{b:List c6}:
  iU K (⟨a,e3,some (e,I)⟩::b) j4 j f=hM (j e) I (cw (G K e3 j f (λc d=>iU K b j4 (dm j a c) d)) ()) (cw (iU K b j4 (dm j a (.aL [])) f) ()):=rfl
def SV {a:cC Q}:hM (.v (.bool true)) true (cw Q a) b5=Q:=by simp[hM,cw]
def SX {a:cC Q}:hM (.v (.bool false)) false (cw Q a) b5=Q:=by simp[hM,cw]
def SY {a:cC Q}:hM (.v (.bool true)) false b5 (cw Q a)=Q:=by simp[hM,cw]
def SZ {a:cC Q}:hM (.v (.bool false)) true b5 (cw Q a)=Q:=by simp[hM,cw]
def T0 {a:cC Q}:hM (.aL []) I b5 (cw Q a)=Q:=rfl
def T1 {a:Bool}:hM (.v (.bool I)) a Q b5=((I=a->Q)/\(I=(!a)->b5)):=by cases I<;>cases a<;>simp[hM]
def T2 {a:Nat->c6}:can K a j4 [] j f=j4 j f:=rfl
def lU (a:c6) (b:c6->Prop):Prop:=b a
def T3 {a:Option Nat}{b:Option (Nat×Bool)}{c:c6->Prop}:lU ⟨a,e3,b⟩ c=c ⟨a,e3,b⟩:=rfl
def T4 {a:Nat->c6}{b:List dj}:can K a j4 (⟨e,[],[]⟩::b) j f=lU (a e) (c3 (λc=>T K c (λd h=>can K a j4 b d h) j f) ()):=by simp only[can,a6n,false_implies,implies_true,true_and,lU,c3]
def T5 {a:Nat->c6}{b c:List Nat}{d:List dj}:can K a j4 (⟨e,i::b,c⟩::d) j f=gV (lU (a i) (c3 (λh=>Def K h j) ())) (cw (can K a j4 (⟨e,b,c⟩::d) j f) ()):=by simp only[can,a5i,forall_eq_or_imp,gV,lU,c3,cw];exact propext and_assoc
def rT (c:Ctx) (a:c6) (b:Fr) (d:U):Prop:=
 match a.dst with
 |some h=>E c a b d λk _=>k=b h
 |none=>True
def nS (b:Ctx) (c:Nat->c6) (d:Fr) (h:U):List Nat->Prop->Prop
 | [],a=>a
 |k::o,a=>gV (lU (c k) (c3 (λp=>rT b p d h) ())) (cw (nS b c d h o a) ())
def T6 {a:Nat->c6}:nS K a j f [] Q=Q:=rfl
def T7 {a:Nat->c6}{b:List Nat}:nS K a j f (e::b) Q=gV (lU (a e) (c3 (λc=>rT K c j f) ())) (cw (nS K a j f b Q) ()):=rfl
def Bv {a:Nat->c6}{b:Prop}: ∀c,nS K a j f c b=((∀d∈c,hj K a d j f)/\b)
 | []=>by simp[nS]
 |d::h=>by simp only[nS,Bv h,gV,lU,c3,cw,a5i,forall_eq_or_imp,hj,rT];exact propext and_assoc.symm
def T8 {a:Nat->c6}{b:List Nat}{c:List dj}:can K a j4 (⟨e,[],i::b⟩::c) j f=lU (a e) (c3 (λk=>T K k (λd h=>nS K a d h (i::b) (can K a j4 c d h)) j f) ()):=by simp only[can,a6n,false_implies,implies_true,true_and,lU,c3,Bv]
def T9 {a:Option Nat}:Def K ⟨a,e3,none⟩ j=G K e3 j U.emp (λ_ _=>True):=rfl
def Ta:rT K ⟨some e,e3,none⟩ j f=G K e3 j f (λa _=>a=j e):=rfl
def Tb {a:cC (λ_:Nat=>True)}:iY f (c3 (λ_=>True) a)=True:=by simp[iY,c3]
def Tc {a:c6}{b:List c6}:nth (a::b) 0=a:=rfl
def Td {b:c6}{a:List c6}:nth (b::a) (e+1)=nth a e:=rfl
def Te {a:Option Nat}:T K ⟨a,e3,none⟩ j4 j f=G K e3 j f (λb c=>j4 (dm j a b) c):=rfl
def Tf {a:Option Nat}:T K ⟨a,e3,some (e,I)⟩ j4 j f=hM (j e) I (cw (G K e3 j f (λb c=>j4 (dm j a b) c)) ()) (cw (j4 (dm j a (.aL [])) f) ()):=rfl
def Tg:dm j (some i) n e=if e=i then n else j e:=rfl
def Th:dm j none n e=j e:=rfl
def dE (a:Option R) (b:R->Prop):Prop:=
 match a with
 |some a=>b a
 |none=>False
def kv [Decidable Q] {a:R->Prop}:dE (if Q then some n else none) a=(Q/\a n):=by split<;>simp[dE, *]
def Ti {a:R->Prop}:dE (some n) a=a n:=rfl
def mP (a:R) (b:R->Prop):Prop:=b a
def Tj {a:R->Prop}:mP n a=a n:=rfl
def p1 (a:Option (List R)) (b:List R->Prop):Prop:=
 match a with
 |some a=>b a
 |none=>False
def Tk {a:List R->Prop}:p1 (some g) a=a g:=rfl
section
def Tl:G K (.fb Z) j f s=mP (aj j Z) (c3 (λa=>s a f) ()):=rfl
def tJ (a b c:R):Option R:=
 match a with
 | .v (.bool d)=>some (if d then b else c)
 | _=>none
def Tm:tJ (.v (.bool true)) n b3=some n:=rfl
def Tn:tJ (.v (.bool false)) b3 n=some n:=rfl
def To {a:Operand}:G K (.pick e9 Z a) j f s=dE (tJ (aj j e9) (aj j Z) (aj j a)) (c3 (λb=>s b f) ()):=by simp only[G,tJ];generalize aj j e9=Z;cases Z<;>first|rfl|(rename_i v;cases v<;>rfl)
def Tp:G K (.alloc b2 g) j f s=iY f (c3 (λa=>s (.ptr a 0) (f.set a (.cells g))) ()):=rfl
def Tq:G K (.box b2 Z) j f s=mP (aj j Z) (c3 (λa=>gV (0<a.cells.length) (cw (iY f (c3 (λb=>s (.ptr b 0) (f.set b (.cells a.cells))) ())) ())) ()):=rfl
def Tr:G K (.kh b2 Z) j f s=mP (aj j Z) (c3 (λa=>gV (0<a.cells.length) (cw (iY f (c3 (λb=>s (.ptr b 0) (f.set b (.ro a.cells))) ())) ())) ()):=rfl
def dq (b:Bool) (a:Nat) (c:U) (d:R):Option R:=
 match d with
 | .ptr h off=>match c.read h with
  |some cs=>if off+a<=cs.length then some (aY b a (cs.drop off))else none
  |none=>none
 | .bV cs=>if a<=cs.length then some (aY b a cs)else none
 | _=>none
def p2 (d:Bool) (b c:Nat) (a:Option (List R)):Option R:=
 match a with
 |some a=>if c+b<=a.length then some (aY d b (a.drop c))else none
 |none=>none
def Ts:dq I e f (.ptr i v)=p2 I e v (f.read i):=rfl
def Bw (a:i+e<=g.length):p2 I e i (some g)=some (aY I e (g.drop i)):=by simp[p2,a]
def Tt (a:e<=g.length):dq I e f (.bV g)=some (aY I e g):=by simp[dq,a]
def Tu:G K (.load I e Z) j f s=dE (dq I e f (aj j Z)) (c3 (λa=>s a f) ()):=by
 simp only[G,dq];generalize aj j Z=b;cases b<;>first
  |rfl
  |(simp only[kv,jI];done)
  |(rename_i c h;simp only[];generalize f.read c=d;cases d<;>first|rfl|(simp only[kv,jI]))
def eo (a:U) (b:Nat):Option (List R):=
 match a b with
 |some (.cells cs)=>some cs
 | _=>none
def wE (a:U) (b:Nat) (k:R) (c:List R) (o:U->Prop):Prop:=
 match k with
 | .ptr d off=>p1 (eo a d) λh=>gV (c.length=b/\off+b<=h.length) (o (a.set d (.cells (putAt h off c))))
 | _=>False
def Tv {a:U->Prop}:wE f e (.ptr i v) g a=p1 (eo f i) (c3 (λb=>gV (g.length=e/\v+e<=b.length) (cw (p1 (some (putAt b v g)) (c3 (λc=>a (f.set i (.cells c))) ())) ())) ()):=rfl
def Tw:G K (.store e Z e9) j f s=wE f e (aj j Z) (aj j e9).cells (c3 (λa=>s (.aL []) a) ()):=by
 simp only[G,wE];generalize aj j Z=b;cases b<;>first
  |rfl
  |(
    rename_i c h;simp only[eo];cases f c with
    |none=>rfl
    |some d=>cases d with
     |cells cs=>exact propext and_assoc.symm
     | _=>rfl)
def rU (a:R):Option R:=
 match a with
 | .ptr b off=>some (.ptr b off)
 | .bV cs=>some (.bV cs)
 | .bG c cB cs=>some (.bG c cB cs)
 | _=>none
def Tx:rU (.ptr e i)=some (.ptr e i):=rfl
def Ty:rU (.bV g)=some (.bV g):=rfl
def Tz:G K (.q0 Z) j f s=dE (rU (aj j Z)) (c3 (λa=>s a f) ()):=by simp only[G,rU];generalize aj j Z=b;cases b<;>first|rfl|(rename_i v;cases v<;>rfl)
def rV (a:Nat) (b:R):Option R:=
 match b with
 | .ptr c d=>some (.ptr c (d+a))
 | .bV cs=>some (.bV (cs.drop a))
 | _=>none
def TA:rV e (.ptr i v)=some (.ptr i (v+e)):=rfl
def TB:rV e (.bV g)=some (.bV (g.drop e)):=rfl
def TC:G K (.kY e Z) j f s=dE (rV e (aj j Z)) (c3 (λa=>s a f) ()):=by simp only[G,rV];generalize aj j Z=b;cases b<;>first|rfl|(rename_i v;cases v<;>rfl)
def lV (b c:Nat) (d h:R):Option R:=
 match d,h with
 | .ptr k o,.v (.int _ a)=>if 0<=a/\a<c then some (.ptr k (o+a.toNat*b))else none
 | .bV cs,.v (.int _ a)=>if 0<=a/\a<c then some (.bV (cs.drop (a.toNat*b)))else none
 | _,_=>none
def rW (a:0<=b1) (b:b1<i):lV e i (.ptr v M) (.v (.int e2 b1))=some (.ptr v (M+b1.toNat*e)):=by simp[lV,a,b]
def TD (a:0<=b1) (b:b1<i):lV e i (.bV g) (.v (.int e2 b1))=some (.bV (g.drop (b1.toNat*e))):=by simp[lV,a,b]
def TE:G K (.q1 e i Z e9) j f s=dE (lV e i (aj j Z) (aj j e9)) (c3 (λa=>s a f) ()):=by
 simp only[G,lV];generalize aj j Z=b;generalize aj j e9=c;cases b<;>first
  |rfl
  |(cases c<;>first
    |rfl
    |(rename_i d;cases d<;>first
      |rfl
      |(simp only[kv,jI];exact propext and_assoc.symm)))
def eC (b:Nat) (a:Option R):Option R:=
 match a with
 |some a=>if a.cells.length=b then some (.bV a.cells)else none
 |none=>none
def iw (a:n.cells.length=e):eC e (some n)=some (.bV n.cells):=by simp[eC,a]
def cR (b:Nat) (h k:R):Option R:=
 match h,k with
 | .J xs _,.v (.int _ a)=>if 0<=a then eC b xs[a.toNat]? else none
 | .bw c off len _ d,.v (.int _ a)=>if d=b/\0<=a/\a<len then some (.ptr c (off+a.toNat*b))else none
 | .al c len _ d,.v (.int _ a)=>if d=b/\0<=a/\a<len then some (.ptr c (a.toNat*b))else none
 | _,_=>none
def hl (a:0<=b1):cR e (.J g N) (.v (.int e2 b1))=eC e g[b1.toNat]? :=by simp[cR,a]
theorem iZ (a:0<=b1) (b:b1<v):cR e (.al i v M e) (.v (.int e2 b1))=some (.ptr i (b1.toNat*e)):=by simp[cR,a,b]
theorem rX (a:0<=b1) (b:b1<M):cR e (.bw i v M c0 e) (.v (.int e2 b1))=some (.ptr i (v+b1.toNat*e)):=by simp[cR,a,b]
theorem TF:G K (.dL e Z e9) j f s=dE (cR e (aj j Z) (aj j e9)) (c3 (λc=>s c f) ()):=by
 simp only[G,cR];generalize aj j Z=d;generalize aj j e9=h;cases d<;>first
  |rfl
  |(cases h<;>first
    |rfl
    |(rename_i k;cases k<;>first
      |rfl
      |(
        simp only[kv,jI];apply propext;constructor
        .rintro⟨o,p,r,x⟩;exact⟨⟨o,p,r⟩,x⟩
        simp_all)
      |(
        rename_i y C D a;by_cases b:0<=a
        .simp only[b,true_and,if_true,eC];generalize y[a.toNat]? =z;cases z<;>first|rfl|(simp only[kv,jI])
        .simp[b,dE])))
def Bx (c:Bool) (a b:Nat) (d:R):Option R:=
 match d with
 | .agg cs=>if a+b<=cs.length then some (aY c b (cs.drop a))else none
 | _=>none
def TG (a:e+i<=g.length):Bx I e i (.agg g)=some (aY I i (g.drop e)):=by simp[Bx,a]
def tK (c:Bool) (a d:Nat) (h k:R):Option R:=
 match h,k with
 | .agg cs,.v (.int _ b)=>if 0<=b/\b<d/\b.toNat*a+a<=cs.length then some (aY c a (cs.drop (b.toNat*a)))else none
 | _,_=>none
def TH (a:0<=b1) (b:b1<i) (c:b1.toNat*e+e<=g.length):tK I e i (.agg g) (.v (.int e2 b1))=some (aY I e (g.drop (b1.toNat*e))):=by simp[tK,a,b,c]
theorem TI:G K (.q2 I e i Z e9) j f s=dE (tK I e i (aj j Z) (aj j e9)) (c3 (λa=>s a f) ()):=by
 simp only[G,tK];generalize aj j Z=b;generalize aj j e9=c;cases b<;>first
  |rfl
  |(cases c<;>first
    |rfl
    |(rename_i d;cases d<;>first
      |rfl
      |(simp only[kv,jI];grind)))
def p3 (c:Fr) (a:List R):List (Nat×Nat×Operand)->(List R->Prop)->Prop
 | [],b=>b a
 |(off,cq,h)::k,b=>mP (aj c h) λd=>gV (d.cells.length=cq/\off+cq<=a.length) (p1 (some (putAt a off d.cells)) λo=>p3 c o k b)
def TJ {a:List R->Prop}:p3 j g [] a=a g:=rfl
def TK {a:List (Nat×Nat×Operand)}{b:List R->Prop}:p3 j g ((e,i,Z)::a) b=mP (aj j Z) (c3 (λc=>gV (c.cells.length=i/\e+i<=g.length) (cw (p1 (some (putAt g e c.cells)) (c3 (λd=>p3 j d a b) ())) ())) ()):=rfl
def By {b:List R->Prop}: ∀(c:List (Nat×Nat×Operand)) (a:List R),ko j a c b=p3 j a c b
 | [],_=>rfl
 |(off,cq,h)::d,a=>by
  simp only[ko,p3,mP,gV,p1,By d];exact propext and_assoc.symm
def TL {a:List (Nat×Nat×Operand)}:G K (.lJ g a) j f s=p3 j g a λb=>s (.agg b) f:=By a g
def ff (b:R):Option R:=
 match b with
 | .J xs _=>some (.v (.int .i64 xs.length))
 | .bw _ _ a _ _=>some (.v (.int .i64 a))
 | .al _ a _ _=>some (.v (.int .i64 a))
 | _=>none
def TM:ff (.al i e v M)=some (.v (.int .i64 e)):=rfl
def TN:ff (.J g N)=some (.v (.int .i64 g.length)):=rfl
def TO:ff (.bw i v e M c0)=some (.v (.int .i64 e)):=rfl
def TP:G K (.len Z) j f s=dE (ff (aj j Z)) (c3 (λa=>s a f) ()):=by simp only[G,ff];generalize aj j Z=b;cases b<;>rfl
def ja (c:BinOp) (a b:R):Option R:=
 match a,b with
 | .v a,.v b=>(bn c a b).map .v
 | _,_=>none
theorem rY {a:BinOp}{b:Value}:ja a (.v e4) (.v b)=(bn a e4 b).map .v:=rfl
def TQ {a:BinOp}:G K (.bin a Z e9) j f s=dE (ja a (aj j Z) (aj j e9)) (c3 (λb=>s b f) ()):=by
 simp only[G,ja];generalize aj j Z=c;generalize aj j e9=d;cases c<;>first
  |rfl
  |(cases d<;>first
    |rfl
    |(rename_i v h;simp only[];generalize bn a v h=k;cases k<;>rfl))
def wF (b:UnOp) (a:R):Option R:=
 match a with
 | .v a=>(nM b a).map .v
 | _=>none
def TR {a:UnOp}:wF a (.v e4)=(nM a e4).map .v:=rfl
def TS {a:UnOp}:G K (.un a Z) j f s=dE (wF a (aj j Z)) (c3 (λb=>s b f) ()):=by simp only[G,wF];generalize aj j Z=c;cases c<;>first|rfl|(rename_i v;simp only[];generalize nM a v=d;cases d<;>rfl)
def wG (a:IntKind) (b:R):Option R:=
 match b with
 | .v (.int _ c)=>some (.v (.int a (a.wrap c)))
 | _=>none
def TT {a:IntKind}:wG e2 (.v (.int a b1))=some (.v (.int e2 (e2.wrap b1))):=rfl
def TU:G K (.iQ e2 Z) j f s=dE (wG e2 (aj j Z)) (c3 (λa=>s a f) ()):=by simp only[G,wG];generalize aj j Z=b;cases b<;>first|rfl|(rename_i v;cases v<;>rfl)
def nT (a:Ctx) (b:FuncId) (c:List R) (d:U) (h:R->U->Prop):Prop:=hK a.p b c d h (up a.k)
def TV {a:List Operand}:G K (.fY b4 a) j f s=nT K b4 (a.map (aj j)) f (bO s ()):=rfl
def wH (a:Nat) (b:R):Option R:=
 match b with
 | .aL c=>c[a]?
 | _=>none
def TW:wH e (.aL g)=g[e]? :=rfl
def TX:G K (.ext Z e) j f s=dE (wH e (aj j Z)) (c3 (λa=>s a f) ()):=by simp only[G,wH];generalize aj j Z=b;cases b<;>first|rfl|(rename_i c;cases c[e]? <;>rfl)
def TY (c:Bool) (a b:R):Option R:=
 match a,b with
 | .v (.bool a),.v (.bool b)=>some (.v (.bool (xor c (a==b))))
 | _,_=>none
def TZ {a b:Bool}:TY I (.v (.bool a)) (.v (.bool b))=some (.v (.bool (xor I (a==b)))):=rfl
def rZ (a:Bool) (b c:R):Option R:=
 match b,c with
 | .ptr _ _,.v (.pointer none)=>some (.v (.bool a))
 | .bV _,.v (.pointer none)=>some (.v (.bool a))
 | .v (.pointer none),.v (.pointer none)=>some (.v (.bool (!a)))
 | _,_=>none
def U0:rZ I (.ptr e i) (.v (.pointer none))=some (.v (.bool I)):=rfl
def U1:rZ I (.bV g) (.v (.pointer none))=some (.v (.bool I)):=rfl
def U2:rZ I (.v (.pointer none)) (.v (.pointer none))=some (.v (.bool (!I))):=rfl
def U3:G K (.q4 I Z e9) j f s=dE (rZ I (aj j Z) (aj j e9)) (c3 (λd=>s d f) ()):=by
 simp only[G,rZ];generalize aj j Z=h;generalize aj j e9=c;cases h<;>first
  |rfl
  |(rename_i v;cases v<;>first
    |rfl
    |(cases c<;>first|rfl|(rename_i b;cases b<;>first|rfl|(rename_i a;cases a<;>rfl)))
    |(rename_i a;cases a<;>first|rfl|(cases c<;>first|rfl|(rename_i b;cases b<;>first|rfl|(rename_i a;cases a<;>rfl)))))
  |(cases c<;>first|rfl|(rename_i b;cases b<;>first|rfl|(rename_i a;cases a<;>rfl)))
def intOf (a:R):Option Int:=
 match a with
 | .v (.int _ b)=>some b
 | _=>none
end
def p4 (a:List (Nat×Option (Bool×Nat))) (b:R->U->Prop):gm->Fr->U->Prop:=qi ⟨0,0,.skip,a⟩ b
def bf (c:m.follows .mixedOrders=true) {a:List (Nat×Option (Bool×Nat))} (d:dv m M i=some ⟨e,v,h7,a⟩) (h:g.length<=e)
  (k:bT (Ctx.of m) h7 (p4 a s) (lS g) f):AC m i g f s:=by
 refine IZ c d h ?_;have b:qi ⟨e,v,h7,a⟩ s=p4 a s:=by funext b j f;cases b<;>rfl
 rw[b];exact k
def U4:lS g e=g.getD e (.aL []):=rfl
def U5 {d:ao}:qi d s .ret j f=dE (iW j f d.results) λc=> ∃a,a.sub f/\s c a:=by
 apply propext;simp only[qi];constructor
 .rintro⟨c,a,b,h,k⟩;rw[b];exact⟨a,h,k⟩
 .intro b;cases o:iW j f d.results with
  |none=>rw[o]at b;exact b.elim
  |some c=>rw[o]at b;obtain⟨a,h,k⟩:=b;exact⟨c,a,rfl,h,k⟩
def U6 {a:List (Nat×Option (Bool×Nat))}:p4 a s .ret j f=dE (iW j f a) (c3 (λc=> ∃b,b.sub f/\s c b) ()):=U5
def U7 {a:List (Nat×Option (Bool×Nat))}:p4 a s .norm j f=p4 a s .ret j f:=rfl
def U8:iW j f []=some (.aL []):=rfl
def U9 {a:Nat×Option (Bool×Nat)}:iW j f [a]=ga j f a:=by simp only[iW,fu];cases ga j f a<;>rfl
def Ua:ga j f (e,none)=some (j e):=rfl
def wI (a:Bool) (b:Nat) (c:U) (d:R):Option R:=
 match d with
 | .ptr h off=>p2 a b off (c.read h)
 | _=>none
def Ub:wI I e f (.ptr i v)=p2 I e v (f.read i):=rfl
theorem Uc:ga j f (e,some (I,i))=wI I i f (j e):=by grind[ga,wI,p2]
def U.tL:(f.set i Y) e=if e=i then some Y else f e:=rfl
def U.Bz:(f.set e (.cells g)).read e=some g:=by simp[U.read,U.set]
def U.Ud:(f.set e (.ro g)).read e=some g:=by simp[U.read,U.set]
def U.Ue (a:e≠i):(f.set i Y).read e=f.read e:=by simp[U.read,U.set,a]
def U.Uf:eo (f.set e (.cells g)) e=some g:=by simp[eo,U.set]
def U.Ug (a:e≠i):eo (f.set i Y) e=eo f e:=by simp[eo,U.set,a]
def U.af (a:f e=some (.cells g)):f.read e=some g:=by simp[U.read,a]
def U.Uh (a:f e=some (.ro g)):f.read e=some g:=by simp[U.read,a]
def U.aJ (a:f e=some (.cells g)):eo f e=some g:=by simp[eo,a]
theorem U.gM (a:(f.set i Y) e=none):e≠i/\f e=none:=by grind[U.set]
def U.BA {b a:bp} (c:i≠e):((f.set e b).set i a).set e Y=((f.set e Y).set i a):=by rw[U.ef _ c,U.set_set]
def U.BB {c a b:bp} (d:i≠e) (h:v≠e):(((f.set e c).set i a).set v b).set e Y=(((f.set e Y).set i a).set v b):=by rw[U.ef _ h,BA d]
def U.BC {d a b c:bp} (h:i≠e) (k:v≠e) (o:M≠e):((((f.set e d).set i a).set v b).set M c).set e Y=((((f.set e Y).set i a).set v b).set M c):=by rw[U.ef _ o,BB h k]
def U.BD {h a b c d:bp} (k:i≠e) (o:v≠e) (p:M≠e) (r:c0≠e):(((((f.set e h).set i a).set v b).set M c).set c0 d).set e Y=(((((f.set e Y).set i a).set v b).set M c).set c0 d):=by rw[U.ef _ r,BC k o p]
def U.BE {k a b c d h:bp} (o:i≠e) (p:v≠e) (r:M≠e) (x:c0≠e) (y:j0≠e):((((((f.set e k).set i a).set v b).set M c).set c0 d).set j0 h).set e Y=((((((f.set e Y).set i a).set v b).set M c).set c0 d).set j0 h):=by rw[U.ef _ y,BD o p r x]
def U.BG {a:Nat}{p b c d h k o:bp} (r:i≠e) (x:v≠e) (y:M≠e) (z:c0≠e) (C:j0≠e) (D:a≠e):(((((((f.set e p).set i b).set v c).set M d).set c0 h).set j0 k).set a o).set e Y=(((((((f.set e Y).set i b).set v c).set M d).set c0 h).set j0 k).set a o):=by rw[U.ef _ D,BE r x y z C]
def U.BH {a b:Nat}{x c d h k o p r:bp} (y:i≠e) (z:v≠e) (C:M≠e) (D:c0≠e) (E:j0≠e) (F:a≠e) (G:b≠e):((((((((f.set e x).set i c).set v d).set M h).set c0 k).set j0 o).set a p).set b r).set e Y=((((((((f.set e Y).set i c).set v d).set M h).set c0 k).set j0 o).set a p).set b r):=by rw[U.ef _ G,BG y z C D E F]
def U.Ui {a b c:Nat}{z d h k o p r x y:bp} (C:i≠e) (D:v≠e) (E:M≠e) (F:c0≠e) (G:j0≠e) (L:a≠e) (P:b≠e) (S:c≠e):(((((((((f.set e z).set i d).set v h).set M k).set c0 o).set j0 p).set a r).set b x).set c y).set e Y=(((((((((f.set e Y).set i d).set v h).set M k).set c0 o).set j0 p).set a r).set b x).set c y):=by rw[U.ef _ S,BH C D E F G L P]
def aP {b:cC j5} (c: ∀a,f a=none->j5 a):iY f (c3 j5 b):=c
def cu {h:cC (bT K (.loop h7) e8 j f)} (a:Fr->U->Prop) (b:Fr->U->Nat) (k:a j f) (o: ∀j f,a j f->bT K h7 (eR (λc d=>a c d/\b c d<b j f) e8) j f):
  cw (bT K (.loop h7) e8 j f) h:=⟨a,b,k,o⟩
theorem ai {c:cC s} (d:AC K.p b4 g f a7) (h: ∀a b,a7 a b->s a b):nT K b4 g f (bO s c):=(d.mono h).p
theorem U.a1:f.sub f:=λ_ _ a=>a
theorem U.ae (a:t.sub f) (c:t e=none):t.sub (f.set e Y):=λd h b=>by
 rw[U.tL];split;simp_all
 .exact a _ _ b
theorem U.lg (b:t.sub f):(t.set e Y).sub (f.set e Y):=λd h a=>by
 rw[U.tL]at a|-;split;simp_all
 .rename_i c;rw[if_neg c]at a;exact b _ _ a
end
theorem wrap_i64 (c: -9223372036854775808<=b1) (d:b1<9223372036854775808):IntKind.i64.wrap b1=b1:=by have a:((2:Int)^IntKind.i64.bits)=18446744073709551616:=rfl;have b:((2:Int)^(IntKind.i64.bits - 1))=9223372036854775808:=rfl;simp only[IntKind.wrap,a,b,IntKind.signed,a6m,decide_eq_true_eq];split<;>omega
theorem kx:IntKind.u64.wrap b1=b1%18446744073709551616:=by have a:((2:Int)^IntKind.u64.bits)=18446744073709551616:=rfl;simp[IntKind.wrap,a,IntKind.signed]
def s0:IntKind.u32.wrap b1=b1%4294967296:=by have a:((2:Int)^IntKind.u32.bits)=4294967296:=rfl;simp[IntKind.wrap,a,IntKind.signed]
def tM:IntKind.u8.wrap b1=b1%256:=by have a:((2:Int)^IntKind.u8.bits)=256:=rfl;simp[IntKind.wrap,a,IntKind.signed]
theorem wrap_u64 (a:0<=b1) (b:b1<18446744073709551616):IntKind.u64.wrap b1=b1:=by rw[kx];omega
def wrap_u32 (a:0<=b1) (b:b1<4294967296):IntKind.u32.wrap b1=b1:=by rw[s0];omega
theorem wrap_u8 (a:0<=b1) (b:b1<256):IntKind.u8.wrap b1=b1:=by rw[tM];omega
def Uj (a:UInt8):IntKind.u32.wrap (a.toNat:Int)=(a.toUInt32.toNat:Int):=by have:=a.toNat_lt;rw[wrap_u32 a9p a9p];simp
def Uk (a:UInt8):IntKind.u64.wrap (a.toNat:Int)=(a.toUInt64.toNat:Int):=by have:=a.toNat_lt;rw[wrap_u64 a9p a9p];simp
def Ul (a:UInt32):IntKind.u8.wrap (a.toNat:Int)=(a.toUInt8.toNat:Int):=by rw[tM];simp
def Um (a:UInt64):IntKind.u8.wrap (a.toNat:Int)=(a.toUInt8.toNat:Int):=by rw[tM];simp
section
variable (a b:Int)
def Un:bn .add (.int .i64 a) (.int .i64 b)=some (.int .i64 (IntKind.i64.wrap (a+b))):=rfl
def Uo:bn .sub (.int .i64 a) (.int .i64 b)=some (.int .i64 (IntKind.i64.wrap (a - b))):=rfl
def Up:bn .mul (.int .i64 a) (.int .i64 b)=some (.int .i64 (IntKind.i64.wrap (a*b))):=rfl
def Uq (c:b≠0):bn .quo (.int .i64 a) (.int .i64 b)=some (.int .i64 (IntKind.i64.wrap (a.tdiv b))):=by simp[bn,eK,gj,c]
def Ur (c:b≠0):bn .rem (.int .i64 a) (.int .i64 b)=some (.int .i64 (a.tmod b)):=by simp[bn,eK,gj,c]
variable (k:IntKind)
def Us:bn .eql (.int k a) (.int k b)=some (.bool (decide (a=b))):=by simp[bn,eK,gj]
def Ut:bn .neq (.int k a) (.int k b)=some (.bool (decide (a≠b))):=by simp[bn,eK,gj]
def Uu:bn .lss (.int k a) (.int k b)=some (.bool (decide (a<b))):=by simp[bn,eK,gj]
def Uv:bn .leq (.int k a) (.int k b)=some (.bool (decide (a<=b))):=by simp[bn,eK,gj]
def Uw:bn .gtr (.int k a) (.int k b)=some (.bool (decide (b<a))):=by simp[bn,eK,gj]
def Ux:bn .geq (.int k a) (.int k b)=some (.bool (decide (b<=a))):=by simp[bn,eK,gj]
def Uy (c:Bool):nM .not (.bool c)=some (.bool !c):=rfl
end
def Uz (a b:Int):bn .add (.int .u64 a) (.int .u64 b)=some (.int .u64 (IntKind.u64.wrap (a+b))):=rfl
def UA (a b:Int):bn .sub (.int .u64 a) (.int .u64 b)=some (.int .u64 (IntKind.u64.wrap (a - b))):=rfl
def UB (a b:Int):bn .mul (.int .u64 a) (.int .u64 b)=some (.int .u64 (IntKind.u64.wrap (a*b))):=rfl
theorem s3 (c:Nat) (d:IntKind) (b:Int) (k:0<=b) (o:b<64):bn .shr (.int .u64 c) (.int d b)=some (.int .u64 (c>>>b.toNat:Nat)):=by
 obtain⟨a,rfl⟩: ∃a:Nat,b=a:=⟨b.toNat,a9p⟩;have h:min a IntKind.u64.bits=a:=by simp[IntKind.bits];omega
 have p:(2:Int)^a=((2^a:Nat):Int):=a9q;simp only[bn,eK,if_true,nL,if_neg (show¬(a:Int)<0 by omega),a5g,h,a5C];grind
def ix (a:Nat):IntKind.u8.wrap (a:Int)=((UInt8.ofNat a).toNat:Int):=by rw[tM];simp
variable{B:List UInt8}
def UC (b:0<=b1) (a:b1.toNat<B.length):cR 1 (.J (B.map ak) N) (.v (.int e2 b1))=some (.bV [.v (.int .u8 (B.getD b1.toNat 0).toNat)]):=by
 rw[hl b,a5j,a4H a];have:B.getD b1.toNat 0=B[b1.toNat]:=by simp[List.getD,a]
 rw[this];rfl
def UD (a:Decidable True): @decide True a=true:=a9q
def UE (a:Decidable False): @decide False a=false:=a9q
def BI:aY true e g= .agg (g.take e):=rfl
def BJ:R.cells (.J g N)= [.J g N]:=rfl
def BK:R.cells (.v e4)= [.v e4]:=rfl
def BL:R.cells (.ptr e i)= [.ptr e i]:=rfl
def BM:R.cells (.bV g)= [.bV g]:=rfl
def BN:R.cells (.iface b2 n)= [.iface b2 n]:=rfl
def hN:R.cells (.agg g)=g:=rfl
theorem ql (a:g.length=A.length):putAt A 0 g=g:=by simp[putAt,a]
def UF:aY false 1 (n::g)=n:=rfl
section
variable (x y:UInt32)
def UG:bn .add (.int .u32 x.toNat) (.int .u32 y.toNat)=some (.int .u32 (x+y).toNat):=by simp[bn,eK,gj,s0,UInt32.toNat_add]
def BO:bn .sub (.int .u32 x.toNat) (.int .u32 y.toNat)=some (.int .u32 (x - y).toNat):=by have:=x.toNat_lt;have:=y.toNat_lt;simp only[bn,eK,gj,s0,UInt32.toNat_sub];simp;omega
def BP:bn .mul (.int .u32 x.toNat) (.int .u32 y.toNat)=some (.int .u32 (x*y).toNat):=by simp[bn,eK,gj,s0,UInt32.toNat_mul]
theorem qm (a:Nat) (b:a<4294967296):IntKind.u32.wrap (a:Int)=a:=wrap_u32 a9p a9p
def ofInt_u32:BitVec.ofInt 32 (x.toNat:Int)=x.toBitVec:=by simp
def UH:bn .and (.int .u32 x.toNat) (.int .u32 y.toNat)=some (.int .u32 (x&&&y).toNat):=by have a:bn .and (.int .u32 x.toNat) (.int .u32 y.toNat)=some (.int .u32 (IntKind.u32.wrap (BitVec.ofInt 32 (x.toNat:Int)&&&BitVec.ofInt 32 (y.toNat:Int)).toNat)):=rfl;rw[a,ofInt_u32,ofInt_u32,qm _ (a8P _)];rfl
def UI:bn .or (.int .u32 x.toNat) (.int .u32 y.toNat)=some (.int .u32 (x|||y).toNat):=by have a:bn .or (.int .u32 x.toNat) (.int .u32 y.toNat)=some (.int .u32 (IntKind.u32.wrap (BitVec.ofInt 32 (x.toNat:Int)|||BitVec.ofInt 32 (y.toNat:Int)).toNat)):=rfl;rw[a,ofInt_u32,ofInt_u32,qm _ (a8P _)];rfl
def UJ:bn .xor (.int .u32 x.toNat) (.int .u32 y.toNat)=some (.int .u32 (x^^^y).toNat):=by have a:bn .xor (.int .u32 x.toNat) (.int .u32 y.toNat)=some (.int .u32 (IntKind.u32.wrap (BitVec.ofInt 32 (x.toNat:Int)^^^BitVec.ofInt 32 (y.toNat:Int)).toNat)):=rfl;rw[a,ofInt_u32,ofInt_u32,qm _ (a8P _)];rfl
def UK:nM .xor (.int .u32 x.toNat)=some (.int .u32 (~~~x).toNat):=by
 have a:nM .xor (.int .u32 x.toNat)=some (.int .u32 (IntKind.u32.wrap (BitVec.ofInt 32 4294967295^^^BitVec.ofInt 32 (x.toNat:Int)).toNat)):=rfl;rw[a,ofInt_u32,qm _ (a8P _)];have:(BitVec.ofInt 32 4294967295^^^x.toBitVec)= ~~~x.toBitVec:=by rw[BitVec.not_def];rfl
 rw[this];rfl
theorem UL (c:IntKind) (a:Int) (h:0<=a) (k:a<32):bn .shl (.int .u32 x.toNat) (.int c a)=some (.int .u32 (x<<<UInt32.ofNat a.toNat).toNat):=by
 obtain⟨b,rfl⟩: ∃b:Nat,a=b:=⟨a.toNat,a9p⟩;have hm:b<32:=a9p;have d:min b IntKind.u32.bits=b:=by simp[IntKind.bits];omega
 simp only[bn,eK,if_true,nL,if_neg (show¬(b:Int)<0 by omega),a5g,d,s0,UInt32.toNat_shiftLeft,UInt32.toNat_ofNat',a7b];grind
theorem UM (c:IntKind) (a:Int) (h:0<=a) (k:a<32):bn .shr (.int .u32 x.toNat) (.int c a)=some (.int .u32 (x>>>UInt32.ofNat a.toNat).toNat):=by
 obtain⟨b,rfl⟩: ∃b:Nat,a=b:=⟨a.toNat,a9p⟩;have hm:b<32:=a9p;have d:min b IntKind.u32.bits=b:=by simp[IntKind.bits];omega
 simp only[bn,eK,if_true,nL,if_neg (show¬(b:Int)<0 by omega),a5g,d,UInt32.toNat_shiftRight,UInt32.toNat_ofNat',a5C];grind
end
def aN (a:Nat) (b:List R):Prop:= ∀c∈b,c.cells.length=a
def UN:aN e []=True:=by simp[aN]
def BQ:aN e (n::g)=(n.cells.length=e/\aN e g):=by simp[aN]
theorem UO:aN e (g++A)=(aN e g/\aN e A):=by grind[aN]
theorem tN:aN 1 (B.map ak)=True:=by simp[aN,ak,R.cells]
def bh (a b:U) (h:Nat) (c:List R) (k:Own):Prop:=
 a.sub b/\match k with
  | .buf d o=>a d=none/\b d=some (.buf h c.length o)
  | .any=>False
  | _=>c= []
theorem U.aq (c:f.sub t) (d:t.sub e7):f.sub e7:=λa b h=>d a b (c a b h)
def U.bF (b:f.sub t) (a:t e=none):f e=none:=by
 cases bP:f e with
 |none=>rfl
 |some c=>rw[b e c bP]at a;cases a
theorem bh.nil {s0:U}(a:s0.sub f) {b:Nat}:bh s0 f b [] .nil:=⟨a,rfl⟩
def bh.zero (a:t.sub f) {b:Nat}:bh t f b [] .zero:=⟨a,rfl⟩
def bh.sub {a:Nat}{b:List R}{c:Own} (d:bh t f a b c):t.sub f:=d.1
theorem bh.base {o:Own} (b:bh t f e g o) (c:e7.sub t):bh e7 f e g o:=by
 refine⟨U.aq c b.1,?_⟩;have a:=b.2;cases o with
 |buf d h=>exact⟨U.bF c a.1,a.2⟩
 | _=>exact a
def bh.mono (b:bh t f e g N) (c:f.sub e7):bh t e7 e g N:=by
 refine⟨U.aq b.1 c,?_⟩;have a:=b.2;cases N with
 |buf d h=>exact⟨a.1,c _ _ a.2⟩
 | _=>exact a
theorem bh.set {b l:Nat}{c:List R}{a:Own}{ob o:bp} (d:bh t f b c a) (h:t l=some o):bh (t.set l ob) (f.set l ob) b c a:=by
 refine⟨U.lg d.1,?_⟩;have k:=d.2;cases a with
 |buf p r=>
  have x:p≠l:=by rintro rfl;rw[k.1]at h;cases h
  grind[U.an]
 | _=>exact k
theorem bh.new {ob:bp} (a:bh t f i g N) (b:f e=none):bh (t.set e ob) (f.set e ob) i g N:=by
 refine⟨U.lg a.1,?_⟩;have c:=a.2;cases N with
 |buf d h=>
  have k:d≠e:=by rintro rfl;rw[c.2]at b;cases b
  grind[U.an]
 | _=>exact c
def lW (d x:Nat) (c:U) (y z:R) (k:R->U->Prop):Prop:=
 match y,z with
 | .J xs r,.J a _=>(∀o∈xs,o.cells.length=d)/\(∀o∈a,o.cells.length=d)/\(xs.length+a.length)*x<=140737488355328/\xs.length+a.length<=9223372036854775807/\
   match r with
   | .buf p C=>c p=some (.buf d xs.length C)/\ ∀b h,(b=p\/c b=none)->k (.J (xs++a) (.buf b h)) ((c.del p).set b (.buf d (xs.length+a.length) h))
   | .any=>False
   | _=>xs= []/\(if a= []then k (.J [] r) c else∀b h,c b=none->k (.J a (.buf b h)) (c.set b (.buf d a.length h)))
 | _,_=>False
def UP:G K (.app e i Z e9) j f s=lW e i f (aj j Z) (aj j e9) (bO s ()):=rfl
theorem dp {C:cC s} (a:bh t f e g N) (D:aN e g) (E:aN e A) (F:(g.length+A.length)*i<=140737488355328) (G:g.length+A.length<=9223372036854775807)
  (d: ∀p r,bh t r e (g++A) p->s (.J (g++A) p) r):lW e i f (.J g N) (.J A e5) (bO s C):=by
 have c:=a.2;refine⟨D,E,F,G,?_⟩;cases N with
 |any=>exact c.elim
 |nil=>
  obtain rfl:g= []:=c;refine⟨rfl,?_⟩;split
  .rename_i h;subst h;exact d _ _ ⟨a.1,rfl⟩
  .intro k x b;refine d _ _ ⟨U.ae a.1 (U.bF a.1 b),U.bF a.1 b,?_⟩;rw[U.ah];simp
 |zero=>
  obtain rfl:g= []:=c;refine⟨rfl,?_⟩;split
  .rename_i h;subst h;exact d _ _ ⟨a.1,rfl⟩
  .intro k x b;refine d _ _ ⟨U.ae a.1 (U.bF a.1 b),U.bF a.1 b,?_⟩;rw[U.ah];simp
 |buf L T=>
  refine⟨c.2,λk x b=>d _ _ ?_⟩;have y:t k=none:=by rcases b with rfl|b;exact c.1;exact U.bF a.1 b
  refine⟨U.ae (λz P o=> ?_) y,y,?_⟩
  .have S:z≠L:=by rintro rfl;rw[c.1]at o;cases o
   rw[U.eI _ S];exact a.1 z P o
  .rw[U.ah,a4J]
def jJ (d:Nat) (b:U) (a:List R) (h:R->U->Prop):Prop:=
 (∀k∈a,k.cells.length=d)/\(if a.length=0 then h (.J [] .zero) b else∀c,b c=none->h (.J a (.buf c a.length)) (b.set c (.buf d a.length a.length)))
def UQ {a:List Operand}:G K (.ki e a) j f s=jJ e f (a.map (aj j)) (bO s ()):=by simp only[G,jJ,bO,a4T]
def cI {k:cC s} (a:t.sub f) (o:aN e g) (b: ∀c d,bh t d e g c->s (.J g c) d):jJ e f g (bO s k):=by
 refine⟨o,?_⟩;split
 .rename_i p;obtain rfl:=a4N p;exact b _ _ ⟨a,rfl⟩
 .intro r h;exact b _ _ ⟨U.ae a (U.bF a h),U.bF a h,by rw[U.ah]⟩
def cz (a:Option R) (b:Nat):Option Int:=
 match a with
 |none=>some b
 |some c=>intOf c
def gb (a:Own) (b c:Option R):Own:=
 match b,c with
 |none,none=>a
 | _,_=> .any
def dN (c:Nat) (a:R) (d h:Option R):Option R:=
 match a with
 | .J xs p=>match cz d 0,cz h xs.length with
  |some a,some b=>if 0<=a/\a<=b/\b<=xs.length/\xs.all (λr=>decide (r.cells.length=c))then some (.J ((xs.take b.toNat).drop a.toNat) (gb p d h))else none
  | _,_=>none
 | .bw k off len cap o=>match cz d 0,cz h len with
  |some a,some b=>if o=c/\0<=a/\a<=b/\b<=len/\a<len then some (.bw k (off+a.toNat*c) (b.toNat - a.toNat) (cap - a.toNat) c)else none
  | _,_=>none
 | .al k len cap o=>match cz d 0,cz h len with
  |some a,some b=>if o=c/\0<=a/\a<=b/\b<=len/\(d.isSome=true->a<len)then some (q8 d.isSome k a.toNat b.toNat cap c)else none
  | _,_=>none
 | _=>none
theorem wJ (a:Option Operand) (b:Nat):df j a b=cz (a.map (aj j)) b:=by
 cases a with
 |none=>rfl
 |some a=>simp only[df,cz,a5M,intOf];split<;>simp_all
def UR (a b:Option Operand):vN N a b=gb N (a.map (aj j)) (b.map (aj j)):=by cases a<;>cases b<;>rfl
theorem US {a d:Option Operand}:G K (.oS e Z a d) j f s=dE (dN e (aj j Z) (a.map (aj j)) (d.map (aj j))) (c3 (λo=>s o f) ()):=by
 have p:a.isSome=(a.map (aj j)).isSome:=by cases a<;>rfl
 simp only[G,dN,wJ,UR (j:=j) a d,p];generalize aj j Z=r;generalize a.map (aj j)=h;generalize d.map (aj j)=k;cases r<;>try rfl
 .rename_i x D;simp only[];generalize cz h 0=b;generalize cz k x.length=c;cases b<;>cases c<;>try rfl
  simp only[kv,jI,a4W,decide_eq_true_eq];grind
 .rename_i y E len z C;simp only[];generalize cz h 0=b;generalize cz k len=c;cases b<;>cases c<;>try rfl
  simp only[kv,jI];grind
 .rename_i y len z C;simp only[];generalize cz h 0=b;generalize cz k len=c;cases b<;>cases c<;>try rfl
  simp only[kv,jI];grind
def UT (a:0<=b1) (b:b1<=v):dN e (.al i v M e) none (some (.v (.int e2 b1)))=some (.al i b1.toNat M e):=by simp[dN,cz,intOf,a,b,q8]
def UU (a:aN e g):dN e (.J g N) none none=some (.J g N):=by
 have:(g.all λb=>decide (b.cells.length=e))=true:=by simpa[aN] using a
 simp[dN,cz,gb,this]
theorem qn (a:0<=b1) (b:b1<=g.length) (c:aN e g):dN e (.J g N) (some (.v (.int e2 b1))) none=some (.J (g.drop b1.toNat) .any):=by
 have:(g.all λd=>decide (d.cells.length=e))=true:=by simpa[aN] using c
 simp[dN,cz,gb,intOf,this,a,b]
theorem nU (a:0<=b1) (b:b1<=g.length) (c:aN e g):dN e (.J g N) none (some (.v (.int e2 b1)))=some (.J (g.take b1.toNat) .any):=by grind[decide,aN,dN,cz,gb,intOf]
theorem BR {b:IntKind}{a:Int} (c:0<=b1) (d:b1<=a) (h:a<=g.length) (k:aN e g):dN e (.J g N) (some (.v (.int e2 b1))) (some (.v (.int b a)))=some (.J ((g.take a.toNat).drop b1.toNat) .any):=by grind[decide,aN,dN,cz,gb,intOf]
def wK (b:Bool) (a:List (Nat×c5)) (c d:R) (h:R->Prop):Prop:=
 match c,d with
 | .agg cs,.agg cB=>dB a cs/\dB a cB/\h (.v (.bool (xor b (peq (.agg cs) (.agg cB)))))
 | _,_=>False
variable{j3:List (Nat × c5)}
def UW:G K (.eqv I j3 Z e9) j f s=wK I j3 (aj j Z) (aj j e9) (c3 (λa=>s a f) ()):=rfl
def UX {a:R->Prop}:wK I j3 (.agg g) (.agg A) a=gV (dB j3 g/\dB j3 A) (cw (a (.v (.bool (xor I (peq (.agg g) (.agg A)))))) ()):=by simp only[wK,gV,cw];exact propext and_assoc.symm
def UY:(B.map ak).drop e=(B.drop e).map ak:=by rw[a7u]
def UZ:(B.map ak).take e=(B.take e).map ak:=by rw[a7I]
def bh.V0 (a:t.sub f):bh t f 1 (([]:List UInt8).map ak) .nil:=⟨a,rfl⟩
theorem mQ {a:List UInt8}{d:cC s} (h:bh t f 1 (B.map ak) N) (k:B.length+a.length<=140737488355328)
  (o: ∀b c,bh t c 1 ((B++a).map ak) b->s (.J ((B++a).map ak) b) c):lW 1 1 f (.J (B.map ak) N) (.J (a.map ak) e5) (bO s d):=by
 grind[dp,tN]
def wL {a:UInt8}{d:cC s} (h:bh t f 1 (B.map ak) N) (k:B.length+1<=140737488355328)
  (o: ∀b c,bh t c 1 ((B++ [a]).map ak) b->s (.J ((B++ [a]).map ak) b) c):lW 1 1 f (.J (B.map ak) N) (.J [ak a] e5) (bO s d):=
 mQ (a:= [a]) h k o
def s4 {a:UInt8}{d:cC s} (h:t.sub f) (k: ∀b c,bh t c 1 [ak a] b->s (.J [ak a] b) c):jJ 1 f [.v (.int .u8 a.toNat)] (bO s d):=
 cI (g:= [a].map ak) h (by rw[tN];trivial) k
def wM (a:e<B.length):(B.map ak)[e]? =some (.v (.int .u8 (B.getD e 0).toNat)):=by
 rw[a5j,a4H a];have:B.getD e 0=B[e]:=by simp[List.getD,a]
 rw[this];rfl
def BS {b c:Fr->U->Prop} (d: ∀j f,b j f->c j f): ∀(h:List c6) (j:Fr) (f:U),iU K h b j f->iU K h c j f
 | [],j,f,a=>d j f a
 | _::k,j,f,a=>rJ (λj f a=>BS d k j f a) a
def BT {b:Nat->c6}{c d:Fr->U->Prop} (h: ∀j f,c j f->d j f): ∀(k:List dj) (j:Fr) (f:U),can K b c k j f->can K b d k j f
 | [],j,f,a=>h j f a
 | _::o,j,f,a=>⟨a.1,rJ (λj f a=>⟨a.1,BT h o j f a.2⟩) a.2⟩
theorem jb: ∀(o:dM) {h k:gm->Fr->U->Prop} (_: ∀c j f,h c j f->k c j f) (j:Fr) (f:U),bT K o h j f->bT K o k j f
 | .skip,_,_,b,j,f,a=>b _ j f a
 | .ret,_,_,b,j,f,a=>b _ j f a
 | .exit _,_,_,b,j,f,a=>b _ j f a
 | .plain ops,_,_,b,j,f,a=>BS (b _) ops j f a
 | .draw _ y,_,_,b,j,f,a=>BT (b _) y j f a
 | .seq d p,h,k,b,j,f,a=>jb d (λc j f a=>by
   cases c with
   |norm=>exact jb p b j f a
   |exit x=>exact b _ j f a
   |ret=>exact b _ j f a) j f a
 | .block x d,h,k,b,j,f,a=>jb d (λc j f a=>by
   cases c with
   |norm=>exact b _ j f a
   |exit G=>simp only[lf]at a|-;grind
   |ret=>exact b _ j f a) j f a
 | .cond o d p,h,k,b,j,f,a=>by
   simp only[wD,Bs,ku]at a|-;split at a
   .exact⟨λr=>jb d b j f (a.1 r),λr=>jb p b j f (a.2 r)⟩
   .exact a.elim
 | .loop d,h,k,b,j,f,a=>by
   obtain⟨z,C,D,E⟩:=a;exact⟨z,C,D,λj f F=>jb d (λc j f a=>by
    cases c with
    |norm=>exact a
    |exit x=>exact b _ j f a
    |ret=>exact b _ j f a) j f (E j f F)⟩
def BU {b c:dM}{k:cC (bT K b (eR (bT K h7 e8) e8) j f)}{o:cC (bT K c (eR (bT K h7 e8) e8) j f)} (d:Fr->U->Prop)
  (p:I=true->bT K b (eR d e8) j f) (r:I=false->bT K c (eR d e8) j f) (x: ∀j f,d j f->bT K h7 e8 j f):
  ku (.v (.bool I)) (cw (bT K b (eR (bT K h7 e8) e8) j f) k) (cw (bT K c (eR (bT K h7 e8) e8) j f) o):=by
 have hm: ∀h j f,eR d e8 h j f->eR (bT K h7 e8) e8 h j f:=λh j f a=>by
  cases h with
  |norm=>exact x j f a
  |exit y=>exact a
  |ret=>exact a
 exact⟨λa=>jb b hm j f (p a),λa=>jb c hm j f (r a)⟩
def s5 (b c:R):Option R:=
 match b,c with
 | .v (.string d),.v (.int _ a)=>if 0<=a then(match d.data[a.toNat]? with|some h=>some (.v (.int .u8 h.toNat))|none=>none)else none
 | _,_=>none
def V1:G K (.lI Z e9) j f s=dE (s5 (aj j Z) (aj j e9)) (c3 (λc=>s c f) ()):=by
 simp only[G,s5];generalize aj j Z=d;generalize aj j e9=h;cases d<;>first
  |rfl
  |(rename_i v;cases v<;>first
    |rfl
    |(cases h<;>first
      |rfl
      |(rename_i k o;cases o<;>first
        |rfl
        |(
          rename_i r a;simp only[];by_cases b:0<=a
          .simp only[b,true_and,if_true];generalize k.data[a.toNat]? =p;cases p<;>rfl
          .simp[b,dE]))))
def s6 (a b:Nat) (c:U) (d:R):Option R:=
 match d with
 | .ptr h off=>match c h with
  |some (.ro cs)=>if off+b*a<=cs.length then some (.J (dK a b (cs.drop off)) .any)else none
  | _=>none
 | _=>none
def V2:G K (.jE e i Z none none) j f s=dE (s6 e i f (aj j Z)) (c3 (λa=>s a f) ()):=by
 simp only[G,s6,df];generalize aj j Z=b;cases b<;>first
  |rfl
  |(
    rename_i c k;simp only[];generalize f c=d;cases d with
    |none=>simp[dE]
    |some h=>cases h with
     |ro cs=>simp only[kv,jI];simp
     | _=>simp[dE])
def V3 (a:f i=some (.ro g)) (b:g.length=e):s6 1 e f (.ptr i 0)=some (.J g .any):=by simp[s6,a,b,dK,a4I]
theorem wN (a:e<64):bn .shl (.int .i64 b1) (.int e2 (e:Int))=some (.int .i64 (IntKind.i64.wrap (b1*2^e))):=by
 have b:min e IntKind.i64.bits=e:=by simp[IntKind.bits];omega
 simp_all [bn,eK,if_true,nL,if_neg,a5g]
def BV (a b:Option R):Option R:=
 match a,b with
 |some a,some b=>some (.aL [a,b])
 | _,_=>none
def V4:BV (some n) (some b3)=some (.aL [n,b3]):=rfl
def V5 {a b:Nat×Option (Bool×Nat)}:iW j f [a,b]=BV (ga j f a) (ga j f b):=by simp only[iW,fu];cases ga j f a<;>cases ga j f b<;>rfl
def BW (a b c:Option R):Option R:=
 match a,b,c with
 |some a,some b,some c=>some (.aL [a,b,c])
 | _,_,_=>none
def V6 {a:R}:BW (some n) (some b3) (some a)=some (.aL [n,b3,a]):=rfl
def V7 {a b c:Nat×Option (Bool×Nat)}:iW j f [a,b,c]=BW (ga j f a) (ga j f b) (ga j f c):=by simp only[iW,fu];cases ga j f a<;>cases ga j f b<;>cases ga j f c<;>rfl
def V8:((0:Nat):Int)=0:=rfl
def V9:((1:Nat):Int)=1:=rfl
def Va:((e:Int).tmod (i:Int))=((e%i:Nat):Int):=rfl
def BX:((e:Int).tmod 64)=((e%64:Nat):Int):=Va (i:=64)
def s7:=
 a4F @SC<|
 a4F @SD<|
 a4F @SE<|
 a4F @SF<|
 a4F @SG<|
 a4F @SH<|
 a4F @SI<|
 a4F @wD<|
 a4F @SJ<|
 a4F @jI<|
 a4F @SB<|
 a4F @SK<|
 a4F @SL<|
 a4F @SM<|
 a4F @SN<|
 a4F @SO<|
 a4F @SQ<|
 a4F @SP<|
 a4F @SR<|
 a4F @SS<|
 a4F @SU<|
 a4F @T2<|
 a4F @T4<|
 a4F @T5<|
 a4F @T8<|
 a4F @T6<|
 a4F @T7<|
 a4F @T9<|
 a4F @Ta<|
 a4F @Te<|
 a4F @Tf<|
 a4F @Tc<|
 a4F @Td<|
 a4F @Tl<|
 a4F @To<|
 a4F @Tp<|
 a4F @Tq<|
 a4F @Tr<|
 a4F @Tu<|
 a4F @Tw<|
 a4F @Tz<|
 a4F @TC<|
 a4F @TE<|
 a4F @TF<|
 a4F @TI<|
 a4F @TL<|
 a4F @TP<|
 a4F @TQ<|
 a4F @TS<|
 a4F @TU<|
 a4F @TV<|
 a4F @TX<|
 a4F @UP<|
 a4F @UQ<|
 a4F @US<|
 a4F @V1<|
 a4F @V2<|
 a4F @UW<|
 a4F @U3<|
 a4F @Tg<|
 a4F @Th<|
 a4F @U4<|
 a4F @TJ<|
 a4F @TK<|
 a4F @U6<|
 @U7
def s8:=
 a4F @Bt<|
 a4F @Bu<|
 a4F @SV<|
 a4F @SX<|
 a4F @SY<|
 a4F @SZ<|
 a4F @T0<|
 a4F @Tb<|
 a4F @eq_self.{1}<|
 a4F @T3<|
 a4F @a5q.{0}<|
 a4F @a5x.{0}<|
 a4F @UX<|
 a4F @Option.map_none.{0,0}<|
 a4F @UU<|
 a4F @qn<|
 a4F @nU<|
 a4F @BR<|
 a4F @UY<|
 a4F @UZ<|
 a4F @Ti<|
 a4F @Tj<|
 a4F @Tk<|
 a4F @rS<|
 a4F @rR<|
 a4F @Tm<|
 a4F @Tn<|
 a4F @Ts<|
 a4F @Tt<|
 a4F @Bw<|
 a4F @Tv<|
 a4F @Tx<|
 a4F @Ty<|
 a4F @TA<|
 a4F @TB<|
 a4F @rW<|
 a4F @TD<|
 a4F @UC<|
 a4F @rX<|
 a4F @iw<|
 a4F @TG<|
 a4F @TH<|
 a4F @TN<|
 a4F @TO<|
 a4F @rY<|
 a4F @TR<|
 a4F @TT<|
 a4F @TW<|
 a4F @TZ<|
 a4F @U0<|
 a4F @U1<|
 a4F @U2<|
 a4F @a5M.{0,0}<|
 a4F @U9<|
 a4F @Ua<|
 a4F @U8<|
 a4F @Uc<|
 a4F @Ub<|
 a4F @ql<|
 a4F @a5h.{0,0}<|
 a4F @a6y.{0,0}<|
 a4F @Un<|
 a4F @Uo<|
 a4F @Up<|
 a4F @Uq<|
 a4F @Ur<|
 a4F @Us<|
 a4F @Ut<|
 a4F @Uu<|
 a4F @Uv<|
 a4F @Uw<|
 a4F @Ux<|
 a4F @Uy<|
 a4F @UG<|
 a4F @BO<|
 a4F @BP<|
 a4F @UH<|
 a4F @UI<|
 a4F @UJ<|
 a4F @UK<|
 a4F @UL<|
 a4F @UM<|
 a4F @wrap_i64<|
 a4F @Uj<|
 a4F @Uk<|
 a4F @Ul<|
 a4F @Um<|
 a4F @Uz<|
 a4F @UA<|
 a4F @UB<|
 a4F @s3<|
 a4F @wrap_u64<|
 a4F @UF<|
 a4F @BI<|
 a4F @a4T.{0,0}<|
 a4F @a4M.{0}<|
 a4F @a4R.{0}<|
 a4F @U.Bz<|
 a4F @U.Ud<|
 a4F @U.Ue<|
 a4F @U.Uf<|
 a4F @U.Ug<|
 a4F @U.set_set<|
 a4F @U.BA<|
 a4F @U.BB<|
 a4F @U.BC<|
 a4F @U.BD<|
 a4F @U.BE<|
 a4F @U.BG<|
 a4F @U.BH<|
 a4F @U.Ui<|
 a4F @BJ<|
 a4F @BK<|
 a4F @BL<|
 a4F @BM<|
 a4F @BN<|
 a4F @hN<|
 a4F @a6U.{0}<|
 a4F @and_self<|
 a4F @a5e<|
 a4F @a5t<|
 a4F @a7g<|
 a4F @a5g<|
 a4F @true_and<|
 a4F @and_true<|
 a4F @a6x<|
 a4F @a5k<|
 a4F @UD<|
 @UE
def gd:=
 a4F @V8<|
 a4F @V9<|
 a4F @V5<|
 a4F @V4<|
 a4F @V7<|
 @V6
def aE:=
 a4F @a4M.{0}<|
 a4F @a4R.{0}<|
 a4F @a4T.{0,0}<|
 a4F @a4J.{0}<|
 a4F @a6H.{0}<|
 a4F @List.length_range<|
 a4F @a4L.{0}<|
 a4F @a4V.{0}<|
 a4F @BJ<|
 a4F @BK<|
 a4F @BL<|
 a4F @BM<|
 a4F @BN<|
 a4F @hN<|
 a4F @tN<|
 a4F @UN<|
 a4F @BQ<|
 a4F @UO<|
 a4F @and_true<|
 a4F @true_and<|
 a4F @a5e<|
 a4F @eq_self.{1}<|
 @and_self
def bd (a:List UInt8):R:= .v (.string ⟨a.toArray⟩)
theorem BY (b:ByteArray): ∀(d a:Nat) (c:List UInt8),b.size - a=d->ByteArray.toList.loop b a c=c.reverse++b.data.toList.drop a
 |0,a,c,h=>by
  rw[ByteArray.toList.loop,if_neg a9p,a5T (by simp;exact Nat.le_of_sub_eq_zero h)];simp
 |d+1,a,c,h=>by
  have k:a<b.size:=a9p;have o:a<b.data.toList.length:=by simpa using k
  rw[ByteArray.toList.loop,if_pos k,BY b d (a+1) _ a9p,a5c o];simp_all [ByteArray.get!]
def toList_data (a:ByteArray):a.toList=a.data.toList:=by rw[ByteArray.toList,BY a _ 0 [] rfl];simp
theorem toList_mk (a:List UInt8):(⟨a.toArray⟩:ByteArray).toList=a:=by rw[toList_data]
theorem BZ (a b:List UInt8):bn .eql (.string ⟨a.toArray⟩) (.string ⟨b.toArray⟩)=some (.bool (decide (a=b))):=by grind[bn,pZ,toList_mk]
theorem C0 (a b:List UInt8):bn .neq (.string ⟨a.toArray⟩) (.string ⟨b.toArray⟩)=some (.bool (decide (a≠b))):=by grind[bn,pZ,toList_mk]
def mR (a:List UInt8):(⟨a.toArray⟩:ByteArray).size=a.length:=by simp[ByteArray.size]
variable{u:bl}{l h8:World}
section
def Vb:rT K ⟨some e,e3,some (i,I)⟩ j f=hM (j i) I (cw (G K e3 j f (λa _=>a=j e)) ()) (cw ((.aL []:R)=j e) ()):=rfl
def Vc {a:Option Nat}:Def K ⟨a,e3,some (e,I)⟩ j=hM (j e) I (cw (G K e3 j U.emp (λ_ _=>True)) ()) (cw True ()):=rfl
def mS (a:R):Option R:=
 match a with
 | .J xs _=>match bytesOf xs with
  |some b=>some (.v (.string ⟨b.toArray⟩))
  |none=>none
 | _=>none
def C1:mS (.J (B.map ak) N)=some (.v (.string ⟨B.toArray⟩)):=by simp[mS,rB]
def Vd:G K (.q5 Z) j f s=dE (mS (aj j Z)) (c3 (λa=>s a f) ()):=by simp only[G,mS];generalize aj j Z=b;cases b<;>first|rfl|(rename_i c h;simp only[];generalize bytesOf c=d;cases d<;>rfl)
def qo (d:Bool) (a b:R):Option R:=
 match a,b with
 | .v (.int c a),.v (.int h b)=>if c=h then some (.v (.int c (if d then max a b else min a b)))else none
 | _,_=>none
def Ve {a:Int}:qo true (.v (.int e2 b1)) (.v (.int e2 a))=some (.v (.int e2 (max b1 a))):=by simp[qo]
def Vf {a:Int}:qo false (.v (.int e2 b1)) (.v (.int e2 a))=some (.v (.int e2 (min b1 a))):=by simp[qo]
def Vg:G K (.lK I e2 Z e9) j f s=dE (qo I (aj j Z) (aj j e9)) (c3 (λa=>s a f) ()):=by
 simp only[G,qo];generalize aj j Z=b;generalize aj j e9=c;cases b<;>first
  |rfl
  |(rename_i v;cases v<;>first
    |rfl
    |(cases c<;>first
      |rfl
      |(rename_i d;cases d<;>first|rfl|(simp only[kv,jI]))))
def qp (a:R):Option R:=
 match a with
 | .v (.string b)=>some (.v (.int .i64 b.size))
 | _=>none
def wO:qp (.v (.string ⟨B.toArray⟩))=some (.v (.int .i64 B.length)):=by simp[qp,mR]
def Vh:G K (.q3 Z) j f s=dE (qp (aj j Z)) (c3 (λa=>s a f) ()):=by simp only[G,qp];generalize aj j Z=b;cases b<;>first|rfl|(rename_i v;cases v<;>rfl)
def qq (a:R) (d h:Option R):Option R:=
 match a with
 | .v (.string b)=>match cz d 0,cz h b.size with
  |some a,some c=>if 0<=a/\a<=c/\c<=b.size then some (.v (.string (b.extract a.toNat c.toNat)))else none
  | _,_=>none
 | _=>none
def wP (a:List UInt8) (b c:Nat):(⟨a.toArray⟩:ByteArray).extract b c=⟨((a.take c).drop b).toArray⟩:=by apply ByteArray.ext;simp only[ByteArray.data_extract];simp[a6f]
def Vi (a:0<=b1) (b:b1<=B.length):qq (.v (.string ⟨B.toArray⟩)) (some (.v (.int e2 b1))) none=some (.v (.string ⟨(B.drop b1.toNat).toArray⟩)):=by simp[qq,cz,intOf,mR,a,b,wP]
def Vj (a:0<=b1) (b:b1<=B.length):qq (.v (.string ⟨B.toArray⟩)) none (some (.v (.int e2 b1)))=some (.v (.string ⟨(B.take b1.toNat).toArray⟩)):=by simp[qq,cz,intOf,mR,a,b,wP]
def Vk {b:IntKind}{a:Int} (c:0<=b1) (d:b1<=a) (h:a<=B.length):qq (.v (.string ⟨B.toArray⟩)) (some (.v (.int e2 b1))) (some (.v (.int b a)))=some (.v (.string ⟨((B.take a.toNat).drop b1.toNat).toArray⟩)):=by simp[qq,cz,intOf,mR,c,d,h,wP]
theorem C2 (a:0<=b1) (b:b1<B.length):s5 (.v (.string ⟨B.toArray⟩)) (.v (.int e2 b1))=some (.v (.int .u8 (B.getD b1.toNat 0).toNat)):=by grind[List.getD,s5]
def C3 (c:Nat) (h:U) (r x:R) (p:R->U->Prop):Prop:=
 match r,x with
 | .bw d off a _ k,.J b _=>k=c/\(∀o∈b,o.cells.length=c)/\match h d with
  |some (.cells cs)=>off+a*c<=cs.length/\p (.v (.int .i64 (min b.length a))) (h.set d (.cells (putAt cs off (flat (b.take a)))))
  | _=>False
 | .al d a _ k,.J b _=>k=c/\(∀o∈b,o.cells.length=c)/\match h d with
  |some (.cells cs)=>a*c<=cs.length/\p (.v (.int .i64 (min b.length a))) (h.set d (.cells (putAt cs 0 (flat (b.take a)))))
  | _=>False
 | _,_=>False
def Vl:G K (.mz e Z e9) j f s=C3 e f (aj j Z) (aj j e9) (bO s ()):=rfl
def C4 {a:cC s} (b:aN e g) (c:f v=some (.cells A)) (d:M+i*e<=A.length)
  (h:s (.v (.int .i64 (min g.length i))) (f.set v (.cells (putAt A M (flat (g.take i)))))):C3 e f (.bw v M i c0 e) (.J g N) (bO s a):=by
 refine⟨rfl,b,?_⟩;rw[c];exact⟨d,h⟩
def tO (c b:Nat) (k:U) (a:R) (o p:Option R):Option R:=
 match a with
 | .ptr h off=>match cz o 0,cz p b with
  |some a,some d=>match k.read h with
   |some cs=>if 0<=a/\a<=d/\d<=b/\off+b*c<=cs.length/\a<b then some (.bw h (off+a.toNat*c) (d.toNat - a.toNat) (b - a.toNat) c)else none
   |none=>none
  | _,_=>none
 | _=>none
def wQ (a:f.read v=some g) (b:M+e*i<=g.length) (c:0<e):tO i e f (.ptr v M) none none=some (.bw v M e e i):=by simp[tO,cz,a,b,c]
theorem Vm {a b:Option Operand}:G K (.kj i e Z a b false) j f s=dE (tO i e f (aj j Z) (a.map (aj j)) (b.map (aj j))) (c3 (λc=>s c f) ()):=by
 simp only[G,tO,wJ];generalize aj j Z=d;generalize a.map (aj j)=h;generalize b.map (aj j)=k;cases d<;>try rfl
 rename_i o y;simp only[];generalize cz h 0=p;generalize cz k e=r;generalize f.read o=x;cases p<;>cases r<;>cases x<;>first
  |rfl
  |(simp[dE];done)
  |(
    simp only[kv,jI,a5Q,if_false];grind)
def nV (d:Nat) (b:U) (a:List R) (h:R->U->Prop):Prop:=
 (∀k∈a,k.cells.length=d)/\(if a.length=0 then h (.J [] .zero) b else∀c,b c=none->h (.al c a.length a.length d) (b.set c (.cells (flat a))))
def Vn {a:List Operand}:G K (.kl e a) j f s=nV e f (a.map (aj j)) (bO s ()):=by simp only[G,nV,bO,a4T]
def nW {a:cC s}:nV e f [] (bO s a)=s (.J [] .zero) f:=by simp[nV,bO]
def eS {b:cC s} (c:aN e g) (d:g≠ []) (h: ∀a,f a=none->s (.al a g.length g.length e) (f.set a (.cells (flat g)))):nV e f g (bO s b):=by refine⟨c,?_⟩;rw[if_neg (λk=>d (a4N k))];exact h
def C5 (d h:Nat) (k:List R) (c:U) (o p:R) (r:R->U->Prop):Prop:=
 match o,p with
 | .v (.int _ a),.v (.int _ x)=>a=x/\0<=a/\a<=9223372036854775807/\a*h<=281474976710656/\ ∀b,c b=none->r (.al b a.toNat a.toNat d) (c.set b (.cells (List.replicate a.toNat k).flatten))
 | _,_=>False
def Vo:G K (.kk e i g Z e9) j f s=C5 e i g f (aj j Z) (aj j e9) (bO s ()):=rfl
theorem wR {b:IntKind}{c:cC s} (d:e*v<=281474976710656) (h:e<=9223372036854775807) (k: ∀a,f a=none->s (.al a e e i) (f.set a (.cells (List.replicate e g).flatten))):
  C5 i v g f (.v (.int e2 (e:Int))) (.v (.int b (e:Int))) (bO s c):=⟨rfl,a9p,a9p,a9p,λa o=>by
 grind[bO,Int.toNat_natCast]⟩
def jK (c z:Nat) (d:U) (E F:R) (x:R->U->Prop):Prop:=
  match mI d c F with
  |some (b,y)=>match E with
    | .J xs D=>xs= []/\(D= .nil\/D= .zero)/\b*z<=140737488355328/\b<=9223372036854775807/\
      (if b=0 then x (.J [] D) d else∀h k p,d h=none->b<=k->k<=maxLen->p.length=(k - b)*c->x (.al h b k c) (d.set h (.cells (y++p))))
    | .al r a k C=>match d r with
      |some (.cells cs)=>C=c/\cs.length=k*c/\(a+b)*z<=140737488355328/\a+b<=9223372036854775807/\
        (if a+b<=k then x (.al r (a+b) k c) (d.set r (.cells (putAt cs (a*c) y)))
         else∀h o p,d h=none->a+b<=o->o<=maxLen->p.length=(o -(a+b))*c->x (.al h (a+b) o c) (d.set h (.cells (cs.take (a*c)++y++p))))
      |some (.fX cs)=>C=c/\cs.length=k*c/\(a+b)*z<=140737488355328/\a+b<=9223372036854775807/\
        (if a+b<=k then x (.al r (a+b) k c) (d.set r (.fX (putAt cs (a*c) y)))
         else∀h o p,d h=none->a+b<=o->o<=maxLen->p.length=(o -(a+b))*c->x (.al h (a+b) o c) (d.set h (.cells (cs.take (a*c)++y++p))))
      | _=>False
    | .bw r off a k C=>match d r with
      |some (.cells cs)=>C=c/\off+k*c<=cs.length/\(a+b)*z<=140737488355328/\a+b<=9223372036854775807/\
        (if a+b<=k then x (.bw r off (a+b) k c) (d.set r (.cells (putAt cs (off+a*c) y)))
         else∀h o p,d h=none->a+b<=o->o<=maxLen->p.length=(o -(a+b))*c->x (.al h (a+b) o c) (d.set h (.cells ((cs.drop off).take (a*c)++y++p))))
      | _=>False
    | _=>False
  |none=>False
def Vp:G K (.lL e i Z e9) j f s=jK e i f (aj j Z) (aj j e9) (bO s ()):=rfl
def ar (p r:U) (a:Nat) (d:List R) (h:R):Prop:=
 p.sub r/\((d= []/\(h= .J [] .nil\/h= .J [] .zero))\/ ∃k b c o,h= .al k b c a/\p k=none/\r k=some (.cells o)/\o.length=c*a/\o.take (b*a)=d/\d.length=b*a/\b<=c/\c<=maxLen)
theorem ar.nil {s0 a:U}{b:Nat} (c:s0.sub a):ar s0 a b [] (.J [] .nil):=⟨c,.inl ⟨rfl,.inl rfl⟩⟩
def ar.zero {a b:U}{c:Nat} (d:a.sub b):ar a b c [] (.J [] .zero):=⟨d,.inl ⟨rfl,.inr rfl⟩⟩
def ar.mono {a:R} (d:ar f t e g a) (c:t.sub e7):ar f e7 e g a:=by
 obtain⟨h,b⟩:=d;refine⟨U.aq h c,?_⟩;rcases b with b|⟨k,o,p,r,x,y,z,C⟩
 .exact .inl b
 .exact .inr ⟨k,o,p,r,x,y,c _ _ z,C⟩
theorem ar.base (c:ar f e7 e g n) (b:t.sub f):ar t e7 e g n:=by
 obtain⟨d,a⟩:=c;refine⟨U.aq b d,?_⟩;rcases a with a|⟨h,k,o,p,r,x,y⟩
 .exact .inl a
 .exact .inr ⟨h,k,o,p,r,U.bF b x,y⟩
def ar.new {ob:bp} (h:ar t f i g n) (k:f e=none):ar (t.set e ob) (f.set e ob) i g n:=by
 obtain⟨o,a⟩:=h;refine⟨U.lg o,?_⟩;rcases a with a|⟨c,p,r,x,y,z,b,C⟩
 .exact .inl a
 .have d:c≠e:=by rintro rfl;rw[k]at b;cases b
  exact .inr ⟨c,p,r,x,y,by rw[U.an _ _ d];exact z,by rw[U.an _ _ d];exact b,C⟩
theorem ar.src (b:ar t f e g n): ∃a,g.length=a*e/\bM f e n=some (a,g)/\ff n=some (.v (.int .i64 a)):=by
 obtain⟨h,c⟩:=b;rcases c with ⟨rfl,rfl|rfl⟩|⟨k,a,o,p,rfl,r,x,y,z,d,C,D⟩
 .exact⟨0,a9q,rfl,rfl⟩
 .exact⟨0,a9q,rfl,rfl⟩
 .refine⟨a,d,?_,rfl⟩;simp_all [a4Y,bM,U.af]
theorem fj {l:cC s} (m:ar t f e A n) (L:0<e) (q:bM f e b3=some (i,g)) (d:g.length=i*e) (u:(A.length+g.length)*v<=140737488355328*e) (w:A.length+g.length<=9223372036854775807)
  (x: ∀P S,ar t S e (A++g) P->s P S):jK e v f n b3 (bO s l):=by
 obtain⟨b,B⟩:=m;unfold jK;rw[vO q];simp only[bO];have df: ∀a,A.length=a*e->(a+i)*v<=140737488355328/\a+i<=9223372036854775807:=by
  intro a H;have o:A.length+g.length=(a+i)*e:=by rw[H,d,a5J]
  rw[o]at u w;constructor
  .have:(a+i)*v*e<=140737488355328*e:=by grind
   exact Nat.le_of_mul_le_mul_right this L
  .have:(a+i)*1<=(a+i)*e:=a9f _ L;omega
 rcases B with ⟨rfl,Y⟩|⟨I,a,c,y,rfl,T,K,z,C,V,Z,M⟩
 .obtain⟨D,W⟩:=df 0 a9q;have j9: ∀k,(k= .nil\/k= .zero)->(([]:List R)= []/\(k= .nil\/k= .zero)/\i*v<=140737488355328/\i<=9223372036854775807/\
   (if i=0 then s (.J [] k) f else∀h c p,f h=none->i<=c->c<=maxLen->p.length=(c - i)*e->s (.al h i c e) (f.set h (.cells (g++p))))):=by
   intro k N;refine⟨rfl,N,by simpa using D,a9p,?_⟩;split
   .rename_i hm;subst hm;have:g= []:=a4N (by simpa using d);subst this;refine x _ _ ⟨b,.inl ⟨rfl,?_⟩⟩;simp_all
   .intro h c p r E F G;refine x _ _ ⟨U.ae b (U.bF b r),.inr ⟨h,i,c,g++p,rfl,U.bF b r,U.ah _ _ _,?_,?_,by simpa using d,E,F⟩⟩
    .rw[a4J,d,G,<-a5J];congr 1;omega
    .rw[<-d,a7c];rfl
  grind
 .obtain⟨D,W⟩:=df a V;simp only[K];refine⟨trivial,z,D,W,?_⟩;have O:(y.take (a*e)).length=a*e:=by rw[C,V]
  split
  .rename_i j;have Q:a*e+g.length<=y.length:=by rw[d,z,<-a5J];exact a4Y _ j
   refine x _ _ ⟨U.ae b T,.inr ⟨I,a+i,c,_,rfl,T,U.ah _ _ _,?_,?_,by grind,j,M⟩⟩
   .rw[eJ _ _ _ Q,z]
   .have o:(a+i)*e=(y.take (a*e)++g).length:=by grind
    rw[putAt,o,a7c,C]
  .intro h X p r E F G;refine x _ _ ⟨U.ae b (U.bF b r),.inr ⟨h,a+i,X,_,rfl,U.bF b r,U.ah _ _ _,?_,?_,by grind,E,F⟩⟩
   .rw[a4J,a4J,O,d,G,<-a5J,<-a5J];congr 1;omega
   .have o:(a+i)*e=(y.take (a*e)++g).length:=by grind
    rw[o,a7c,C]
theorem C6:bM f 1 (.J (B.map ak) N)=some (B.length,B.map ak):=by grind[ak,decide,R.cells,bM,rE]
def wS (a:U) (b:R):Option R:=
 match bM a 1 b with
 |some (_,xs)=>match bytesOf xs with
  |some c=>some (.v (.string ⟨c.toArray⟩))
  |none=>none
 |none=>none
def Vq (a:bM f 1 n=some (e,B.map ak)):wS f n=some (.v (.string ⟨B.toArray⟩)):=by simp[wS,a,rB]
def s9 (a:R):Option R:=
 match a with
 | .v (.string b)=>some (.J (b.data.toList.map ak) .any)
 | _=>none
def Vr:s9 (.v (.string ⟨B.toArray⟩))=some (.J (B.map ak) .any):=by simp[s9]
def Vs:G K (.q6 Z) j f s=dE (s9 (aj j Z)) (c3 (λa=>s a f) ()):=by simp only[G,s9];generalize aj j Z=b;cases b<;>first|rfl|(rename_i v;cases v<;>rfl)
theorem aZ.frozen {v:Value} (k:Holds u f l) (o:f M=some (.ro g)) (p:e*i<=g.length) (r:aZ u v (.al M e c0 i)):aZ u v (.J (dK i e g) .any):=by
 obtain⟨x,c,T,L,P,d,S⟩:=k.dS M _ o;have V:c.size=g.length:=d.1;cases r with
 |al M e c0 i hk y=>
  obtain⟨z,C,h⟩:=vW hk p x;by_cases D:e=0
  .subst D;have:dK i 0 g= []:=a4N h;rw[this];exact .di _ _ _ (λE=>by cases E) trivial
  .refine .J M 0 e c0 i (λa=>c.getD a Go.undef) _ .any hk h.symm y z ?_ ?_ ?_ trivial;grind;grind
   .intro a F b;rw[C]at b;have G:a<e*i:=by grind
    rw[a5K G]at b;exact d.2 a F b
end
def sa:=
 a4F @Vn<|
 a4F @Vp<|
 a4F @Vo<|
 a4F @Vs<|
 a4F @Vd<|
 a4F @Vg<|
 a4F @Vh<|
 a4F @Vl<|
 a4F @Vm<|
 a4F @Vb<|
 @Vc
def sb:=
 a4F @Vr<|
 a4F @iZ<|
 a4F @TM<|
 a4F @UT<|
 a4F @C1<|
 a4F @Ve<|
 a4F @Vf<|
 a4F @wO<|
 a4F @Vi<|
 a4F @Vj<|
 a4F @Vk<|
 a4F @wQ<|
 a4F @C0<|
 a4F @BZ<|
 a4F @C2<|
 a4F @ite_true.{1}<|
 a4F @ite_false.{1}<|
 a4F @a5w<|
 a4F @a5F<|
 a4F @a7A<|
 a4F @Bool.true_xor<|
 a4F @a6m<|
 a4F @a7d<|
 a4F @decide_true<|
 @decide_false
section
def Vt {a b:List Operand}:G K (.bG b4 a b) j f s=mP (.bG b4 (a.map (aj j)) (b.map (aj j))) (c3 (λc=>s c f) ()):=rfl
def wT (a:Ctx) (b:R) (c:List R) (d:U) (h:R->U->Prop):Prop:=
 match b with
 | .bG fn cB cs=>gk a.p fn=true/\hK a.p fn (cB++c++cs) d h (up a.k)
 | _=>False
def Vu {a:List Operand}:G K (.iR Z a) j f s=wT K (aj j Z) (a.map (aj j)) f (bO s ()):=rfl
def fI {c:cC s} (d:gk K.p b4=true) (h:AC K.p b4 (g++e1++A) f a7) (k: ∀a b,a7 a b->s a b):wT K (.bG b4 g A) e1 f (bO s c):=⟨d,(h.mono k).p⟩
def Vv:G K (.q7 b2 Z) j f s=mP (.iface b2 (aj j Z)) (c3 (λa=>s a f) ()):=rfl
def nX (d:TypeId) (a:Bool) (b:R) (h:R):Option R:=
 match h with
 | .iface k c=>if k=d then some (if a then .aL [c,.v (.bool true)]else c)else if a=true then some (.aL [b,.v (.bool false)])else none
 | .v .nilIface=>if a=true then some (.aL [b,.v (.bool false)])else none
 | _=>none
def Vw:nX b2 true b3 (.iface b2 n)=some (.aL [n,.v (.bool true)]):=by simp[nX]
def Vx {a:TypeId} (b:a≠b2):nX b2 true n (.iface a b3)=some (.aL [n,.v (.bool false)]):=by simp[nX,b]
def Vy:nX b2 true n (.v .nilIface)=some (.aL [n,.v (.bool false)]):=by simp[nX]
def Vz:nX b2 false b3 (.iface b2 n)=some n:=by simp[nX]
def C7 (a:Bool) (b:R):Option R:=
 match b with
 | .iface _ _=>some (.v (.bool a))
 | .v .nilIface=>some (.v (.bool (!a)))
 | _=>none
def VA:C7 I (.iface b2 n)=some (.v (.bool I)):=rfl
def VB:C7 I (.v .nilIface)=some (.v (.bool (!I))):=rfl
def C8 (a:Bool) (b:R):Option R:=
 match b with
 | .bG _ _ _=>some (.v (.bool a))
 | .v .nilFunc=>some (.v (.bool (!a)))
 | _=>none
def VC:C8 I (.bG e g A)=some (.v (.bool I)):=rfl
def VD:C8 I (.v .nilFunc)=some (.v (.bool (!I))):=rfl
def VE (a:Ctx) (b:R) (c:U):Prop:=
 match b with
 | .iface d h=>up a.k (.iface d h) c
 | _=>False
def VF:G K (.mB Z) j f s=VE K (aj j Z) f:=rfl
def wU (b:R) (c:U) (d:Nat->ByteArray->Prop):Prop:=
 match b with
 | .v (.string h)=> ∀a,c a=none->d a h
 | _=>False
def VG:G K (.km Z) j f s=wU (aj j Z) f (bO (λa b=>s (.ptr a 0) (f.set a (.it b 0))) ()):=rfl
def C9 {a:Nat->ByteArray->Prop}{b:cC a}:wU (.v (.string ⟨B.toArray⟩)) f (bO a b)=iY f (c3 (λc=>a c ⟨B.toArray⟩) ()):=rfl
def wV (h:R) (b:U) (c:R->U->Prop):Prop:=
 match h with
 | .ptr d off=>off=0/\match b d with
  |some (.it a pos)=>if pos<a.size then c (.aL [.v (.bool true),.v (.int .i64 pos),.v (.int .i32 (Utf8.decode a pos).1)]) (b.set d (.it a (pos+(Utf8.decode a pos).2)))else c (.aL [.v (.bool false)]) b
  | _=>False
 | _=>False
def VH:G K (.mC Z) j f s=wV (aj j Z) f (bO s ()):=rfl
def VI {a:cC s} (b:f i=some (.it ⟨B.toArray⟩ e)) (c:e<B.length)
  (d:s (.aL [.v (.bool true),.v (.int .i64 e),.v (.int .i32 (Utf8.decode ⟨B.toArray⟩ e).1)]) (f.set i (.it ⟨B.toArray⟩ (e+(Utf8.decode ⟨B.toArray⟩ e).2)))):wV (.ptr i 0) f (bO s a):=by
 refine⟨rfl,?_⟩;rw[b];simp only[mR,if_pos c];exact d
def VJ {a:cC s} (b:f e=some (.it ⟨B.toArray⟩ i)) (c: ¬i<B.length) (d:s (.aL [.v (.bool false)]) f):wV (.ptr e 0) f (bO s a):=by refine⟨rfl,?_⟩;rw[b];simp only[mR,if_neg c];exact d
def wW (a:R):Option R:=
 match a with
 | .J [] .nil=>some (.v (.pointer none))
 | .al b _ cap _=>if 0<cap then some (.ptr b 0)else none
 | _=>none
def VK:wW (.J [] .nil)=some (.v (.pointer none)):=rfl
def VL (a:0<i):wW (.al e v i M)=some (.ptr e 0):=by simp[wW,a]
def VM:bT K .refuse e8 j f=False:=rfl
def U.VN:(f.set e (.oN b2 g)).read e=some g:=by simp[U.read,U.set]
def VO:(R.bG e g A).cells= [.bG e g A]:=rfl
def VP:rU (.bG e g A)=some (.bG e g A):=rfl
def sc (a:Bool) (b:U) (h k:R):Option R:=
 match h,k with
  | .ptr _ _,.v (.pointer none)=>some (.v (.bool a))
  | .v (.pointer none),.ptr _ _=>some (.v (.bool a))
  | .v (.pointer none),.v (.pointer none)=>some (.v (.bool (!a)))
  | .ptr c o,.ptr d p=>if vP b c=true/\vP b d=true then some (.v (.bool (xor a (decide (c=d/\o=p)))))else none
  | _,_=>none
def VQ (a:vP f e=true):sc I f (.ptr e i) (.ptr e i)=some (.v (.bool (!I))):=by simp[sc,a]
def VR:sc I f (.ptr e i) (.v (.pointer none))=some (.v (.bool I)):=rfl
def VS:sc I f (.v (.pointer none)) (.ptr e i)=some (.v (.bool I)):=rfl
def VT:sc I f (.v (.pointer none)) (.v (.pointer none))=some (.v (.bool (!I))):=rfl
end
def VU:(true==true)=true:=rfl
def VV:(true==false)=false:=rfl
def VW:(false==true)=false:=rfl
def VX:(false==false)=true:=rfl
def Ca:=
 a4F @Vt<|
 a4F @Vu<|
 a4F @Vv<|
 a4F @VF<|
 a4F @VG<|
 a4F @VH<|
 @VM
def Cb:=
 a4F @VU<|
 a4F @VV<|
 a4F @VW<|
 a4F @VX<|
 a4F @Vw<|
 a4F @Vx<|
 a4F @Vy<|
 a4F @Vz<|
 a4F @VA<|
 a4F @VB<|
 a4F @VC<|
 a4F @VD<|
 a4F @C9<|
 a4F @VK<|
 a4F @VL<|
 a4F @U.VN<|
 a4F @VO<|
 a4F @VP<|
 a4F @VQ<|
 a4F @VR<|
 a4F @VS<|
 @VT
noncomputable def jL (b:R->Option R) (c v:R):R->Option R:=λa=> @ite _ (a=c) (Classical.propDecidable _) (some v) (b a)
def tP {a:R->Option R}{v:R}:jL a n v n=some v:=by simp[jL]
def qs {a:R->Option R}{v:R} (b:n≠b3):jL a b3 v n=a n:=by simp[jL,b]
def wX (b:R): ∀(a:List (R×R×Nat)) (c:Nat),dx a b c=(dx a b 0).map λd=>(d.1+c,d.2)
 | [],_=>rfl
 |h::a,c=>by
  unfold dx;split
  .simp
  .rw[wX b a (c+1),wX b a (0+1)];cases dx a b 0<;>simp[a8B,Nat.add_left_comm,a7W]
theorem lh (b:R×R×Nat) (d:List (R×R×Nat)) (a:R):dx (b::d) a 0= @ite _ (a=b.1) (Classical.propDecidable _) (some (0,b.2.1)) ((dx d a 0).map λh=>(h.1+1,h.2)):=by
 conv=>lhs;unfold dx
 rw[wX a d (0+1)];by_cases c:a=b.1
 .rw[if_pos ((rz _ _).2 c),if_pos c]
 .rw[if_neg (λk=>c ((rz _ _).1 k)),if_neg c]
theorem Cc (b v:R) (o:Nat) (a:R): ∀c:List (R×R×Nat),dx c b 0=none->(dx (c++ [(b,v,o)]) a 0).map (·.2)=jL (λa=>(dx c a 0).map (·.2)) b v a
 | [],_=>by
  grind[lh,jL,dx]
 |p::c,h=>by
  rw[lh]at h;split at h
  .cases h
  .next r=>
   have x:dx c b 0=none:=by simp_all
   have ih:=Cc b v o a c x;rw[a5I,lh];by_cases d:a=p.1
   .have k:a≠b:=λy=>r (by rw[<-y];exact d);rw[if_pos d,qs k];rw[lh,if_pos d]
   .rw[if_neg d];by_cases k:a=b;simp_all [tP,dx]
    .rw[qs k]at ih|-;rw[lh,if_neg d,a7T,a7T];exact ih
theorem Cd (c v k:R) (b:R): ∀(d:List (R×R×Nat)) (o:Nat),dx d c 0=some (o,v)->(dx (d.modify o λh=>(h.1,k,h.2.2)) b 0).map (·.2)=jL (λb=>(dx d b 0).map (·.2)) c k b
 | [],_,a=>by simp[dx]at a
 |h::d,o,a=>by
  rw[lh]at a;split at a
  .next p=>
   simp only[a4S,a5U]at a;obtain⟨rfl,_⟩:=a;rw[a8T,lh];by_cases a:b=c
   .subst a;rw[tP];simp[p]
   simp_all [qs,if_neg,lh]
  .next p=>
   cases r:dx d c 0 with
   |none=>rw[r]at a;cases a
   |some y=>
    rw[r]at a;simp only[a5M,a4S,a5U]at a;obtain⟨rfl,rfl⟩:=a;have ih:=Cd c y.2 k b d y.1 r;rw[a8U,lh];by_cases a:b=h.1
    .have x:b≠c:=λz=>p (by rw[<-z];exact a);rw[if_pos a,qs x];rw[lh,if_pos a]
    .rw[if_neg a];by_cases x:b=c;simp_all [tP,a7T]
     .rw[qs x]at ih|-;rw[lh,if_neg a,a7T,a7T];exact ih
structure lj (rs:List (Nat×c5)) (us:List (R×R×Nat)) (a:Nat) (b:R->Option R):Prop where
 val: ∀k,(dx us k 0).map (·.2)=b k
 keys:rA rs us
 born:(us.map (·.2.2)).Nodup
 lt: ∀c∈us,c.2.2<a
def lj.new:lj j3 [] 0 λ_=>none:=⟨λ_=>rfl,λb a=>by simp at a,a9q,λb a=>by simp at a⟩
theorem VY (a:List (R×R×Nat)) (c:Nat) (v:R):(a.modify c λb=>(b.1,v,b.2.2)).map (·.2.2)=a.map (·.2.2):=by
 induction a generalizing c with
 |nil=>simp
 |cons b a ih=>grind
theorem mem_modify {b:List (R×R×Nat)}{v:R}{a:R×R×Nat} (d:a∈b.modify e λa=>(a.1,v,a.2.2)): ∃c∈b,a.1=c.1/\a.2.2=c.2.2:=by
 induction b generalizing e with
 |nil=>simp at d
 |cons c b ih=>grind
theorem lj.set {a:List (R×R×Nat)}{p:R->Option R} (b:lj j3 a i p) {v:R} (r:dx a n 0=some (e,v)):lj j3 (a.modify e λc=>(c.1,b3,c.2.2)) i (jL p n b3) where
 val:=λx=>by
  rw[Cd n v b3 x a e r];simp only[jL];rw[b.val]
 keys:=λc d=>by
  obtain⟨h,k,o,_⟩:=mem_modify d;rw[o];exact b.keys h k
 born:=by rw[VY];exact b.born
 lt:=λc d=>by
  obtain⟨h,k,_,o⟩:=mem_modify d;rw[o];exact b.lt h k
theorem lj.push {d:List (R×R×Nat)}{h:R->Option R} (b:lj j3 d e h) {v:R} (x:dB j3 g) (o:dx d (.agg g) 0=none):lj j3 (d++ [(.agg g,v,e)]) (e+1) (jL h (.agg g) v) where
 val:=λp=>by
  rw[Cc _ v e p d o];simp only[jL];rw[b.val]
 keys:=λc a=>by
  rcases a5a.1 a with a|a
  .exact b.keys c a
  simp_all
 born:=by rw[a5N,List.nodup_append];refine⟨b.born,a9q,?_⟩;intro y r z k;obtain⟨c,a,rfl⟩:=a5d.1 r;simp at k;subst k;exact Nat.ne_of_lt (b.lt c a)
 lt:=λc a=>by
  rcases a5a.1 a with a|a
  .exact Nat.lt_succ_of_lt (b.lt c a)
  simp_all
def qt (c:U) (d:Nat) (h:List (Nat×c5)) (k:R->Option R):Prop:= ∃a b,c d=some (.mp a b)/\lj h a b k
def a4x (h:U) (k:Nat) (o:List (Nat×c5)) (p:R->Option R) (r:R) (x:Nat):Prop:=
 ∃a b,h k=some (.mp a b)/\ ∀v,∃c,Hc a (x:Int)=some c/\lj o (a.modify c λd=>(d.1,v,d.2.2)) b (jL p r v)
section
def VZ:G K .kn j f s=iY f (c3 (λa=>s (.gT a) (f.set a (.mp [] 0))) ()):=rfl
def tQ (a:Bool) (b:List (Nat×c5)) (c:R) (h:U) (k o:R) (d:R->Prop):Prop:=
 match k,o with
 | .gT p,.agg cs=>match h p with
  |some (.mp us _)=>dB b cs/\rA b us/\(match dx us (.agg cs) 0 with
   |some (_,v)=>d (if a then .aL [v,.v (.bool true)]else v)
   |none=>d (if a then .aL [c,.v (.bool false)]else c))
  | _=>False
 | _,_=>False
def W0:G K (.lM I j3 n Z e9) j f s=tQ I j3 n f (aj j Z) (aj j e9) (c3 (λa=>s a f) ()):=by
 simp only[G,tQ];generalize aj j Z=b;generalize aj j e9=c;cases b<;>first
  |rfl
  |(cases c<;>rfl)
def Ce {c:R->Option R}{a:R->Prop}{k:cC a} (o:qt f e j3 c) (p:dB j3 g)
  (r: ∀v,c (.agg g)=some v->a (if I then .aL [v,.v (.bool true)]else v)) (x:c (.agg g)=none->a (if I then .aL [n,.v (.bool false)]else n)):tQ I j3 n f (.gT e) (.agg g) (c3 a k):=by
 obtain⟨y,C,z,d⟩:=o;simp only[tQ,z];refine⟨p,d.keys,?_⟩;have b:=d.val (.agg g);cases h:dx y (.agg g) 0 with
 |none=>rw[h]at b;exact x b.symm
 |some D=>rw[h]at b;exact r _ b.symm
def tR (a:List (Nat×c5)) (b:U) (d h v:R) (k:U->Prop):Prop:=
 match d,h with
 | .gT c,.agg cs=>match b c with
  |some (.mp us clock)=>dB a cs/\rA a us/\k (b.set c (.mp (kX us (.agg cs) v clock).1 (kX us (.agg cs) v clock).2))
  | _=>False
 | _,_=>False
def W1 {v:Operand}:G K (.lN j3 Z e9 v) j f s=tR j3 f (aj j Z) (aj j e9) (aj j v) (c3 (λa=>s (.aL []) a) ()):=by
 simp only[G,tR];generalize aj j Z=b;generalize aj j e9=c;cases b<;>first
  |rfl
  |(cases c<;>rfl)
def W2 {v:R}{c:R->Option R}{a:U->Prop}{o:cC a} (p:qt f e j3 c) (d:dB j3 g)
  (r: ∀h,qt (f.set e h) e j3 (jL c (.agg g) v)->a (f.set e h)):tR j3 f (.gT e) (.agg g) v (c3 a o):=by
 obtain⟨x,z,y,b⟩:=p;simp only[tR,y];refine⟨d,b.keys,r _ ⟨_,_,U.ah _ _ _,?_⟩⟩;unfold kX;cases k:dx x (.agg g) 0 with
 |none=>exact b.push d k
 |some C=>exact b.set k
end
theorem wY {a b:List UInt8}:ja .neq (bd a) (bd b)=some (.v (.bool (!decide (a=b)))):=by grind[bd,rY,C0]
def qu {a b:List UInt8}:ja .eql (bd a) (bd b)=some (.v (.bool (decide (a=b)))):=by simp only[bd,rY,BZ a b];rfl
def W3:wS f (.J (B.map ak) N)=some (bd B):=Vq C6
def p5 {a:List UInt8}{b:Own}:mS (.J (a.map ak) b)=some (bd a):=C1
def mT (k:(∀a,R.J a .nil∈g->a= [])->AC m b4 g f s):AC m b4 g f s:=λb o p c r=>by
 refine k (λa x=> ?_) b o p c r;obtain⟨d,y,z⟩:=a5y x;have h:=c.2 d _ (by rw[a4H y,z]);generalize b.getD d undef=v at h;cases h with
 |di=>rfl
 |J D off len cap E F a G hk hlen L P S hH T C=>exact C.elim
def W4:=
 a4F @VZ<|
 a4F @W0<|
 @W1
def W5:=
 a4F @wY<|
 a4F @qu<|
 a4F @W3<|
 @p5
def qv:=a4F s7 (a4F sa (a4F Ca W4))
def W6:=a4F s8<|a4F gd<|a4F sb<|a4F Cb W5
attribute [go_sem ↓] qv
attribute [go_sem] W6 a6c ne_eq not_true_eq_false not_false_eq_true a6u a6L aj ofConst cY
def ax (a:Q) (b:h4) (c:Q->b5=h4:=by intro d;simp -dsimp -implicitDefEqProofs (disch:=first|omega|assumption|(simp only[aE,Nat.reduceAdd];try omega)) only[go_sem,simprocAttr,-List.reduceReplicate,d];rfl):b5:=(c a).mpr b
def cn (a:b5) (b:Q=b5:=by simp -dsimp -implicitDefEqProofs (disch:=first|omega|assumption|(simp only[aE,Nat.reduceAdd];try omega)) only[go_sem,simprocAttr,-List.reduceReplicate];rfl):Q:=b.mpr a
def aF (a:Q) (b:h4) (c:Q->b5=h4:=by intro d;simp -dsimp -implicitDefEqProofs (disch:=first|omega|assumption|(simp only[aE,Nat.reduceAdd];try omega)) only[go_sem,simprocAttr,d];rfl):b5:=(c a).mpr b
def eD (a:b5) (b:Q=b5:=by simp -dsimp -implicitDefEqProofs (disch:=first|omega|assumption|(simp only[aE,Nat.reduceAdd];try omega)) only[go_sem,simprocAttr];rfl):Q:=b.mpr a
def cq (a:Q) (b:Q->b5=True:=by intro c;simp -dsimp -implicitDefEqProofs (disch:=first|omega|assumption|(simp only[aE,Nat.reduceAdd];try omega)) only[go_sem,simprocAttr,-List.reduceReplicate,c]):b5:=of_eq_true (b a)
def nY (a:Q=True:=by simp -dsimp -implicitDefEqProofs (disch:=first|omega|assumption|(simp only[aE,Nat.reduceAdd];try omega)) only[go_sem,simprocAttr,-List.reduceReplicate]):Q:=of_eq_true a
def gW (a:Q) (b:Q->b5=True:=by intro c;simp -dsimp -implicitDefEqProofs (disch:=first|omega|assumption|(simp only[aE,Nat.reduceAdd];try omega)) only[go_sem,simprocAttr,c]):b5:=of_eq_true (b a)
def qw (a:Q=True:=by simp -dsimp -implicitDefEqProofs (disch:=first|omega|assumption|(simp only[aE,Nat.reduceAdd];try omega)) only[go_sem,simprocAttr]):Q:=of_eq_true a
def c2 (a:Q) (b:b5):Q/\b5:=⟨a,b⟩
def aI (a:Q) (b:b5) (c:h4):Q/\b5/\h4:=⟨a,b,c⟩
def aM (a:Q) (b:b5) (c:h4) (d:j1):Q/\b5/\h4/\j1:=⟨a,b,c,d⟩
def bo (a:Q) (b:b5) (c:h4) (d:j1) (h:j6):Q/\b5/\h4/\j1/\j6:=⟨a,b,c,d,h⟩
def bC {a:Prop} (b:Q) (c:b5) (d:h4) (h:j1) (k:j6) (o:a):Q/\b5/\h4/\j1/\j6/\a:=⟨b,c,d,h,k,o⟩
def cc {a b:Prop} (c:Q) (d:b5) (h:h4) (k:j1) (o:j6) (p:a) (r:b):Q/\b5/\h4/\j1/\j6/\a/\b:=⟨c,d,h,k,o,p,r⟩
def bu {a b c:Prop} (d:Q) (h:b5) (k:h4) (o:j1) (p:j6) (r:a) (x:b) (y:c):Q/\b5/\h4/\j1/\j6/\a/\b/\c:=⟨d,h,k,o,p,r,x,y⟩
def dr {a b c d:Prop} (h:Q) (k:b5) (o:h4) (p:j1) (r:j6) (x:a) (y:b) (z:c) (C:d):Q/\b5/\h4/\j1/\j6/\a/\b/\c/\d:=⟨h,k,o,p,r,x,y,z,C⟩
def ct {a b c d h:Prop} (k:Q) (o:b5) (p:h4) (r:j1) (x:j6) (y:a) (z:b) (C:c) (D:d) (E:h):Q/\b5/\h4/\j1/\j6/\a/\b/\c/\d/\h:=⟨k,o,p,r,x,y,z,C,D,E⟩
def iy {a b c d h k:Prop} (o:Q) (p:b5) (r:h4) (x:j1) (y:j6) (z:a) (C:b) (D:c) (E:d) (F:h) (G:k):Q/\b5/\h4/\j1/\j6/\a/\b/\c/\d/\h/\k:=⟨o,p,r,x,y,z,C,D,E,F,G⟩
def jc {a b c d h k o:Prop} (p:Q) (r:b5) (x:h4) (y:j1) (z:j6) (C:a) (D:b) (E:c) (F:d) (G:h) (L:k) (P:o):Q/\b5/\h4/\j1/\j6/\a/\b/\c/\d/\h/\k/\o:=⟨p,r,x,y,z,C,D,E,F,G,L,P⟩
def p6 {a b c d h k o p:Prop} (r:Q) (x:b5) (y:h4) (z:j1) (C:j6) (D:a) (E:b) (F:c) (G:d) (L:h) (P:k) (S:o) (T:p):Q/\b5/\h4/\j1/\j6/\a/\b/\c/\d/\h/\k/\o/\p:=⟨r,x,y,z,C,D,E,F,G,L,P,S,T⟩
def fw {a b c d h k o p r:Prop} (x:Q) (y:b5) (z:h4) (C:j1) (D:j6) (E:a) (F:b) (G:c) (L:d) (P:h) (S:k) (T:o) (V:p) (W:r):Q/\b5/\h4/\j1/\j6/\a/\b/\c/\d/\h/\k/\o/\p/\r:=⟨x,y,z,C,D,E,F,G,L,P,S,T,V,W⟩
def p7 {a b c d h k o p r x:Prop} (y:Q) (z:b5) (C:h4) (D:j1) (E:j6) (F:a) (G:b) (L:c) (P:d) (S:h) (T:k) (V:o) (W:p) (e:r) (f:x):Q/\b5/\h4/\j1/\j6/\a/\b/\c/\d/\h/\k/\o/\p/\r/\x:=⟨y,z,C,D,E,F,G,L,P,S,T,V,W,e,f⟩
def p8 {a b c d h k o p r x y:Prop} (z:Q) (C:b5) (D:h4) (E:j1) (F:j6) (G:a) (L:b) (P:c) (S:d) (T:h) (V:k) (W:o) (e:p) (f:r) (g:x) (i:y):Q/\b5/\h4/\j1/\j6/\a/\b/\c/\d/\h/\k/\o/\p/\r/\x/\y:=⟨z,C,D,E,F,G,L,P,S,T,V,W,e,f,g,i⟩
def nZ {a b c d h k o p r x y z:Prop} (C:Q) (D:b5) (E:h4) (F:j1) (G:j6) (L:a) (P:b) (S:c) (T:d) (V:h) (W:k) (e:o) (f:p) (g:r) (i:x) (j:y) (l:z):Q/\b5/\h4/\j1/\j6/\a/\b/\c/\d/\h/\k/\o/\p/\r/\x/\y/\z:=⟨C,D,E,F,G,L,P,S,T,V,W,e,f,g,i,j,l⟩
def Cf {a b c d h k o p r x y z C:Prop} (D:Q) (E:b5) (F:h4) (G:j1) (L:j6) (P:a) (S:b) (T:c) (V:d) (W:h) (e:k) (f:o) (g:p) (i:r) (j:x) (l:y) (m:z) (n:C):Q/\b5/\h4/\j1/\j6/\a/\b/\c/\d/\h/\k/\o/\p/\r/\x/\y/\z/\C:=⟨D,E,F,G,L,P,S,T,V,W,e,f,g,i,j,l,m,n⟩
def o0 {a b c d h k o p r x y z C D E:Prop} (F:Q) (G:b5) (L:h4) (P:j1) (S:j6) (T:a) (V:b) (W:c) (e:d) (f:h) (g:k) (i:o) (j:p) (l:r) (m:x) (n:y) (q:z) (s:C) (t:D) (u:E):Q/\b5/\h4/\j1/\j6/\a/\b/\c/\d/\h/\k/\o/\p/\r/\x/\y/\z/\C/\D/\E:=⟨F,G,L,P,S,T,V,W,e,f,g,i,j,l,m,n,q,s,t,u⟩
section
def W7:G K (.mD Z) j f s=dE (q9 (aj j Z)) (c3 (λa=>s a f) ()):=by simp only[G];cases q9 (aj j Z)<;>rfl
def W8:q9 (.al i v e M)=some (.v (.int .i64 e)):=rfl
def W9:q9 (.J [] .nil)=some (.v (.int .i64 0)):=rfl
def c7 (d:Nat) (x:R) (h k o:Option R):Option R:=
 match x with
 | .al p len cap r=>match cz h 0,cz k len,cz o cap with
  |some a,some c,some b=>if r=d/\0<=a/\a<=c/\c<=b/\b<=cap then
    some (if h.isSome=true then(if a<b then .bw p (a.toNat*d) (c.toNat - a.toNat) (b.toNat - a.toNat) d else .J [] .zero)else .al p c.toNat b.toNat d)
   else none
  | _,_,_=>none
 | .bw p off len cap r=>match cz h 0,cz k len,cz o cap with
  |some a,some c,some b=>if r=d/\0<=a/\a<=c/\c<=b/\b<=cap then
    some (if a<b then .bw p (off+a.toNat*d) (c.toNat - a.toNat) (b.toNat - a.toNat) d else .J [] .zero)
   else none
  | _,_,_=>none
 | .J [] .nil=>match cz h 0,cz k 0,cz o 0 with
  |some a,some c,some b=>if a=0/\c=0/\b=0 then some (.J [] .nil)else none
  | _,_,_=>none
 | .J [] .zero=>match cz h 0,cz k 0,cz o 0 with
  |some a,some c,some b=>if a=0/\c=0/\b=0 then some (.J [] .zero)else none
  | _,_,_=>none
 | _=>none
def Wa {a b c:Option Operand}:rC j e n a b c=c7 e n (a.map (aj j)) (b.map (aj j)) (c.map (aj j)):=by simp only[rC,c7,wJ,Option.isSome_map];cases n<;>try rfl
def Wb {a b c:Option Operand}:G K (.lO e Z a b c) j f s=dE (c7 e (aj j Z) (a.map (aj j)) (b.map (aj j)) (c.map (aj j))) (c3 (λd=>s d f) ()):=by simp only[G,Wa];cases c7 e (aj j Z) (a.map (aj j)) (b.map (aj j)) (c.map (aj j))<;>rfl
theorem hP (a:v<=i):c7 e (.al M c0 i e) none (some (.v (.int e2 (v:Int)))) none=some (.al M v i e):=by grind[c7,cz,intOf]
theorem gn (a:e<=v) (b:v<=M) (c:e<M):c7 i (.al c0 v M i) (some (.v (.int e2 (e:Int)))) none none=some (.bw c0 (e*i) (v - e) (M - e) i):=by grind[c7,cz,intOf]
def tS (a:e=v):c7 i (.al M e v i) (some (.v (.int e2 (e:Int)))) none none=some (.J [] .zero):=by subst a;simp[c7,cz,intOf]
theorem Cg {a:IntKind} (b:e<=M) (c:M<=v) (d:e<v):c7 i (.al c0 j0 v i) (some (.v (.int e2 (e:Int)))) (some (.v (.int a (M:Int)))) none=some (.bw c0 (e*i) (M - e) (v - e) i):=by grind[c7,cz,intOf]
def Wc:c7 e (.J [] .zero) (some (.v (.int e2 0))) none none=some (.J [] .zero):=by simp[c7,cz,intOf]
def Wd:c7 e (.J [] .nil) (some (.v (.int e2 0))) none none=some (.J [] .nil):=by simp[c7,cz,intOf]
def wZ:c7 e (.J [] .nil) none (some (.v (.int e2 0))) none=some (.J [] .nil):=by simp[c7,cz,intOf]
def Ch (a:Option U) (b:U->Prop):Prop:=
 match a with
 |some c=>b c
 |none=>False
def We {a:U->Prop}{b:cC a}:Ch (some f) (c3 a b)=a f:=rfl
def Ci (a:Option (R×U)) (b:R->U->Prop):Prop:=
 match a with
 |some (c,d)=>b c d
 |none=>False
def Wf {a:cC s}:Ci (some (n,f)) (bO s a)=s n f:=rfl
def Wg:G K (.mE e g Z) j f s=Ch (kp e g (aj j Z) f) (c3 (λa=>s (.aL []) a) ()):=by simp only[G];cases kp e g (aj j Z) f<;>rfl
def Wh:G K (.mF e Z e9) j f s=Ci (kZ e (aj j Z) (aj j e9) f) (bO s ()):=by
 simp only[G];cases kZ e (aj j Z) (aj j e9) f with
 |none=>rfl
 |some a=>obtain⟨b,c⟩:=a;rfl
def Wi:G K (.mH Z e9) j f s=dE (kr (aj j Z) (aj j e9) f) (c3 (λa=>s a f) ()):=by simp only[G];cases kr (aj j Z) (aj j e9) f<;>rfl
def x0 (a:f i=some (.cells g)) (b:v+M*e<=g.length):kp e A (.bw i v M c0 e) f=some (f.set i (.cells (putAt g v (List.replicate M A).flatten))):=by simp[kp,a,b]
def Wj:kp e g (.J [] N) f=some f:=rfl
def hn (a:bM f e n=some (c0,A)) (b:f v=some (.cells g)) (c:M+i*e<=g.length):kZ e (.bw v M i j0 e) n f=some (.v (.int .i64 (min c0 i:Nat)),f.set v (.cells (putAt g M (A.take (i*e))))):=by simp[kZ,a,b,c]
def x1 (a:cQ n=some e) (b:cQ b3=some i) (c:e≠i) (d:kq f e=true) (h:kq f i=true):kr n b3 f=some (.v (.bool false)):=by simp[kr,a,b,c,d,h]
def qx (a:f e=some (.cells g)) (b:g≠ []):kq f e=true:=by
 cases g with
 |nil=>exact absurd rfl b
 |cons c g=>simp[kq,a]
def sd (c p:Nat) (r:List R) (k:U) (y z:R) (x:R->U->Prop):Prop:=
 match y,z with
  | .al C d cap D,.v (.int .i64 a)=>match k.read C with
   |some cs=>D=c/\cs.length=cap*c/\0<=a/\cap<d+a.toNat/\(d+a.toNat)*p<=140737488355328/\d+a.toNat<=9223372036854775807/\
    ∀h b o,k h=none->d+a.toNat<=b->b<=maxLen->o.length=(b -(d+a.toNat))*c->x (.al h (d+a.toNat) b c) (k.set h (.cells (cs.take (d*c)++(List.replicate a.toNat r).flatten++o)))
   |none=>False
  | .J xs E,.v (.int .i64 a)=>xs= []/\E= .nil/\0<a/\a.toNat*p<=140737488355328/\a<=9223372036854775807/\
    ∀h b o,k h=none->a.toNat<=b->b<=maxLen->o.length=(b - a.toNat)*c->x (.al h a.toNat b c) (k.set h (.cells ((List.replicate a.toNat r).flatten++o)))
  | _,_=>False
def Wk:G K (.mG e i g Z e9) j f s=sd e i g f (aj j Z) (aj j e9) (bO s ()):=rfl
def x2 {d:cC s} (h:f j0=some (.cells g)) (k:g.length=M*v) (o:M<e+i) (p:(e+i)*c0<=140737488355328) (r:e+i<=9223372036854775807)
  (x: ∀b a c,f b=none->e+i<=a->a<=maxLen->c.length=(a -(e+i))*v->s (.al b (e+i) a v) (f.set b (.cells (g.take (e*v)++(List.replicate i A).flatten++c)))):sd v c0 A f (.al j0 e M v) (.v (.int .i64 (i:Int))) (bO s d):=by
 simp only[sd,U.af h,a5g];exact⟨trivial,k,a9p,o,p,r,x⟩
def Cj {d:cC s} (o:0<e) (h:e*v<=140737488355328) (p:e<=9223372036854775807)
  (k: ∀b a c,f b=none->e<=a->a<=maxLen->c.length=(a - e)*i->s (.al b e a i) (f.set b (.cells ((List.replicate e g).flatten++c)))):sd i v g f (.J [] .nil) (.v (.int .i64 (e:Int))) (bO s d):=by
 simp only[sd,a5g];exact⟨trivial,trivial,a9p,h,a9p,k⟩
def View (c:U) (h:R) (k:U) (o:R):Prop:= ∀(a:bl) (b:World) (v:Value),Holds a c b->aZ a v h-> ∃d,Step a c b d k b/\aZ d v o
def AC.view (k:AC m b4 g f s) (o: ∀a b,s a b-> ∃c d,View b a d c/\a7 c d):AC m b4 g f a7:=
 λp r x y z=>(k p r x y z).mono λ_ _ C=>by
  obtain⟨v,a,D,b,E,h,F,G⟩:=C;obtain⟨c,d,L,P⟩:=o a b G;obtain⟨S,T,V⟩:=L D _ v h.holds F;exact⟨v,c,S,d,E,h.trans T,V,P⟩
theorem View.refl {a:U}{b:R}:View a b a b:=λc k v d h=>⟨c,.refl d,h⟩
theorem View.J {s:U}{a:List R}{o:Own}:View s (.J a o) s (.J a .any):=λb E v c d=>by
 refine⟨b,.refl c,?_⟩;cases d with
 |di h cap dn bP k=>exact .di h cap .any bP trivial
 |J p off len cap r x a dn hk hlen y z C hH D k=>exact .J p off len cap r x a .any hk hlen y z C hH D trivial
theorem View.al {b:U}{c n cap k:Nat}{a:List R} (h:b c=some (.cells a)) (o:n*k<=a.length):View b (.al c n cap k) (b.set c (.ro a)) (.J (dK k n a) .any):=λy z v p r=>by
 obtain⟨x,d⟩:=Step.freeze p h;exact⟨x,d,aZ.frozen d.holds (U.ah _ _ _) o (r.mono d.le)⟩
theorem ky:dK 1 e g=g.take e:=by simp[dK]
theorem Wl (c:i<=v):dK e i (g.take (v*e))=dK e i g:=by
 unfold dK;by_cases hk:e=1;grind
 .simp only[hk,if_false];refine a6p λa b=> ?_;have b:a<i:=by simpa using b
  have d:a*e+e<=v*e:=by have:(a+1)*e<=v*e:=a4Y _ a9p;grind
  rw[a6f,a5Y,a6r a9p]
theorem View.dV (o:ar t f e g n): ∃a d,g.length=a*e/\t.sub d/\View f n d (.J (dK e a g) .any):=by
 obtain⟨b,p⟩:=o;rcases p with ⟨rfl,rfl|rfl⟩|⟨h,a,F,r,rfl,x,y,G,z,C,L,P⟩
 .refine⟨0,f,a9q,b,?_⟩;grind[dK,View.J]
 .refine⟨0,f,a9q,b,?_⟩;grind[dK,View.J]
 .refine⟨a,f.set h (.ro r),C,λk D c=> ?_,?_⟩
  .have E:k≠h:=by rintro rfl;rw[x]at c;cases c
   rw[U.an _ _ E];exact b k D c
  .rw[<-z,Wl (a5k a)];exact View.al y (by grind)
theorem View.trans {a b c:U}{d h k:R} (r:View a d b h) (x:View b h c k):View a d c k:=λy o v z C=>by
 obtain⟨D,p,E⟩:=r y o v z C;obtain⟨F,G,L⟩:=x D o v p.holds E;exact⟨F,p.trans G,L⟩
theorem View.aL {c d:U}{b h:R}{a k:List R} (x:View c b d h):View c (.aL (a++b::k)) d (.aL (a++h::k)):=λy z v C D=>by
 cases D with
 |aL E cs F o=>
  have G:=o a.length b a9q;obtain⟨L,p,S⟩:=x y z _ C G;refine⟨L,p,.aL E _ (by simpa using F) λr P T=> ?_⟩;by_cases V:r=a.length;simp_all
  .refine(o r P ?_).mono p.le;grind
theorem View.agg {d h:U}{b c:R}{a k:List R} (S:c.one=true) (x:View d b h c):View d (.agg (a++b::k)) h (.agg (a++c::k)):=λy z v C D=>by
 cases D with
 |agg E cs T F o=>
  have G:=o a.length b a9q;obtain⟨L,p,V⟩:=x y z _ C G;refine⟨L,p,.agg E _ (λW e=> ?_) (by simpa using F) λr P f=> ?_⟩;grind;by_cases g:r=a.length;simp_all
  .refine(o r P ?_).mono p.le;grind
end
def eL:=
 a4F @W7<|
 a4F @Wb<|
 a4F @Wg<|
 a4F @Wh<|
 a4F @Wi<|
 a4F @Wk<|
 a4F @We<|
 a4F @Wf<|
 a4F @W8<|
 a4F @W9<|
 @wZ
def dC (a:Q) (b:h4) (c:Q->b5=h4:=by intro d;simp -dsimp -implicitDefEqProofs (disch:=first|omega|assumption|(simp only[aE,Nat.reduceAdd];try omega)) only[go_sem,simprocAttr,-List.reduceReplicate,↓eL,d];rfl):b5:=(c a).mpr b
def Ck (a:b5) (b:Q=b5:=by simp -dsimp -implicitDefEqProofs (disch:=first|omega|assumption|(simp only[aE,Nat.reduceAdd];try omega)) only[go_sem,simprocAttr,-List.reduceReplicate,↓eL];rfl):Q:=b.mpr a
def wr:dM->List Nat
 | .plain ops| .draw ops _=>ops.filterMap (·.dst)
 | .seq a b| .cond _ a b=>wr a++wr b
 | .block _ a| .loop a=>wr a
 | _=> []
def ho (b:List Nat) (c d:Fr):Prop:= ∀a,a∉b->d a=c a
theorem ho.trans {a:List Nat}{b c d:Fr} (o:ho a b c) (p:ho a c d):ho a b d:=λh k=>(p h k).trans (o h k)
def ho.put {c:List Nat}{b:Option Nat} (d: ∀a,b=some a->a∈c):ho c j (dm j b n):=λa h=>tC j b n a λk=>h (d a k)
section
def Cl {a:List Nat}{k:Fr->U->Prop}{o:Fr}: ∀(b:List c6),(∀c∈b,∀p,c.dst=some p->p∈a)-> ∀(j:Fr) (f:U),ho a o j->iU K b k j f->iU K b (λr d=>k r d/\ho a o r) j f
 | [],_,j,f,cv,h=>⟨h,cv⟩
 |c::y,x,j,f,cv,h=>mM (λE d z=>Cl y (λC D=>x C (a6j _ D)) _ d (cv.trans (ho.put (x c (a6t ..)))) z) h
def Cm {b:List Nat}{c:Nat->c6}{h:Fr->U->Prop}{k:Fr} (o: ∀z p,(c z).dst=some p->p∈b): ∀(r:List dj) (j:Fr) (f:U),ho b k j->can K c h r j f->can K c (λx d=>h x d/\ho b k x) r j f
 | [],j,f,cv,a=>⟨a,cv⟩
 |C::D,j,f,cv,a=>⟨a.1,mM (λE d y=>⟨y.1,Cm o D _ d (cv.trans (ho.put (o C.i))) y.2⟩) a.2⟩
theorem o1 {p:List Nat}: ∀(r:dM),(∀b∈wr r,b∈p)-> ∀ {k:gm->Fr->U->Prop}{f0:Fr} (j:Fr) (f:U),ho p f0 j->bT K r k j f->bT K r (λd z D=>k d z D/\ho p f0 z) j f
 | .skip,_,_,_,j,f,cv,a=>⟨a,cv⟩
 | .ret,_,_,_,j,f,cv,a=>⟨a,cv⟩
 | .exit _,_,_,_,j,f,cv,a=>⟨a,cv⟩
 | .plain ops,hw,_,_,j,f,cv,a=>Cl ops (λE F b o=>hw b (a8p.2 ⟨E,F,o⟩)) j f cv a
 | .draw ops G,hw,_,_,j,f,cv,a=>Cm (λx b o=>by
   refine hw b (a8p.2 ?_);grind[nth,List.mem_of_getElem?]) G j f cv a
 | .seq c y,hw,k,f0,j,f,cv,a=>jb c (λd j f a=>by
   cases d with
   |norm=>exact o1 y (λb h=>hw b (a6V _ h)) j f a.2 a.1
   |exit x=>exact a
   |ret=>exact a) j f (o1 c (λb h=>hw b (a6Z _ h)) j f cv a)
 | .block x c,hw,k,f0,j,f,cv,a=>jb c (λd j f a=>by
   cases d with
   |norm=>exact a
   |exit W=>obtain⟨L,e⟩:=a;simp only[lf]at L|-;split<;>(simp_all)
   |ret=>exact a) j f (o1 c hw j f cv a)
 | .cond r c y,hw,k,f0,j,f,cv,a=>by
   simp only[wD,Bs,ku]at a|-;split at a
   .exact⟨λo=>o1 c (λb h=>hw b (a6Z _ h)) j f cv (a.1 o),λo=>o1 y (λb h=>hw b (a6V _ h)) j f cv (a.2 o)⟩
   .exact a.elim
 | .loop c,hw,k,f0,j,f,cv,a=>by
   obtain⟨P,S,T,V⟩:=a;refine⟨λj f=>P j f/\ho p f0 j,S,⟨T,cv⟩,λj f C=>jb c (λd j f a=> ?_) j f (o1 c hw j f C.2 (V j f C.1))⟩;cases d with
   |norm=>exact⟨⟨a.1.1,a.2⟩,a.1.2⟩
   |exit x=>exact a
   |ret=>exact a
def gN (a:Fr):List (Nat×R)->Prop
 | []=>True
 |b::c=>a b.1=b.2/\gN a c
def Wm:gN j []=True:=rfl
def Wn {v:R}:gN j [(e,v)]=(j e=v):=by simp[gN]
def Wo {v:R}{a:Nat×R}{b:List (Nat×R)}:gN j ((e,v)::a::b)=(j e=v/\gN j (a::b)):=rfl
def gX (a:Fr):List (Nat×R)->Fr
 | []=>a
 |b::c=>dm (gX a c) (some b.1) b.2
def Wp:gX j []=j:=rfl
def Wq {v:R}{a:List (Nat×R)}:gX j ((e,v)::a)=dm (gX j a) (some e) v:=rfl
theorem se {a:Fr}: ∀ {b:List (Nat×R)},gN a b->gX a b=a
 | [],_=>rfl
 |d::o,c=>by
  rw[gX,se c.2];funext h;by_cases k:h=d.1
  .subst k;rw[<-c.1];simp[dm,kg]
  grind[tC,Option.some.inj]
def keeps (a:Fr):List Nat->List (Nat×R)
 | []=> []
 |b::c=>(b,a b)::keeps a c
def Wr:keeps j []= []:=rfl
def Ws {a:List Nat}:keeps j (e::a)=(e,j e)::keeps j a:=rfl
def x3 {b c:Fr}: ∀ {d:List Nat},(∀a∈d,c a=b a)->gN c (keeps b d)
 | [],_=>trivial
 |a::p,h=>⟨h a (a6t ..),x3 λk o=>h k (a6j _ o)⟩
theorem Cn: ∀ {n:Nat},j5 n-> ∃n,j5 n/\ ∀a,j5 a->n<=a:=by
 intro n
 induction n using Nat.strongRecOn with
 |ind n ih=>grind
theorem ch (D:List Nat) (y:b0->List (Nat×R)) (E:b0->U->Prop) (b:b0->Nat) (L:b0)
  (m:E L f/\gN j (y L)) (P: ∀x d,E x d-> ∀h,bT K h7 (eR (λn q=> ∃a,E a q/\gN n (y a)/\b a<b x) e8) (gX (gX h (keeps j D)) (y x)) d)
  (I:D.all (λS=> !(wr h7).contains S)=true:=by kernel_rfl):cw (bT K (.loop h7) e8 j f) ():=by
 classical
 let p:=λ(h:Fr) (d:U) (a:b0)=>E a d/\gN h (y a)
 let z:=λ(h:Fr) (d:U)=>if C: ∃k,(∃a,p h d a/\b a=k)/\ ∀o,(∃a,p h d a/\b a=o)->k<=o then C.choose else 0;refine⟨λh d=>(∃a,p h d a)/\ho (wr h7) j h,z,⟨⟨L,m⟩,λ_ _=>rfl⟩,λc r T=> ?_⟩;have C: ∃k,(∃a,p c r a/\b a=k)/\ ∀o,(∃a,p c r a/\b a=o)->k<=o:=by obtain⟨a,s⟩:=T.1;exact Cn (n:=b a) ⟨a,s,rfl⟩
 obtain⟨⟨x,i,hm⟩,M⟩:=C.choose_spec;have t:gN c (keeps j D):=x3 λS N=>T.2 S λO=>by
  simp_all
 have u:gX (gX c (keeps j D)) (y x)=c:=by rw[se t,se i.2]
 have l:=P x r i.1 c;rw[u]at l;refine jb h7 (λv F G V=> ?_) c r (o1 (p:=wr h7) (f0:=j) h7 (λ_ P=>P) c r T.2 l);cases v with
 |norm=>obtain⟨⟨a,W,e,w⟩,A⟩:=V;refine⟨⟨⟨a,W,e⟩,A⟩,?_⟩;have g: ∃k,(∃a,p F G a/\b a=k)/\ ∀o,(∃a,p F G a/\b a=o)->k<=o:=Cn (n:=b a) ⟨a,⟨W,e⟩,rfl⟩;show z F G<z c r;have B:z F G=g.choose:=dif_pos g;have H:z c r=C.choose:=dif_pos C;rw[B,H];exact Nat.lt_of_le_of_lt (g.choose_spec.2 _ ⟨a,⟨W,e⟩,rfl⟩) (by rw[<-hm];exact w)
 |exit Q=>exact V.1
 |ret=>exact V.1
end
theorem gO (d:List Nat) (b:b0->List (Nat×R)) (c:b0->Prop) (h:b0->Nat) (k:b0)
  (x:c k) (y:gN j (b k)) (z: ∀a,c a-> ∀o,bT K h7 (eR (λC D=> ∃p,D=f/\c p/\gN C (b p)/\h p<h a) e8) (gX (gX o (keeps j d)) (b a)) f)
  (E:d.all (λF=> !(wr h7).contains F)=true:=by kernel_rfl):cw (bT K (.loop h7) e8 j f) ():=
 ch d b (λa r=>r=f/\c a) h k ⟨⟨rfl,x⟩,y⟩ (λa r G o=>by
  obtain⟨rfl,L⟩:=G;refine jb h7 (λP S T V=> ?_) _ _ (z a L o);grind) E
def tT:=
 a4F @Wm<|
 a4F @Wn<|
 a4F @Wo<|
 a4F @Wp<|
 a4F @Wq<|
 a4F @Wr<|
 @Ws
def U.tU (a:f e=none) (b:t.sub f):t e=none:=U.bF b a
def U.Wt (c:f e=none):f.sub (t.set e Y)=f.sub t:=propext ⟨λa d h b=>by
 have k:d≠e:=by rintro rfl;rw[c]at b;cases b
 have:=a d h b;rwa[U.an _ _ k]at this,λa=>U.ae a c⟩
def U.sub_self:f.sub f=True:=eq_true U.a1
def Wu:(∃b,b.sub t/\f.sub b)=f.sub t:=propext ⟨λ⟨_,a,h⟩ c d k=>a c d (h c d k),λa=>⟨f,a,U.a1⟩⟩
def Wv:(∃b,b.sub t/\b=f)=f.sub t:=propext ⟨λ⟨_,a,c⟩=>by subst c;exact a,λa=>⟨f,a,rfl⟩⟩
def Ww:qp (bd B)=some (.v (.int .i64 B.length)):=wO
def Wx (a:e<B.length):s5 (bd B) (.v (.int e2 (e:Int)))=some (.v (.int .u8 (B.getD e 0).toNat)):=by have:=C2 (B:=B) (e2:=e2) (b1:=(e:Int)) a9p a9p;rwa[a5g]at this
def o2:cR e (.J g N) (.v (.int e2 (i:Int)))=eC e g[i]? :=by rw[hl a9p,a5g]
def Wy:eC 1 (some (.v e4))=some (.bV [.v e4]):=rfl
def Wz:eC 1 (some (bd B))=some (.bV [bd B]):=rfl
def WA:eC 1 (some (.J g N))=some (.bV [.J g N]):=rfl
def WB:eC 1 (some (.ptr e i))=some (.bV [.ptr e i]):=rfl
def WC [Decidable Q]:(!decide Q)=decide (¬Q):=decide_not.symm
def WD:(xor false I)=I:=a7A I
def WE:(∃b,b.sub t/\f.sub b/\Q)=(f.sub t/\Q):=propext ⟨λ⟨_,a,h,k⟩=>⟨λc d o=>a c d (h c d o),k⟩,λa=>⟨f,a.1,U.a1,a.2⟩⟩
def WG:(∃b,b.sub t/\b=f/\Q)=(f.sub t/\Q):=propext ⟨λ⟨_,a,c,d⟩=>by subst c;exact⟨a,d⟩,λa=>⟨f,a.1,rfl,a.2⟩⟩
def WH {a:b0}{b:List b0}:List.take (e+1) (a::b)=a::List.take e b:=rfl
def WI {a:List b0}:List.take 0 a= []:=rfl
def WJ:List.take e ([]:List b0)= []:=a9c
def WK {a:List b0}:List.drop 0 a=a:=rfl
def WL:putAt (b3::g) 0 (n::A)=n::putAt g 0 A:=by simp[putAt]
def WM:putAt g 0 []=g:=by simp[putAt]
def WN:putAt (n::g) (e+1) A=n::putAt g e A:=by simp[putAt,Nat.add_right_comm]
def WO {b:b0}{a:List b0}:(b::a).length=a.length+1:=rfl
def WQ:([]:List b0).length=0:=rfl
def WR:(bd B).cells= [bd B]:=rfl
def WS:(R.J g N).cells= [.J g N]:=rfl
def WT:(R.ptr e i).cells= [.ptr e i]:=rfl
def WU {v:Value}:(R.v v).cells= [.v v]:=rfl
theorem p9 (a:e<=g.length) (b:aN i g):dN i (.J g N) (some (.v (.int e2 (e:Int)))) none=some (.J (g.drop e) .any):=by grind[qn,Int.toNat_natCast]
def WV (a:e<g.length) (b:aN i g):dN i (.J g N) (some (.v (.int e2 ((e:Int)+1)))) none=some (.J (g.drop (e+1)) .any):=p9 (e:=e+1) a b
theorem WW (a:e<=g.length) (b:aN i g):dN i (.J g N) none (some (.v (.int e2 (e:Int))))=some (.J (g.take e) .any):=by grind[nU,Int.toNat_natCast]
theorem WX {a:IntKind} (b:i<=e) (c:e<=g.length) (d:aN v g):dN v (.J g N) (some (.v (.int e2 (i:Int)))) (some (.v (.int a (e:Int))))=some (.J ((g.take e).drop i) .any):=by grind[BR,Int.toNat_natCast]
def WY:(∃ _:Unit,True)=True:=eq_true ⟨(),trivial⟩
def WZ {a:cC s}:jJ e f [] (bO s a)=s (.J [] .zero) f:=by simp[jJ,bO]
def X0:cR e (.J g N) (.v (.int e2 0))=eC e g[0]? :=o2 (i:=0)
def X1:cR e (.J g N) (.v (.int e2 1))=eC e g[1]? :=o2 (i:=1)
def tV:=
 a4F @X0<|
 a4F @X1<|
 a4F @WY<|
 a4F @p9<|
 a4F @WV<|
 a4F @WW<|
 a4F @WX<|
 a4F @WR<|
 a4F @WS<|
 a4F @WT<|
 a4F @WU<|
 a4F @U.ah<|
 a4F @U.an<|
 a4F @WL<|
 a4F @WM<|
 a4F @WN<|
 a4F @WO<|
 a4F @WQ<|
 a4F @WH<|
 a4F @WI<|
 a4F @WJ<|
 a4F @WK<|
 a4F @U.Wt<|
 a4F @U.sub_self<|
 a4F @Wu<|
 a4F @Wv<|
 a4F @WE<|
 a4F @WG<|
 a4F @true_and<|
 a4F @and_true<|
 a4F @Ww<|
 a4F @Wx<|
 a4F @o2<|
 a4F @Wy<|
 a4F @Wz<|
 a4F @WA<|
 a4F @WB<|
 a4F @hN<|
 a4F @hN<|
 a4F @BI<|
 a4F @decide_true<|
 a4F @decide_false<|
 a4F @a5F<|
 a4F @a5w<|
 a4F @a6m<|
 a4F @a7d<|
 a4F @a8s<|
 a4F @Bool.and_false<|
 a4F @WD<|
 a4F @Bool.true_xor<|
 a4F @WC<|
 @Decidable.not_not
theorem sf {a:Nat->Bool} (b:e<i) (c:a e=false):(List.range i).all a=false:=List.all_eq_false.2 ⟨e,a5Z.2 b,by simp[c]⟩
theorem sg {a:Nat->Bool} (b: ∀c<e,a c=true):(List.range e).all a=true:=a4W.2 λd h=>b d (a5Z.1 h)
def upto (b: ∀a<e,j5 a) (c:j5 e): ∀a<e+1,j5 a:=λa d=>(Nat.lt_or_eq_of_le (Nat.le_of_lt_succ d)).elim (b a) λh=>h▸c
def X2:R.v (.int e2 ((e:Int)+1))= .v (.int e2 ((e+1:Nat):Int)):=rfl
theorem qy {a:Bool} (b:(I=true)=(a=true):=by apply propext;(try dsimp only);(try simp (disch:=omega) only[if_pos,if_neg,a4K,a6s,a6l,Bool.not_eq_eq_eq_not,a5F,a5w,decide_eq_true_eq,decide_eq_false_iff_not,a5Q,false_iff,iff_false,true_iff,iff_true,true_and,and_true,false_and,and_false,false_or,or_false,true_or,or_true,iff_self, *])<;>omega):I=a:=by cases I<;>cases a<;>simp_all
theorem aQ {a:Bool} (b:I=a:=by exact qy):R.v (.bool I)= .v (.bool a):=b▸rfl
theorem aR {a:Bool} (b:I=a):R.v (.bool I)= .v (.bool a):=by rw[b]
def U.tW (a:f.sub t) (b:f e=some Y):t e=some Y:=a _ _ b
def U.tX (a:bh f t i g N) (b:f e=some Y):t e=some Y:=a.sub _ _ b
def iz (c d:U):Prop:= ∀a b,c a=some (.cells b)->d a=some (.cells b)
def U.o3 (a:f.sub t):iz f t:=λc d b=>a _ _ b
theorem iz.trans (a:iz f t) (b:iz t e7):iz f e7:=λd h c=>b _ _ (a _ _ c)
def U.tY (a:iz f t) (b:f e=some (.cells g)):t e=some (.cells g):=a _ _ b
def U.tZ {a:bp} (b:f e=some Y) (c:f i=none):(f.set i a) e=some Y:=U.ae U.a1 c _ _ b
def U.gY (b:f i=none) (a:f e=some Y):e≠i:=by rintro rfl;rw[b]at a;cases a
def a0 (a:f e=some Y:=by first|assumption|exact U.ah _ _ _):f e=some Y:=a
def a3 (a:f e=some Y:=by first|exact a0|exact U.tZ a2 a9s|exact U.tW a9s a2|exact U.tX a9s a2|exact U.x4 a9s a2|exact U.tY a9s a2):f e=some Y:=a
def a4 (a:f e=some Y:=by first|exact a0|exact U.tZ a3 a9s|exact U.tW a9s a3|exact U.tX a9s a3|exact U.x4 a9s a3|exact U.tY a9s a3):f e=some Y:=a
def a5 (a:f e=some Y:=by first|exact a0|exact U.tZ a4 a9s|exact U.tW a9s a4|exact U.tX a9s a4|exact U.x4 a9s a4|exact U.tY a9s a4):f e=some Y:=a
def dw (a:f e=some Y:=by first|exact a0|exact U.tZ a5 a9s|exact U.tW a9s a5|exact U.tX a9s a5|exact U.x4 a9s a5|exact U.tY a9s a5):f e=some Y:=a
def fX (c: ∀a b,f a=some (.cells b)->t a=some (.cells b):=by intro _ _ _;exact dw):iz f t:=c
def qz (c: ∀a b,f a=some b->t a=some b:=by intro _ _ _;exact dw):f.sub t:=c
section
def eE (a:Q=b5:=by simp -dsimp -implicitDefEqProofs (disch:=first|omega|assumption|exact U.tU a9s a9s|(simp only[aE,Nat.reduceAdd];try omega)) only[go_sem,simprocAttr,-List.reduceReplicate,↓eL,tV,tT, *]<;>rfl):Q=b5:=a
def hQ (a:Q=b5:=by first|exact eE|rfl):Q=b5:=a
def aa (a:b5) (b:Q=b5:=by exact hQ):Q:=b.mpr a
def aU (a:Q=True:=by simp -dsimp -implicitDefEqProofs (disch:=first|omega|assumption|exact U.tU a9s a9s|(simp only[aE,Nat.reduceAdd];try omega)) only[go_sem,simprocAttr,-List.reduceReplicate,↓eL,tV,tT, *]):Q:=of_eq_true a
def aO (b:m.follows .mixedOrders=true) {a:List (Nat×Option (Bool×Nat))} (c:dv m v e=some ⟨i,M,h7,a⟩) (d:Q) (h:g.length<=i:=by simp)
  (k:bT (Ctx.of m) h7 (p4 a s) (lS g) f=Q:=by exact eE):AC m e g f s:=bf b c h (k.mpr d)
def bq {c:Nat->Prop} (d: ∀a,f a=none->c a) (h: ∀a,f a=none->j5 a=c a:=by intro a b;exact eE):iY f (c3 j5 ()):=λa b=>(h a b).mpr (d a b)
def U.set_nil (a:(f.set i Y) e=none):f e=none/\e≠i/\i≠e:=⟨(U.gM a).2,(U.gM a).1,(U.gM a).1.symm⟩
def da {d:Nat->Prop} (o: ∀a,f a=none->a≠e->e≠a->d a) (h: ∀a,f a=none->a≠e->e≠a->j5 a=d a:=by intro a b c h;exact eE):iY (f.set e Y) (c3 j5 ()):=λa b=>by
 obtain⟨b,c,k⟩:=U.set_nil b;exact(h a b c k).mpr (o a b c k)
def hp {k:Nat->Prop}{r:bp} (x: ∀a,f a=none->a≠e->e≠a->a≠i->i≠a->k a) (o: ∀a,f a=none->a≠e->e≠a->a≠i->i≠a->j5 a=k a:=by intro a b c o d h;exact eE):iY ((f.set e Y).set i r) (c3 j5 ()):=λa b=>by
 obtain⟨b,d,h⟩:=U.set_nil b;obtain⟨b,c,p⟩:=U.set_nil b;exact(o a b c p d h).mpr (x a b c p d h)
def cl (c:AC m b4 g f a7) (d: ∀a b,a7 a b->s a b) (h:Q=nT K b4 g f (bO s ()):=by exact hQ) (k:K.p=m:=by rfl):Q:=by subst k;exact h.mpr (ai c d)
def bj (a:AC K.p b4 g f λb c=>c=f/\b=n) (d:Q) (h:s n f=Q:=by exact eE):nT K b4 g f (bO s ()):=ai a λ_ _ a=>by rw[a.1,a.2];exact h.mpr d
theorem lX (c:AC m b4 g f λa b=>b=f/\a=n) (d:b5) (h:Q=nT K b4 g f (bO s ()):=by exact hQ) (k:s n f=b5:=by exact hQ) (o:K.p=m:=by rfl):Q:=by grind[ai]
theorem gs {c:U->Prop} (b:AC K.p b4 g f λd a=>f.sub a/\d=n) (h: ∀a,f.sub a->c a) (k: ∀a,f.sub a->s n a=c a:=by intro a b;exact eE):nT K b4 g f (bO s ()):=ai b λ_ a b=>by simp_all
def mU (a:Q=b5:=by first|(simp only[decide_eq_true_eq,decide_eq_false_iff_not,a6l,Bool.not_eq_false',a5F,a5w,Decidable.not_not]<;>rfl)|rfl):Q=b5:=a
def X3 {c:Prop} (k:(I=true)=Q:=by exact mU) (o:(I=false)=b5:=by exact mU) (d:Q->h4=j6:=by intro;first|exact eE|rfl) (h:b5->j1=c:=by intro;first|exact eE|rfl):ku (.v (.bool I)) (cw h4 ()) (cw j1 ())=((Q->j6)/\(b5->c)):=by subst k o;exact propext ⟨λb=>⟨λa=>(d a).mp (b.1 a),λa=>(h a).mp (b.2 a)⟩,λb=>⟨λa=>(d a).mpr (b.1 a),λa=>(h a).mpr (b.2 a)⟩⟩
def X4 {c:Bool}{d:Prop} (o:(I=c)=Q:=by exact mU) (p:(I= !c)=b5:=by exact mU) (h:Q->h4=j6:=by intro;first|exact eE|rfl) (k:b5->j1=d:=by intro;first|exact eE|rfl):hM (.v (.bool I)) c (cw h4 ()) (cw j1 ())=((Q->j6)/\(b5->d)):=by rw[T1];subst o p;exact propext ⟨λb=>⟨λa=>(h a).mp (b.1 a),λa=>(k a).mp (b.2 a)⟩,λb=>⟨λa=>(h a).mpr (b.1 a),λa=>(k a).mpr (b.2 a)⟩⟩
def aH (a:j1->b5) (b:j6->h4) (c:Q=((j1->b5)/\(j6->h4)):=by first|exact X3|exact X4):Q:=c.mpr ⟨a,b⟩
def Co (a:Q:=by first|assumption|(simp only[decide_eq_true_eq,decide_eq_false_iff_not,a6l,Bool.not_eq_false',Decidable.not_not]<;>omega)):Q:=a
def X5 (a:I=true:=by exact Co) (b:Q=b5:=by exact eE):ku (.v (.bool I)) (cw Q ()) (cw h4 ())=b5:=by subst a;exact Bt.trans b
def X6 (a:I=false:=by exact Co) (b:Q=b5:=by exact eE):ku (.v (.bool I)) (cw h4 ()) (cw Q ())=b5:=by subst a;exact Bu.trans b
def iA (a:b5) (b:Q=b5:=by first|exact X5|exact X6|exact a4y|exact a4z):Q:=b.mpr a
end
theorem eT {a:List b0}{b:b0} (c:e<a.length):a.take (e+1)=a.take e++ [a.getD e b]:=by simp_all
abbrev fx (a b:U) (c:List UInt8) (d:R):Prop:=ar a b 1 (c.map ak) d
def o4 (b:U) (c:R) (a:List UInt8):Prop:=bM b 1 c=some (a.length,a.map ak)
theorem o4.J {s:U}{a:List UInt8}{o:Own}:o4 s (.J (a.map ak) o) a:=by have b:=C6 (f:=s) (B:=a) (N:=o);exact b
def fx.lY (b:fx t f B n):o4 f n B:=by obtain⟨d,a,c,_⟩:=b.src;simp only[a4T,a5t]at a;subst a;exact c
def ar.sub {a b:U}{c:Nat}{d:List R}{h:R} (k:ar a b c d h):a.sub b:=k.1
section
def Cp {d:List UInt8} (c:fx t f B n) (h:o4 f b3 d) (k: ∀b a,fx t a (B++d) b->t.sub a->a7 b a) (p:B.length+d.length<=100000000000:=by(try simp only[a4J,a4M,a4R,a4T, *])<;>omega)
  (o: ∀b a,fx t a (B++d) b->t.sub a->s b a=a7 b a:=by intro b f c r;exact eE):jK 1 1 f n b3 (bO s ()):=
 fj c a9p h a9q a9r a9r λb a c=>by rw[<-a5N]at c;exact(o b a c c.sub).mpr (k b a c c.sub)
def mV {c:List UInt8} (d:fx t e7 B n) (h:fx e7 f c b3) (k: ∀b a,fx t a (B++c) b->t.sub a->a7 b a) (o:B.length+c.length<=100000000000:=by(try simp only[a4J,a4M,a4R,a4T, *])<;>omega)
  (p: ∀b a,fx t a (B++c) b->t.sub a->s b a=a7 b a:=by intro b f d r;exact eE):jK 1 1 f n b3 (bO s ()):=Cp (d.mono h.sub) h.lY k o p
def u0 (c:List UInt8) (o: ∀b a,fx f a c b->f.sub a->a7 b a) (z:g=c.map ak:=by first|rfl|simp) (p:g.length<=1000000000000:=by(try simp only[a4J,a4M,a4R,a4T, *])<;>omega)
  (r: ∀b a,fx f a c b->f.sub a->s b a=a7 b a:=by intro b f d E;exact eE):nV 1 f g (bO s ()):=by
 have h: ∀b a,fx f a c b->s b a:=λb a d=>(r b a d d.sub).mpr (o b a d d.sub);subst z;rw[a4T]at p;by_cases k:c= []
 .subst k;rw[a6y,nW];exact h _ _ (ar.zero U.a1)
 .refine eS (by intro F C;obtain⟨_,_,rfl⟩:=a5d.1 C;rfl) (by simpa using k) λD x=>h _ _ ?_;have y:flat (c.map ak)=c.map ak:=by
   clear h o r k p
   induction c with
   |nil=>rfl
   |cons G c ih=>simp only[a5h,flat,a5l]at ih|-;rw[ih];rfl
  refine⟨U.ae U.a1 x,.inr ⟨D,c.length,c.length,_,a9q,x,U.ah _ _ _,?_,?_,a9q,a9p,by simp only[maxLen];omega⟩⟩
  .rw[y];simp
  .rw[y,a4I a9q]
def hR {d:R->U->Prop} (c:AC K.p b4 g f s) (h: ∀a b,s a b->d a b) (k: ∀a b,s a b->a7 a b=d a b:=by intro a f c;exact eE):nT K b4 g f (bO a7 ()):=ai c λa b c=>(k a b c).mpr (h a b c)
end
section
def x5 {c:Nat->Prop}{x y:bp} (z: ∀a,f a=none->a≠e->e≠a->a≠i->i≠a->a≠v->v≠a->c a) (C: ∀a,f a=none->a≠e->e≠a->a≠i->i≠a->a≠v->v≠a->j5 a=c a:=by intros;exact eE):iY (((f.set e Y).set i x).set v y) (c3 j5 ()):=λa b=>by
 obtain⟨b,d,h⟩:=U.set_nil b;obtain⟨b,k,o⟩:=U.set_nil b;obtain⟨b,p,r⟩:=U.set_nil b;exact(C a b p r k o d h).mpr (z a b p r k o d h)
def X7 {c:Nat->Prop}{z C D:bp} (E: ∀a,f a=none->a≠e->e≠a->a≠i->i≠a->a≠v->v≠a->a≠M->M≠a->c a) (F: ∀a,f a=none->a≠e->e≠a->a≠i->i≠a->a≠v->v≠a->a≠M->M≠a->j5 a=c a:=by intros;exact eE):iY ((((f.set e Y).set i z).set v C).set M D) (c3 j5 ()):=λa b=>by
 obtain⟨b,d,h⟩:=U.set_nil b;obtain⟨b,k,o⟩:=U.set_nil b;obtain⟨b,p,r⟩:=U.set_nil b;obtain⟨b,x,y⟩:=U.set_nil b;exact(F a b x y p r k o d h).mpr (E a b x y p r k o d h)
def jM {v:R} (c: ∀a,f a=none->j5 a) (d:aN e (v::g):=by simp[aN,R.cells, *]) (h: ∀a,f a=none->s (.J (v::g) (.buf a (v::g).length)) (f.set a (.buf e (v::g).length (v::g).length))=j5 a:=by intros;exact eE):jJ e f (v::g) (bO s ()):=by refine⟨d,?_⟩;rw[if_neg a9q];intro a b;exact(h a b).mpr (c a b)
def X8 {v:R} (h: ∀a,f a=none->a≠e->e≠a->j5 a) (k:aN i (v::g):=by simp[aN,R.cells, *]) (o: ∀a,f a=none->a≠e->e≠a->s (.J (v::g) (.buf a (v::g).length)) ((f.set e Y).set a (.buf i (v::g).length (v::g).length))=j5 a:=by intros;exact eE):jJ i (f.set e Y) (v::g) (bO s ()):=by refine⟨k,?_⟩;rw[if_neg a9q];intro a b;obtain⟨b,c,d⟩:=U.set_nil b;exact(o a b c d).mpr (h a b c d)
def u1 {v:R}{c:bp} (p: ∀a,f a=none->a≠e->e≠a->a≠i->i≠a->j5 a) (r:aN M (v::g):=by simp[aN,R.cells, *]) (x: ∀a,f a=none->a≠e->e≠a->a≠i->i≠a->s (.J (v::g) (.buf a (v::g).length)) (((f.set e Y).set i c).set a (.buf M (v::g).length (v::g).length))=j5 a:=by intros;exact eE):jJ M ((f.set e Y).set i c) (v::g) (bO s ()):=by refine⟨r,?_⟩;rw[if_neg a9q];intro a b;obtain⟨b,d,h⟩:=U.set_nil b;obtain⟨b,k,o⟩:=U.set_nil b;exact(x a b k o d h).mpr (p a b k o d h)
def X9 {c:Nat}{v:R}{d h k o:bp} (L: ∀a,f a=none->a≠e->e≠a->a≠i->i≠a->a≠M->M≠a->a≠c0->c0≠a->a≠j0->j0≠a->j5 a) (P:aN c (v::g):=by simp[aN,R.cells, *]) (S: ∀a,f a=none->a≠e->e≠a->a≠i->i≠a->a≠M->M≠a->a≠c0->c0≠a->a≠j0->j0≠a->s (.J (v::g) (.buf a (v::g).length)) ((((((f.set e Y).set i d).set M h).set c0 k).set j0 o).set a (.buf c (v::g).length (v::g).length))=j5 a:=by intros;exact eE):jJ c (((((f.set e Y).set i d).set M h).set c0 k).set j0 o) (v::g) (bO s ()):=by refine⟨P,?_⟩;rw[if_neg a9q];intro a b;obtain⟨b,p,r⟩:=U.set_nil b;obtain⟨b,x,y⟩:=U.set_nil b;obtain⟨b,z,C⟩:=U.set_nil b;obtain⟨b,D,E⟩:=U.set_nil b;obtain⟨b,F,G⟩:=U.set_nil b;exact(S a b F G D E z C x y p r).mpr (L a b F G D E z C x y p r)
def Xa {d:Nat}{v:R}{c:Nat}{h k o p r:bp} (V: ∀a,f a=none->a≠e->e≠a->a≠i->i≠a->a≠M->M≠a->a≠c0->c0≠a->a≠j0->j0≠a->a≠c->c≠a->j5 a) (W:aN d (v::g):=by simp[aN,R.cells, *]) (j: ∀a,f a=none->a≠e->e≠a->a≠i->i≠a->a≠M->M≠a->a≠c0->c0≠a->a≠j0->j0≠a->a≠c->c≠a->s (.J (v::g) (.buf a (v::g).length)) (((((((f.set e Y).set i h).set M k).set c0 o).set j0 p).set c r).set a (.buf d (v::g).length (v::g).length))=j5 a:=by intros;exact eE):jJ d ((((((f.set e Y).set i h).set M k).set c0 o).set j0 p).set c r) (v::g) (bO s ()):=by refine⟨W,?_⟩;rw[if_neg a9q];intro a b;obtain⟨b,x,y⟩:=U.set_nil b;obtain⟨b,z,C⟩:=U.set_nil b;obtain⟨b,D,E⟩:=U.set_nil b;obtain⟨b,F,G⟩:=U.set_nil b;obtain⟨b,L,P⟩:=U.set_nil b;obtain⟨b,S,T⟩:=U.set_nil b;exact(j a b S T L P F G D E z C x y).mpr (V a b S T L P F G D E z C x y)
def lZ (a:AC K.p b4 (g++e1++A) f λb c=>c=f/\b=n) (d:Q) (h:gk K.p b4=true:=by kernel_rfl) (k:s n f=Q:=by exact eE):wT K (.bG b4 g A) e1 f (bO s ()):=
 fI h a λ_ _ a=>by rw[a.1,a.2];exact k.mpr d
end
section
theorem x6 {r:dM}{h:Fr}{k:List Nat}{x:b0->List (Nat×R)}{y:b0->U->Prop} (z: ∀c∈wr h7,c∈k) (D:ho k h j) (o:List Nat) (V:o.all (λc=> !k.contains c)=true)
  (E:bT K h7 (eR (λa b=> ∃C,y C b/\gN a (x C)) e8) j f) (F: ∀d b,y d b-> ∀a,bT K r e8 (gX (gX a (keeps h o)) (x d)) b):bT K h7 (eR (bT K r e8) e8) j f:=by
 refine jb h7 (λG a b p=> ?_) j f (o1 h7 z j f D E);cases G with
 |norm=>
  obtain⟨⟨d,L,P⟩,S⟩:=p;have T:gN a (keeps h o):=x3 λc W=>S c λz=>by
   simp_all
  have:=F d b L a;rw[se T,se P]at this;exact this
 |exit e=>exact p.1
 |ret=>exact p.1
def pa {h:dM} (b:List Nat) (k:b0->List (Nat×R)) (o:b0->U->Prop)
  (x:bT K h7 (eR (λc a=> ∃p,o p a/\gN c (k p)) e8) j f) (d: ∀r a,o r a-> ∀c,bT K h e8 (gX (gX c (keeps j b)) (k r)) a) (y:b.all (λz=> !(wr h7).contains z)=true:=by kernel_rfl):bT K (.seq h7 h) e8 j f:=
 x6 (k:=wr h7) (λ_ d=>d) (λ_ _=>rfl) b y x d
def o5 {h k:dM}{z:cC (bT K h (eR (bT K h7 e8) e8) j f)}{C:cC (bT K k (eR (bT K h7 e8) e8) j f)} (o:List Nat) (p:b0->List (Nat×R)) (r:b0->U->Prop)
  (D:I=true->bT K h (eR (λc a=> ∃d,r d a/\gN c (p d)) e8) j f) (E:I=false->bT K k (eR (λc a=> ∃d,r d a/\gN c (p d)) e8) j f) (b: ∀x a,r x a-> ∀c,bT K h7 e8 (gX (gX c (keeps j o)) (p x)) a) (y:o.all (λI=> !(wr h++wr k).contains I)=true:=by kernel_rfl):
  ku (.v (.bool I)) (cw (bT K h (eR (bT K h7 e8) e8) j f) z) (cw (bT K k (eR (bT K h7 e8) e8) j f) C):=
 ⟨λh7=>x6 (λ_ b=>a6Z _ b) (λ_ _=>rfl) o y (D h7) b,λh7=>x6 (λ_ b=>a6V _ b) (λ_ _=>rfl) o y (E h7) b⟩
end
def Cq (a:Q=b5:=by first|(simp -dsimp -implicitDefEqProofs (disch:=first|omega|assumption|exact U.tU a9s a9s|(simp only[aE,Nat.reduceAdd];try omega)) only[WZ,nW,go_sem,simprocAttr,-List.reduceReplicate,↓eL,tV,tT, *]<;>rfl)|rfl):Q=b5:=a
def pb (a:e<=i:=by first|omega|((try simp only[a4J,a4M,a4R,a4T,a4L,a4V, *])<;>omega)):e<=i:=a
def rd (a:f.sub t) (b:f e=some (.cells g)):t.read e=some g:=U.af (a _ _ b)
theorem Cr {v:R} (b:aN e g) (h:v.cells.length=e):aN e (g++ [v]):=λc d=>by
 rcases a5a.1 d with a|a
 .exact b c a
 grind
def Cs:aN e []:=λ_ a=>by cases a
theorem bh.o6 (r:bh t f e g N): ∃h:U,bh h f e g N/\h.sub f/\t.sub h/\ ∀a,(∀b o,N= .buf b o->b≠a)->h a=f a:=by
 obtain⟨k,d⟩:=r;cases N with
 |buf b o=>
  have p:(f.del b).sub f:=λa N c=>by
   grind[U.ir,U.eI]
  refine⟨f.del b,⟨p,U.ir _ _,d.2⟩,p,λa N c=> ?_,λa c=>U.eI _ (a4Q (c _ _ rfl))⟩;have x:a≠b:=by rintro rfl;rw[d.1]at c;cases c
  rw[U.eI _ x];exact k _ _ c
 |any=>exact d.elim
 |nil=>exact⟨f,⟨U.a1,d⟩,U.a1,k,λ_ _=>rfl⟩
 |zero=>exact⟨f,⟨U.a1,d⟩,U.a1,k,λ_ _=>rfl⟩
def qA {k:cC s} (d:bh t f e g N) (o:aN e g) (p:aN e A) (r:(g.length+A.length)*i<=140737488355328) (x:g.length+A.length<=9223372036854775807)
  (y: ∀b a,bh t a e (g++A) b->iz f a->s (.J (g++A) b) a):lW e i f (.J g N) (.J A e5) (bO s k):=by
 obtain⟨G,z,L,C,D⟩:=d.o6;refine dp z o p r x λb a h=>y b a (h.base C) λE P c=>h.sub _ _ ?_;rw[D E (λS T F=>by subst F;rintro rfl;rw[d.2.2]at c;cases c)];exact c
section
def o7 {v:R}{k:Nat->R->U->Prop}{o:Nat->Own->U->Prop} (p:bh t f e g N) (y:aN e g) (z: ∀a c b,bh t b e (g++ [v]) c->iz f b->o a c b)
  (C:Q=jJ e f [v] (bO s ()):=by exact hQ)
  (D: ∀a,f a=none->s (.J [v] (.buf a 1)) (f.set a (.buf e 1 1))=lW e i (f.set a (.buf e 1 1)) (.J g N) (.J [v] (.buf a 1)) (bO (k a) ()):=by intro a d;exact eE)
  (E: ∀a c b,bh t b e (g++ [v]) c->k a (.J (g++ [v]) c) b=o a c b:=by intro a c b p;exact hQ)
  (r:v.cells.length=e:=by first|rfl|assumption|simp[R.cells, *]) (P:g.length<=1000000000:=by exact pb) (F:i<=10000:=by decide):Q:=by
 rw[C];refine⟨λG h=>by rw[a4X.1 h];exact r,?_⟩;rw[if_neg a9q];intro a d;refine(D a d).mpr (qA (p.mono (U.ae U.a1 d)) y (λG h=>by rw[a4X.1 h];exact r) ?_ ?_ λc b x L=>(E a c b x).mpr (z a c b x ((U.o3 (U.ae U.a1 d)).trans L)))
 .exact a5H (a8m (show g.length+1<=1000000001 by omega) F) a9t
 .simp;omega
def Xb:aN 1 (B.map ak):=λb a=>by obtain⟨_,_,rfl⟩:=a5d.1 a;rfl
def Xc {d:UInt8}{o:Nat->R->U->Prop}{k:Nat->Own->U->Prop} (p:bh t f 1 (B.map ak) N) (x: ∀a c b,bh t b 1 ((B++ [d]).map ak) c->iz f b->k a c b)
  (y:Q=jJ 1 f [ak d] (bO s ()):=by exact hQ)
  (z: ∀a,f a=none->s (.J [ak d] (.buf a 1)) (f.set a (.buf 1 1 1))=lW 1 e (f.set a (.buf 1 1 1)) (.J (B.map ak) N) (.J [ak d] (.buf a 1)) (bO (o a) ()):=by intro a G;exact eE)
  (C: ∀a c b,bh t b 1 ((B++ [d]).map ak) c->o a (.J ((B++ [d]).map ak) c) b=k a c b:=by intro a c b p;exact hQ)
  (D:B.length<=1000000000:=by exact pb) (E:e<=10000:=by decide):Q:=by
 have r:B.map ak++ [ak d]=(B++ [d]).map ak:=by rw[a5N];rfl
 refine o7 (o:=k) p Xb (λa c b h F=>x a c b (r▸h) F) y z (λa c b h=> ?_) rfl (by rw[a4T];exact D) E;rw[r]at h|-;exact C a c b h
def kz {c:Own->U->Prop} (d:bh t f e g N) (k:aN e g) (o:aN e A) (p: ∀b a,bh t a e (g++A) b->iz f a->c b a)
  (r:Q=lW e i f (.J g N) (.J A e5) (bO s ()):=by exact hQ) (x: ∀b a,bh t a e (g++A) b->s (.J (g++A) b) a=c b a:=by intro b a d;exact hQ)
  (y:g.length+A.length<=1000000000:=by exact pb) (z:i<=10000:=by decide):Q:=by
 rw[r];refine qA d k o (a5H (a8m y z) a9t) a9p λb a h C=>(x b a h).mpr (p b a h C)
def sh {c:Own->U->Prop} (h:aN e g) (k: ∀a b,bh f b e g a->c a b)
  (o:Q=lW e i f (.J [] N) (.J g e5) (bO s ()):=by exact Cq) (p:N= .nil\/N= .zero:=by first|exact .inl rfl|exact .inr rfl) (r: ∀a b,bh f b e g a->s (.J g a) b=c a b:=by intro a b d;exact hQ)
  (x:g.length<=1000000000:=by exact pb) (y:i<=10000:=by decide):Q:=
 kz (t:=f) (c:=c) (by rcases p with rfl|rfl;exact bh.nil U.a1;exact bh.zero U.a1) Cs h (λa b d _=>k a b d) o r (by simpa using x) y
def qB (c:ar t f e A n) (k:bM f e b3=some (v,g)) (o: ∀a b,ar t b e (A++g) a->a7 a b)
  (p:Q=jK e i f n b3 (bO s ()):=by exact hQ) (r: ∀a b,ar t b e (A++g) a->s a b=a7 a b:=by intro a b c;exact hQ)
  (d:0<e:=by decide) (x:g.length=v*e:=by first|rfl|omega|simp) (y:A.length+g.length<=1000000000:=by exact pb) (z:i<=10000:=by decide):Q:=by
 rw[p];refine fj c d k x (a5H (a8m y z) (a5H a9t (a8I _ d))) a9p λa b h=>(r a b h).mpr (o a b h)
def u2 (c:bM f e n=some (v,g)) (d: ∀a b,ar f b e g a->a7 a b)
  (h:Q=jK e i f (.J [] N) n (bO s ()):=by exact Cq) (k:N= .nil\/N= .zero:=by first|exact .inl rfl|exact .inr rfl) (o: ∀a b,ar f b e g a->s a b=a7 a b:=by intro a b z;exact hQ)
  (p:0<e:=by decide) (r:g.length=v*e:=by first|rfl|omega|simp) (x:g.length<=1000000000:=by exact pb) (y:i<=10000:=by decide):Q:=
 qB (A:= []) (t:=f) (by rcases k with rfl|rfl;exact ar.nil U.a1;exact ar.zero U.a1) c d h o p r (by simpa using x) y
def Xd {v:R}{h k:Nat->R->U->Prop} (o:ar t f 1 g n) (r: ∀a b c,ar t c 1 (g++ [v]) b->h a b c) (x:Q=nV 1 f [v] (bO s ()):=by exact hQ)
  (y: ∀a,f a=none->s (.al a 1 1 1) (f.set a (.cells [v]))=jK 1 e (f.set a (.cells [v])) n (.al a 1 1 1) (bO (k a) ()):=by intro a d;exact eE)
  (z: ∀a b c,ar t c 1 (g++ [v]) b->k a b c=h a b c:=by intro a b c o;exact hQ) (p:v.cells= [v]:=by first|rfl|assumption) (C:g.length+1<=1000000000:=by exact pb) (D:e<=10000:=by decide):Q:=by
 have E:flat [v]= [v]:=by simp[flat,p]
 rw[x];refine eS (λG F=>by rw[a4X.1 F,p];rfl) a9q λa d=> ?_;rw[E];refine(y a d).mpr (qB (o.mono (U.ae U.a1 d)) (v:=1) (g:= [v]) ?_ (r a) rfl (z a) a9t rfl C D);simp[bM,U.read,U.set]
end
end Go.bA
set_option maxRecDepth 100000
namespace Go.Proofs.YtlgnfcaolejgeaaGreat
open Go Go.bA
def rotl (a:UInt32) (b:Nat):UInt32:=a<<<UInt32.ofNat b|||a>>>UInt32.ofNat (32 - b)
def Xe (a:Nat) (b:0<a/\a<32):bn .and (.int .u64 (IntKind.u64.wrap (-((32 - a:Nat):Int)))) (.int .u64 31)=some (.int .u64 a):=by have c: ∀a:Fin 32,0<a.val->IntKind.u64.wrap (BitVec.ofInt IntKind.u64.bits (IntKind.u64.wrap (-((32 - a.val:Nat):Int)))&&&BitVec.ofInt IntKind.u64.bits 31).toNat=(a.val:Int):=a9t;have:=c ⟨a,b.2⟩ b.1;simp only[bn,eK,gj,this];rfl
theorem Xf (c:UInt32) (a:Nat) (d:0<a/\a<32) (b:U):AC Tryz.prog 323 [.v (.int .u32 c.toNat),.v (.int .i64 (-((32 - a:Nat):Int)))] b λh k=>k=b/\h= .v (.int .u32 (rotl c a).toNat):=by refine bf hm RZ a9q ?_;refine aF (Xe a d) ?_;refine⟨b,U.a1,rfl,?_⟩;grind[rotl]
def ma (b:UInt32) (d:Int) (a:Nat) (h:0<a/\a<32) (k:d= -((32 - a:Nat):Int)) (c:U):AC Tryz.prog 323 [.v (.int .u32 b.toNat),.v (.int .i64 d)] c λo p=>p=c/\o= .v (.int .u32 (rotl b a).toNat):=by subst k;exact Xf b a h c
def word (a:List UInt8) (b:Nat):UInt32:=(a.getD (4*b) 0).toUInt32<<<24|||(a.getD (4*b+1) 0).toUInt32<<<16|||(a.getD (4*b+2) 0).toUInt32<<<8|||(a.getD (4*b+3) 0).toUInt32
def Xg (a:UInt32):UInt32:=rotl a 25^^^rotl a 14^^^a>>>3
def Xh (a:UInt32):UInt32:=rotl a 15^^^rotl a 13^^^a>>>10
def more (a:List UInt32):List UInt32:=a++ [a.getD (a.length - 16) 0+Xg (a.getD (a.length - 15) 0)+a.getD (a.length - 7) 0+Xh (a.getD (a.length - 2) 0)]
def first (a:List UInt8) (b:Nat):List UInt32:=(List.range b).map (word a)
def grow:Nat->List UInt32->List UInt32
 |0,a=>a
 |b+1,a=>grow b (more a)
def sched (a:List UInt8):List UInt32:=grow 48 (first a 16)
def eg (a:List UInt32):List R:=a.map (λb=> .v (.int .u32 b.toNat))++List.replicate (64 - a.length) (.v (.int .u32 0))
def Xi:eg []=List.replicate 64 (.v (.int .u32 0)):=by simp[eg]
variable{h6:List UInt32}
def si (a:h6.length<=64):(eg h6).length=64:=by simp[eg];omega
variable{e i v M c0 j0:Nat}
theorem x7 (a:UInt32) (b:e=h6.length) (d:h6.length<64):putAt (eg h6) e [.v (.int .u32 a.toNat)]=eg (h6++ [a]):=by subst b;have c:64 - h6.length=(64 -(h6.length+1))+1:=a9p;simp only[putAt,eg,c,a6O];grind
theorem lk (a:e<h6.length):aY false 1 ((eg h6).drop e)= .v (.int .u32 (h6.getD e 0).toNat):=by grind[aY,eg,List.map_drop,List.drop_eq_getElem_cons,List.getD]
theorem Xj (c:List UInt8) (V:Own) (i:c.length=64) (D:U):AC Tryz.prog 321 [.J (c.map ak) V] D λj r=>r=D/\j= .agg ((sched c).map λP=> .v (.int .u32 P.toNat)):=by
 refine bf hm RV a9q ?_;refine eD ?_;refine aP λF l=> ?_;refine eD ?_;refine aP λG S=> ?_;obtain⟨s,S⟩:=U.gM S;refine eD ?_;refine cu (λb r=> ∃a:Nat,a<=16/\b 0= .J (c.map ak) V/\b 2= .ptr F 0/\b 3= .ptr G 0/\b 10= .v (.int .i64 a)/\r=(D.set F (.cells (List.replicate 64 (.v (.int .u32 0))))).set G (.cells (eg (first c a))))
  (λb _=>match b 10 with| .v (.int _ T)=>(16 - T).toNat| _=>0) ⟨0,a9p,?_⟩ ?_
 .simp -dsimp -implicitDefEqProofs (disch:=first|omega|assumption|(simp only[aE,Nat.reduceAdd];try omega)) only[go_sem,↓reduceIte,Nat.reduceEqDiff,Nat.reduceAdd,Nat.reduceSub,Nat.reduceMul,Nat.reduceLeDiff,Nat.reduceLT,Int.reduceNeg,Int.reduceToNat,Int.reduceAdd,Int.reduceSub,Int.reduceMul,Int.reduceLT,Int.reduceLE,Int.reduceEq,Int.reduceNe,first,List.range_zero,Xi]
  all_goals (simp)
 .rintro b r ⟨a,m,W,d,h,e,rfl⟩;have f:(first c a).length=a:=by simp[first]
  by_cases k:(a:Int)<16
  .have o:(eg (first c a)).length=64:=si a9p;have n:(4*(a:Int)).toNat=4*a:=a9p;have x:(4*(a:Int)+1).toNat=4*a+1:=a9p;have y:(4*(a:Int)+2).toNat=4*a+2:=a9p;have z:(4*(a:Int)+3).toNat=4*a+3:=a9p;have t:(a:Int).toNat+1<=64:=a9p;refine aF (iy @W @d @h @e @k @o @i @n @x @y @z) ?_;rw[x7 _ f.symm a9p];refine⟨⟨a+1,a9p,a9q,?_⟩,a9p⟩;simp only[first,a8N,a5N,a5h,a6y];rfl
  .obtain rfl:a=16:=a9p;refine aF (bo @W @d @h @e @k) ?_;refine cu (λb r=> ∃(p:List UInt32) (a:Nat),a<=48/\p.length=16+a/\grow (48 - a) p=sched c/\b 2= .ptr F 0/\b 3= .ptr G 0/\b 5= .v (.int .i64 ((16+a:Nat):Int))/\r=(D.set F (.cells (List.replicate 64 (.v (.int .u32 0))))).set G (.cells (eg p)))
    (λb _=>match b 5 with| .v (.int _ T)=>(64 - T).toNat| _=>0) ⟨first c 16,0,a9p,f,rfl,?_⟩ ?_
   .simp -dsimp -implicitDefEqProofs (disch:=first|omega|assumption|(simp only[aE,Nat.reduceAdd];try omega)) only[go_sem,↓reduceIte,Nat.reduceEqDiff,Nat.reduceAdd,Nat.reduceSub,Nat.reduceMul,Nat.reduceLeDiff,Nat.reduceLT,Int.reduceNeg,Int.reduceToNat,Int.reduceAdd,Int.reduceSub,Int.reduceMul,Int.reduceLT,Int.reduceLE,Int.reduceEq,Int.reduceNe,d,h,grow];rfl
   .rintro b r ⟨p,a,m,L,g,d,h,C,rfl⟩;by_cases k:((16+a:Nat):Int)<64
    .have o:(eg p).length=64:=si a9p;have x:(((16+a:Nat):Int) - 15).toNat=a+1:=a9p;have y:(((16+a:Nat):Int) - 2).toNat=a+14:=a9p;have z:(((16+a:Nat):Int) - 16).toNat=a:=a9p;have E:(((16+a:Nat):Int) - 7).toNat=a+9:=a9p;refine aF (ct @d @h @C @k @x @y @z @E @o @lk) ?_;refine ai (ma _ _ 25 a9t a9t _) ?_;rintro _ _ ⟨rfl,rfl⟩;refine aF (ct @d @h @C @k @x @y @z @E @o @lk) ?_;refine ai (ma _ _ 14 a9t a9t _) ?_;rintro _ _ ⟨rfl,rfl⟩;refine aF (ct @d @h @C @k @x @y @z @E @o @lk) ?_;refine ai (ma _ _ 15 a9t a9t _) ?_;rintro _ _ ⟨rfl,rfl⟩;refine aF (ct @d @h @C @k @x @y @z @E @o @lk) ?_;refine ai (ma _ _ 13 a9t a9t _) ?_;rintro _ _ ⟨rfl,rfl⟩;refine aF (ct @d @h @C @k @x @y @z @E @o @lk) ?_;rw[x7 _ L.symm a9p];refine⟨⟨_,a+1,a9p,by simp[L];omega,?_,?_,rfl⟩,a9p⟩
     .rw[<-g,show 48 - a=(48 -(a+1))+1 by omega,grow,more,L];rw[show 16+a - 16=a by omega,show 16+a - 15=a+1 by omega,show 16+a - 7=a+9 by omega,show 16+a - 2=a+14 by omega];rfl
     .simp;omega
    .obtain rfl:a=48:=a9p;have o:(eg p).length=64:=si a9p;have q:(eg p).take 64=p.map λP=> .v (.int .u32 P.toNat):=by grind[eg,List.take_of_length_le]
     have u:p=sched c:=g;refine aF (cc @d @h @C @k @o @q @L) ?_;exact⟨D,U.ae (U.ae U.a1 l) S,rfl,by grind⟩
def wl (a:List UInt32):List R:=a.map λb=> .v (.int .u32 b.toNat)
theorem eM:(wl h6).length=h6.length:=by simp[wl]
theorem hq (a:e<h6.length):aY false 1 ((wl h6).drop e)= .v (.int .u32 (h6.getD e 0).toNat):=by simp only[aY,wl];simp_all
def pc (a:0<h6.length):aY false 1 (wl h6)= .v (.int .u32 (h6.getD 0 0).toNat):=hq (e:=0) a
def Ct (a:UInt32) (b:e<h6.length):putAt (wl h6) e [.v (.int .u32 a.toNat)]=wl (h6.set e a):=by simp only[putAt,wl,a4M,a4R,<-a7I,<-a7u];rw[a6b,if_pos b];simp
def mW:List UInt32:= [
 0x428a2f98,0x71374491,0xb5c0fbcf,0xe9b5dba5,0x3956c25b,0x59f111f1,0x923f82a4,0xab1c5ed5,
 0xd807aa98,0x12835b01,0x243185be,0x550c7dc3,0x72be5d74,0x80deb1fe,0x9bdc06a7,0xc19bf174,
 0xe49b69c1,0xefbe4786,0x0fc19dc6,0x240ca1cc,0x2de92c6f,0x4a7484aa,0x5cb0a9dc,0x76f988da,
 0x983e5152,0xa831c66d,0xb00327c8,0xbf597fc7,0xc6e00bf3,0xd5a79147,0x06ca6351,0x14292967,
 0x27b70a85,0x2e1b2138,0x4d2c6dfc,0x53380d13,0x650a7354,0x766a0abb,0x81c2c92e,0x92722c85,
 0xa2bfe8a1,0xa81a664b,0xc24b8b70,0xc76c51a3,0xd192e819,0xd6990624,0xf40e3585,0x106aa070,
 0x19a4c116,0x1e376c08,0x2748774c,0x34b0bcb5,0x391c0cb3,0x4ed8aa4a,0x5b9cca4f,0x682e6ff3,
 0x748f82ee,0x78a5636f,0x84c87814,0x8cc70208,0x90befffa,0xa4506ceb,0xbef9a3f7,0xc67178f2]
def gp:List UInt32:= [0x6a09e667,0xbb67ae85,0x3c6ef372,0xa54ff53a,0x510e527f,0x9b05688c,0x1f83d9ab,0x5be0cd19]
def x8 (a:U):AC Tryz.prog 270 [] a λb c=>c=a/\b= .agg (wl gp):=by refine bf hm QS a9q ?_;refine eD ?_;refine aP λh d=> ?_;simp -dsimp -implicitDefEqProofs (disch:=first|omega|assumption|(simp only[aE,Nat.reduceAdd];try omega)) only[go_sem,simprocAttr,putAt,List.take,List.drop,List.replicate,a5I,a5b];exact⟨a,U.ae U.a1 d,rfl,rfl⟩
def Xk (a:U):AC Tryz.prog 322 [] a λb c=>c=a/\b= .agg (wl mW):=by refine bf hm RX a9q ?_;refine eD ?_;refine aP λh d=> ?_;simp -dsimp -implicitDefEqProofs (disch:=first|omega|assumption|(simp only[aE,Nat.reduceAdd];try omega)) only[go_sem,simprocAttr,putAt,List.take,List.drop,List.replicate,a5I,a5b];exact⟨a,U.ae U.a1 d,rfl,rfl⟩
def sj (p r:UInt32):List UInt32->List UInt32
 | [a,c,d,x,b,h,k,y]=>
  let o:=y+(rotl b 26^^^rotl b 21^^^rotl b 7)+(b&&&h^^^ ~~~b&&&k)+p+r
  let z:=(rotl a 30^^^rotl a 19^^^rotl a 10)+(a&&&c^^^a&&&d^^^c&&&d)
  [o+z,a,c,d,x+o,b,h,k]
 |C=>C
def hr:List UInt32->List UInt32->List UInt32->List UInt32
 |a::bI,b::ws,v=>hr bI ws (sj a b v)
 | _,_,v=>v
def comp (a:List UInt32) (b:List UInt8):List UInt32:=List.zipWith (·+ ·) (hr mW (sched b) a) a
def jN (a:Nat) (v b:List UInt32):List UInt32:=List.zipWith (·+ ·) (v.take a) (b.take a)++v.drop a
def Cu: ∀(a:Nat) (b:List UInt32),(grow a b).length=b.length+a
 |0,b=>rfl
 |a+1,b=>by rw[grow,Cu a,more];simp;omega
def Xl (a:List UInt8):(sched a).length=64:=by simp[sched,Cu,first]
def Xm (a:List UInt8) (c:Own) (d:a.length=64) (b:U):AC Tryz.prog 321 [.J (a.map ak) c] b λh k=>k=b/\h= .agg (wl (sched a)):=Xj a c d b
def Cv (v b:List UInt32) (c:v.length=8) (d:b.length=8) (a:Nat) (h:a<8):
  (jN a v b).length=8/\(jN a v b).set a ((jN a v b).getD a 0+b.getD a 0)=jN (a+1) v b:=by
 match v,c,b,d with
 | [k,o,p,r,x,y,z,C],_,[D,E,F,G,L,P,S,T],_=>rcases(by omega:a=0\/a=1\/a=2\/a=3\/a=4\/a=5\/a=6\/a=7)with rfl|rfl|rfl|rfl|rfl|rfl|rfl|rfl<;>exact⟨rfl,rfl⟩
def Xn (a b:UInt32) (v:List UInt32) (c:v.length=8):(sj a b v).length=8:=by
 match v,c with
 | [d,h,k,o,p,r,x,a],_=>rfl
def Cw: ∀(b c v:List UInt32),v.length=8->(hr b c v).length=8
 | [],_,v,a=>by simpa[hr] using a
 | _:: _,[],v,a=>by simpa[hr] using a
 |d::b,h::c,v,a=>by rw[hr];exact Cw b c _ (Xn d h v a)
theorem Cx (b c v:List UInt32) (a:Nat) (d:a<b.length) (h:a<c.length):hr (b.drop a) (c.drop a) v=hr (b.drop (a+1)) (c.drop (a+1)) (sj (b.getD a 0) (c.getD a 0) v):=by grind[List.drop_eq_getElem_cons,hr,List.getD]
theorem Xo (c x y:List UInt32) (I:List UInt8) (K:Own) (t:c.length=8) (N:x.length=64) (O:y.length=64)
  (Q: ∀o,AC Tryz.prog 322 [] o λT p=>p=o/\T= .agg (wl x))
  (X: ∀o,AC Tryz.prog 321 [.J (I.map ak) K] o λT p=>p=o/\T= .agg (wl y)) (o:U):
  AC Tryz.prog 271 [.agg (wl c),.J (I.map ak) K] o λT p=>p=o/\T= .agg (wl (List.zipWith (·+ ·) (hr x y c) c)):=by
 refine bf hm QU a9q ?_;have z:(wl c).length=8:=by rw[eM,t]
 have C:(wl x).length=64:=by rw[eM,N]
 have D:(wl y).length=64:=by rw[eM,O]
 refine aF @z ?_;refine aP λW Y=> ?_;refine aF @z ?_;refine aP λe u=> ?_;obtain⟨k6,u⟩:=U.gM u;refine aF @z ?_;refine ai (X _) ?_;rintro _ _ ⟨rfl,rfl⟩;refine aF @z ?_;refine ai (Q _) ?_;rintro _ _ ⟨rfl,rfl⟩;refine aF @z ?_;refine aP λw V=> ?_;obtain⟨k7,V⟩:=U.gM V;obtain⟨k8,V⟩:=U.gM V;refine aF @z ?_;refine aP λA S=> ?_;obtain⟨k9,S⟩:=U.gM S;obtain⟨l0,S⟩:=U.gM S;obtain⟨l1,S⟩:=U.gM S;refine aF @z ?_;refine aP λf E=> ?_;obtain⟨l2,E⟩:=U.gM E;obtain⟨l3,E⟩:=U.gM E;obtain⟨l4,E⟩:=U.gM E;obtain⟨l5,E⟩:=U.gM E;refine aF (aM @z @C @D @a4I.{0}) ?_;refine cu (λb p=> ∃(a:Nat) (v:List UInt32),a<=64/\v.length=8/\hr (x.drop a) (y.drop a) v=hr x y c/\b 2= .ptr W 0/\b 4= .ptr e 0/\b 5= .ptr w 0/\b 6= .ptr A 0/\b 7= .ptr f 0/\b 18= .v (.int .i64 a)/\
   p=(((((o.set W (.cells (wl c))).set e (.cells (List.replicate 8 (.v (.int .u32 0))))).set w (.cells (wl y))).set A (.cells (wl x))).set f (.cells (wl v))))
  (λb _=>match b 18 with| .v (.int _ B)=>(64 - B).toNat| _=>0) ⟨0,c,a9p,t,rfl,?_⟩ ?_
 .exact qw
  all_goals (trivial)
 .rintro b p ⟨a,v,Z,H,j9,d,h,F,G,k,L,rfl⟩;have P:(wl v).length=8:=by rw[eM,H]
  by_cases r:(a:Int)<64
  .obtain⟨g,i,j,l,m,n,q,s,rfl⟩: ∃g i j l m n q s,v= [g,i,j,l,m,n,q,s]:=by
    match v,H with
    | [g,i,j,l,m,n,q,s],_=>simp
   refine aF (fw @d @h @F @G @k @L @r @P @C @D @hq @pc @a5q.{0} @a5x.{0}) ?_;refine ai (ma _ _ 26 a9t a9t _) ?_;rintro _ _ ⟨rfl,rfl⟩;refine aF (fw @d @h @F @G @k @L @r @P @C @D @hq @pc @a5q.{0} @a5x.{0}) ?_;refine ai (ma _ _ 21 a9t a9t _) ?_;rintro _ _ ⟨rfl,rfl⟩;refine aF (fw @d @h @F @G @k @L @r @P @C @D @hq @pc @a5q.{0} @a5x.{0}) ?_;refine ai (ma _ _ 7 a9t a9t _) ?_;rintro _ _ ⟨rfl,rfl⟩;refine aF (fw @d @h @F @G @k @L @r @P @C @D @hq @pc @a5q.{0} @a5x.{0}) ?_;refine ai (ma _ _ 30 a9t a9t _) ?_;rintro _ _ ⟨rfl,rfl⟩;refine aF (fw @d @h @F @G @k @L @r @P @C @D @hq @pc @a5q.{0} @a5x.{0}) ?_;refine ai (ma _ _ 19 a9t a9t _) ?_;rintro _ _ ⟨rfl,rfl⟩;refine aF (fw @d @h @F @G @k @L @r @P @C @D @hq @pc @a5q.{0} @a5x.{0}) ?_;refine ai (ma _ _ 10 a9t a9t _) ?_;rintro _ _ ⟨rfl,rfl⟩;simp -dsimp -implicitDefEqProofs (disch:=first|omega|assumption|(simp only[aE,Nat.reduceAdd];try omega)) only[go_sem,↓reduceIte,Nat.reduceEqDiff,Nat.reduceAdd,Nat.reduceSub,Nat.reduceMul,Nat.reduceLeDiff,Nat.reduceLT,Int.reduceNeg,Int.reduceToNat,Int.reduceAdd,Int.reduceSub,Int.reduceMul,Int.reduceLT,Int.reduceLE,Int.reduceEq,Int.reduceNe,d,h,F,G,k,L,r,P,C,D,hq,pc,a5q,a5x,putAt,List.take,List.drop,List.replicate,a5I,a5b];refine⟨⟨a+1,sj (x.getD a 0) (y.getD a 0) [g,i,j,l,m,n,q,s],a9p,rfl,?_,a9q,rfl⟩,a9p⟩;grind[Cx]
  .obtain rfl:a=64:=a9p;have k0:hr x y c=v:=by rw[<-j9,a5T a9p];rfl
   refine aF (ct @d @h @F @G @k @L @r @P @C @D) ?_;refine cu (λb p=> ∃a:Nat,a<=8/\b 2= .ptr W 0/\b 4= .ptr e 0/\b 7= .ptr f 0/\b 108= .v (.int .i64 a)/\
     p=(((((o.set W (.cells (wl c))).set e (.cells (List.replicate 8 (.v (.int .u32 0))))).set w (.cells (wl y))).set A (.cells (wl x))).set f (.cells (wl (jN a v c)))))
    (λb _=>match b 108 with| .v (.int _ B)=>(8 - B).toNat| _=>0) ⟨0,a9p,?_⟩ ?_
   .refine aF (aI @d @h @k) ?_;exact rfl
   .rintro b p ⟨a,Z,d,h,k,M,rfl⟩;by_cases r:(a:Int)<8
    .obtain⟨k1,k2⟩:=Cv v c H t a a9p;have k3:(wl (jN a v c)).length=8:=by rw[eM,k1]
     refine aF (ct @d @h @k @M @r @z @k3 @hq @Ct @k2) ?_;grind
    .obtain rfl:a=8:=a9p;have k4:jN 8 v c=List.zipWith (·+ ·) v c:=by grind[jN,List.take_of_length_le,List.drop_of_length_le]
     have k5:(wl (List.zipWith (·+ ·) v c)).length=8:=by rw[eM];simp;omega
     rw[k4];refine aF (cc @d @h @k @M @r @k5 @a4I.{0}) ?_;refine⟨o,?_,rfl,by rw[k0]⟩;exact U.ae (U.ae (U.ae (U.ae (U.ae U.a1 Y) u) V) S) E
def Cy (b:List UInt32) (a:List UInt8) (c:Own) (h:b.length=8) (k:a.length=64) (d:U):
  AC Tryz.prog 271 [.agg (wl b),.J (a.map ak) c] d λo p=>p=d/\o= .agg (wl (comp b a)):=
 Xo b mW (sched a) a c h rfl (Xl a) Xk (Xm a c k) d
def x9 (a:List UInt32) (c:List UInt8) (b:a.length=8):(comp a c).length=8:=by simp[comp,Cw _ _ _ b,b]
def bytes (a:List UInt8) (b:Own):R:= .J (a.map ak) b
def cJ (a:Nat):List UInt8:= [UInt8.ofNat (a>>>56),UInt8.ofNat (a>>>48),UInt8.ofNat (a>>>40),UInt8.ofNat (a>>>32),UInt8.ofNat (a>>>24),UInt8.ofNat (a>>>16),UInt8.ofNat (a>>>8),UInt8.ofNat (a>>>0)]
def Cz (b:Nat) (x:U):AC Tryz.prog 272 [.v (.int .u64 b)] x λC h=> ∃c,bh x h 1 ((cJ b).map ak) c/\C= .J ((cJ b).map ak) c:=by
 refine bf hm QW a9q ?_;refine eD ?_;refine cu (λd h=> ∃(a:Nat) (c:Own),a<=8/\bh x h 1 (((cJ b).take a).map ak) c/\d 0= .v (.int .u64 b)/\d 3= .J (((cJ b).take a).map ak) c/\d 4= .v (.int .i64 (56 - 8*(a:Int))))
  (λd _=>match d 4 with| .v (.int _ b)=>(b+8).toNat| _=>0) ⟨0,.nil,a9p,bh.V0 U.a1,?_⟩ ?_
 .refine eD ?_;exact rfl
 .rintro d h ⟨a,c,G,z,k,o,p⟩;by_cases r:(0:Int)<=56 - 8*(a:Int)
  .refine aF (bo @k @o @p @r @ix) ?_;refine s4 U.a1 λL P D=> ?_;refine aF (aM @k @o @p @r) ?_;refine wL (z.mono D.sub) (by simp[cJ];omega) λE S F=> ?_;refine aF (aM @k @o @p @r) ?_;refine⟨⟨a+1,E,a9p,?_,?_⟩,a9p⟩
   .have y:(cJ b).take (a+1)=(cJ b).take a++ [UInt8.ofNat (b>>>(56 - 8*(a:Int)).toNat)]:=by rcases(by omega:a=0\/a=1\/a=2\/a=3\/a=4\/a=5\/a=6\/a=7)with rfl|rfl|rfl|rfl|rfl|rfl|rfl|rfl<;>rfl
    rw[y];exact F
   .have y:(cJ b).take (a+1)=(cJ b).take a++ [UInt8.ofNat (b>>>(56 - 8*(a:Int)).toNat)]:=by rcases(by omega:a=0\/a=1\/a=2\/a=3\/a=4\/a=5\/a=6\/a=7)with rfl|rfl|rfl|rfl|rfl|rfl|rfl|rfl<;>rfl
    refine⟨by rw[y],a9r⟩
  .obtain rfl:a=8:=a9p;refine aF (aM @k @o @p @r) ?_;exact⟨h,U.a1,c,z,rfl⟩
def pd (b:List (List UInt8×Own)):List R:=b.map λa=> .J (a.1.map ak) a.2
def chunk (a:List UInt8):List UInt8:=cJ a.length++a
def preB (a:UInt8) (b:List (List UInt8)):List UInt8:=a::b.flatMap chunk
def xa (a:UInt8): ∀b:List (List UInt8),b.length<(preB a b).length
 | []=>by simp[preB]
 |d::c=>by
  have:=xa a c;simp only[preB,a4M,a5l,a4J,chunk,cJ,a4R]at this|-;omega
def Xp (b:UInt8) (c:List (List UInt8×Own)) (p:Own) (S:(preB b (c.map (·.1))).length<=70368744177664) (G:U):
  AC Tryz.prog 189 [.v (.int .u8 b.toNat),.J (pd c) p] G λT r=> ∃p,bh G r 1 ((preB b (c.map (·.1))).map ak) p/\T= .J ((preB b (c.map (·.1))).map ak) p:=by
 refine bf hm OS a9q ?_;refine eD ?_;refine s4 U.a1 λV n W=> ?_;refine eD ?_;refine cu (λh r=> ∃(a k:List (List UInt8×Own)) (E:Own),c=a++k/\bh G r 1 ((preB b (a.map (·.1))).map ak) E/\h 5= .J ((preB b (a.map (·.1))).map ak) E/\h 10= .J (pd c) p/\h 11= .v (.int .i64 c.length)/\h 12= .v (.int .i64 a.length))
  (λh _=>match h 12 with| .v (.int _ e)=>(c.length - e).toNat| _=>0) ⟨[],c,V,rfl,W,?_⟩ ?_
 .refine eD ?_;exact⟨rfl,by simp[pd]⟩
 .rintro h r ⟨a,k,E,rfl,L,x,y,z,C⟩;cases k with
  |nil=>have o: ¬(a.length:Int)<((a++ []).length:Nat):=a9q;refine aF (bo @x @y @z @C @o) ?_;simp only[a5R]at*;exact⟨r,U.a1,E,L,rfl⟩
  |cons f k=>
   obtain⟨d,D⟩:=f;have o:(a.length:Int)<((a++(d,D)::k).length:Nat):=a9r;have F:(pd (a++(d,D)::k))[a.length]? =some (.J (d.map ak) D):=by simp[pd]
   have q:(preB b (a.map (·.1))).length+8+d.length<=70368744177664:=by refine a5H ?_ S;simp[preB,chunk,cJ];omega
   have g:=xa b (a.map (·.1));rw[a4T]at g;refine aF (cc @x @y @z @C @o @F @hl) ?_;refine ai (Cz d.length _) ?_;rintro _ s ⟨t,i,rfl⟩;refine aF (cc @x @y @z @C @o @F @hl) ?_;refine mQ (L.mono i.sub) ?_ λu v j=> ?_
   .simp only[cJ,a4M,a4R];omega
   refine aF (cc @x @y @z @C @o @F @hl) ?_;refine mQ j ?_ λl w P=> ?_
   .simp only[cJ,a4J,a4M,a4R];omega
   refine aF (cc @x @y @z @C @o @F @hl) ?_;have m:preB b (a.map (·.1))++cJ d.length++d=preB b ((a++ [(d,D)]).map (·.1)):=by simp[preB,chunk]
   rw[m]at P|-;refine⟨⟨a++ [(d,D)],k,l,a9q,P,rfl,?_⟩,?_⟩
   .simp
   omega
def blocks:Nat->List UInt32->List UInt8->List UInt32
 |0,a,_=>a
 |b+1,a,aR=>blocks b (comp a (aR.take 64)) (aR.drop 64)
def pe: ∀(b:Nat) (a:List UInt32) (aR:List UInt8),a.length=8->(blocks b a aR).length=8
 |0,_,_,c=>c
 |b+1,a,aR,c=>by rw[blocks];exact pe b _ _ (x9 a _ c)
theorem u3: ∀(a:Nat) (b:List UInt32) (aR:List UInt8),blocks (a+1) b aR=comp (blocks a b aR) ((aR.drop (64*a)).take 64)
 |0,b,aR=>by simp[blocks]
 |a+1,b,aR=>by
  rw[blocks,u3 a,blocks,a5B];grind
theorem CA: ∀(a b:Nat) (c:List UInt32) (aR:List UInt8),blocks (a+b) c aR=blocks b (blocks a c aR) (aR.drop (64*a))
 |0,b,c,aR=>by simp[blocks]
 |a+1,b,c,aR=>by
  rw[show a+1+b=(a+b)+1 by omega,blocks,CA a b,blocks,a5B,show 64+64*a=64*(a+1) by omega]
theorem CB: ∀(a:Nat) (b:List UInt32) (aR c:List UInt8),64*a<=aR.length->blocks a b (aR++c)=blocks a b aR
 |0,_,_,_,_=>rfl
 |a+1,b,aR,c,d=>by
  rw[blocks,blocks,a6h a9p,a6i a9p];exact CB a _ _ _ a9r
variable{n b3:R}
section
variable {h:List UInt32}(hh:h.length=8)
include hh
def mb:(wl h++ [n,b3]).length=10:=by simp[wl,hh]
def qC:(wl h++ [n,b3]).drop 9= [b3]:=by rw[show(9:Nat)=(wl h).length+1 by rw[eM,hh],<-a5B,a7e];rfl
theorem qD:(wl h++ [n,b3]).drop 8= [n,b3]:=by grind[wl,eM,List.drop_left]
theorem qE:(wl h++ [n,b3]).take 8=wl h:=by grind[wl,eM,List.take_left]
theorem xb {a:R} :putAt (wl h++ [n,b3]) 9 [a]=wl h++ [n,a]:=by simp_all [wl,eM,putAt,a7f,a6k,a4I,a5T]
theorem u4 {a:R} :putAt (wl h++ [n,b3]) 8 [a]=wl h++ [a,b3]:=by simp_all [wl,eM,putAt,a7f,a6k,a4I,a5T]
theorem xc (a:h6.length=8):putAt (wl h++ [n,b3]) 0 (wl h6)=wl h6++ [n,b3]:=by grind[wl,eM,putAt,List.take_append,List.drop_append,List.drop_of_length_le]
end
variable{f t e7:U}{Y:bp}
theorem U.pf (a:f e=some Y):f.set e Y=f:=by grind[U.set]
theorem U.CC {c:bp} (d:(f.set e c).sub t):(f.set e Y).sub (t.set e Y):=λh k a=>by
 rw[U.tL]at a|-;split;simp_all
 .rename_i b;rw[if_neg b]at a;exact d h k (by rw[U.tL,if_neg b];exact a)
theorem Xq (h:List UInt32) (a:h.length=8) (T: ∀o,AC Tryz.prog 270 [] o λV p=>p=o/\V= .agg (wl h)) (b:List UInt8) (W:Own) (s:b.length<=70368744177664) (o:U) (k:Nat) (e:o k=some (.cells (wl h++ [.J [] .nil,.v (.int .u64 0)]))):
  AC Tryz.prog 187 [.ptr k 0,.J (b.map ak) W] o λ_ p=> ∃r,p=o.set k (.cells (wl (blocks (b.length/64) h b)++ [.J ((b.drop (64*(b.length/64))).map ak) r,.v (.int .u64 b.length)])):=by
 refine bf hm OO a9q ?_;have E:(wl h).length=8:=by rw[eM,a]
 rw[<-U.pf e];simp -dsimp -implicitDefEqProofs (disch:=first|omega|assumption|(simp only[aE,Nat.reduceAdd];try omega)) only[go_sem,simprocAttr,mb a,qC a,qD a,qE a,xb a,u4 a];refine ai (T _) ?_;rintro _ _ ⟨rfl,rfl⟩;simp -dsimp -implicitDefEqProofs (disch:=first|omega|assumption|(simp only[aE,Nat.reduceAdd];try omega)) only[go_sem,simprocAttr,mb a,qC a,qD a,qE a,xb a,u4 a,xc a a,E];refine cI U.a1 (by simp[aN]) λt u F=> ?_;have G:=F.sub k _ (U.ah _ _ _);simp -dsimp -implicitDefEqProofs (disch:=first|omega|assumption|(simp only[aE,Nat.reduceAdd];try omega)) only[go_sem,simprocAttr,U.aJ G,U.af G,mb a,qC a,qD a,qE a,xb a,u4 a,xc a a,E];refine dp (A:= []) F (by simp[aN]) (by simp[aN]) a9q a9q λv w f=> ?_;refine eD ?_;refine mQ (B:= []) f a9r λg i L=> ?_;have j:=L.sub k _ (U.ah _ _ _);rw[<-U.pf j];simp -dsimp -implicitDefEqProofs (disch:=first|omega|assumption|(simp only[aE,Nat.reduceAdd];try omega)) only[go_sem,simprocAttr,a8C,a5b];refine cu (λx p=> ∃(c:Nat) (r:Own),64*c<=b.length/\x 0= .ptr k 0/\x 4= .J ((b.drop (64*c)).map ak) r/\p=i.set k (.cells (wl (blocks c h b)++ [.J [] .nil,.v (.int .u64 b.length)])))
  (λx _=>match x 4 with| .J xs _=>xs.length| _=>0) ⟨0,g,a9p,?_⟩ ?_
 .simp -dsimp -implicitDefEqProofs (disch:=first|omega|assumption|(simp only[aE,Nat.reduceAdd];try omega)) only[go_sem,simprocAttr,a8C];rfl
 .rintro x p ⟨c,r,A,C,D,rfl⟩;have d:=pe c h b a;generalize P:blocks c h b=z at*;have B:(wl z).length=8:=by rw[eM,d]
  by_cases y:(64:Int)<=((b.drop (64*c)).length:Int)
  .have l:=y;rw[a4V]at l;simp -dsimp -implicitDefEqProofs (disch:=first|omega|assumption|(simp only[aE,Nat.reduceAdd];try omega)) only[go_sem,simprocAttr,C,D,y,mb d,qE d];have m:((b.drop (64*c)).take (64:Int).toNat).length=64:=a9r;refine ai (Cy z _ _ d m _) ?_;rintro _ _ ⟨rfl,rfl⟩;have S:=x9 z ((b.drop (64*c)).take 64) d;have n:(wl (comp z ((b.drop (64*c)).take 64))).length=8:=by rw[eM,S]
   simp -dsimp -implicitDefEqProofs (disch:=first|omega|assumption|(simp only[aE,Nat.reduceAdd];try omega)) only[go_sem,simprocAttr,C,D,y,mb d,xc d S,n];refine⟨⟨c+1,.any,a9p,?_,?_⟩,by simp only[a4V];omega⟩;grind[List.drop_drop]
   .rw[u3,P]
  .simp -dsimp -implicitDefEqProofs (disch:=first|omega|assumption|(simp only[aE,Nat.reduceAdd];try omega)) only[go_sem,simprocAttr,C,D,y,mb d,u4 d];rw[a4V]at y;have q:b.length/64=c:=a9p;refine⟨o.set k _,U.CC L.sub,r,?_⟩;rw[q,P]
def Xr (a:List UInt8) (d:Own) (h:a.length<=70368744177664) (b:U) (c:Nat) (k:b c=some (.cells (wl gp++ [.J [] .nil,.v (.int .u64 0)]))):
  AC Tryz.prog 187 [.ptr c 0,.J (a.map ak) d] b λ_ o=> ∃p,o=b.set c (.cells (wl (blocks (a.length/64) gp a)++ [.J ((a.drop (64*(a.length/64))).map ak) p,.v (.int .u64 a.length)])):=
 Xq gp rfl x8 a d h b c k
def ep (a:Nat):Nat:=(55+64 - a%64)%64
def jd (a:Nat) (b:List UInt8):List UInt8:=b++128::List.replicate (ep a) 0++cJ (8*a)
def xd (a:UInt32):List UInt8:= [(a>>>24).toUInt8,(a>>>16).toUInt8,(a>>>8).toUInt8,a.toUInt8]
def er (a:List UInt32):List UInt8:=a.flatMap xd
def cL (a:List UInt8):R:= .agg (a.map ak)
def hS (a:List UInt8):List R:=a.map ak++List.replicate (32 - a.length) (.v (.int .u8 0))
variable{B:List UInt8}
def u5 (a:B.length<=32):(hS B).length=32:=by simp[hS];omega
def xe (a:UInt8) (b:e=B.length) (d:B.length<32):putAt (hS B) e [.v (.int .u8 a.toNat)]=hS (B++ [a]):=by subst b;have c:32 - B.length=(32 -(B.length+1))+1:=a9p;simp only[putAt,hS,c,a6O];simp[a7f,a6k,ak]
def u6: ∀a:List UInt32,(er a).length=4*a.length
 | []=>rfl
 |c::b=>by simp only[er,a5l,a4J]at*;have:=u6 b;simp only[er]at this;rw[this];simp[xd];omega
theorem Xs (n:List UInt32) (a09:n.length=8) (k4: ∀E,AC Tryz.prog 270 [] E λq r=>r=E/\q= .agg (wl n)) (k:List UInt32) (x:k.length=8) (a:Nat) (o:List UInt8) (H:Own) (a10:a<=70368744177664) (I:o.length=a%64) (k5:a=0->k=n)
  (E:U) (S:Nat) (T:E S=some (.cells (wl k++ [.J (o.map ak) H,.v (.int .u64 a)]))):
  AC Tryz.prog 188 [.ptr S 0] E λq r=>r=E/\q=cL (er (blocks ((jd a o).length/64) k (jd a o))):=by
 refine bf hm OQ a9q ?_;have K:(wl k).length=8:=by rw[eM,x]
 refine eD ?_;refine aP λG s=> ?_;have k6:S≠G:=by rintro rfl;rw[s]at T;cases T
 simp -dsimp -implicitDefEqProofs (disch:=first|omega|assumption|(simp only[aE,Nat.reduceAdd];try omega)) only[go_sem,↓reduceIte,Nat.reduceEqDiff,Nat.reduceAdd,Nat.reduceSub,Nat.reduceMul,Nat.reduceLeDiff,Nat.reduceLT,Int.reduceNeg,Int.reduceToNat,Int.reduceAdd,Int.reduceSub,Int.reduceMul,Int.reduceLT,Int.reduceLE,Int.reduceEq,Int.reduceNe,U.af T,mb x,qC x,qD x,qE x];refine aP λL g=> ?_;obtain⟨M,g⟩:=U.gM g;have k7:S≠L:=by rintro rfl;rw[g]at T;cases T
 simp -dsimp -implicitDefEqProofs (disch:=first|omega|assumption|(simp only[aE,Nat.reduceAdd];try omega)) only[go_sem,↓reduceIte,Nat.reduceEqDiff,Nat.reduceAdd,Nat.reduceSub,Nat.reduceMul,Nat.reduceLeDiff,Nat.reduceLT,Int.reduceNeg,Int.reduceToNat,Int.reduceAdd,Int.reduceSub,Int.reduceMul,Int.reduceLT,Int.reduceLE,Int.reduceEq,Int.reduceNe,U.af T,mb x,qC x,qD x,qE x,K];refine BU (λb r=>b 0= .ptr S 0/\b 2= .ptr G 0/\b 3= .ptr L 0/\r=(E.set G (.cells (List.replicate 32 (.v (.int .u8 0))))).set L (.cells (wl k))) ?_ ?_ ?_
 .intro N;have k8:a=0:=by simpa using N
  have k9:=k5 k8;subst k9;refine eD ?_;refine ai (k4 _) ?_;rintro _ _ ⟨rfl,rfl⟩;exact gW @K
 .intro _;exact qw
 .rintro b r ⟨z,c,d,rfl⟩;have O:((E.set G (.cells (List.replicate 32 (.v (.int .u8 0))))).set L (.cells (wl k))) S=some (.cells (wl k++ [.J (o.map ak) H,.v (.int .u64 a)])):=by rw[U.an _ _ k7,U.an _ _ k6];exact T
  generalize t:((E.set G (.cells (List.replicate 32 (.v (.int .u8 0))))).set L (.cells (wl k)))=l0 at*;refine aF (aI @z @c @d) ?_;refine cI U.a1 (by simp[aN]) λa11 a13 Q=> ?_;have l1:=Q.sub _ _ O;simp -dsimp -implicitDefEqProofs (disch:=first|omega|assumption|(simp only[aE,Nat.reduceAdd];try omega)) only[go_sem,↓reduceIte,Nat.reduceEqDiff,Nat.reduceAdd,Nat.reduceSub,Nat.reduceMul,Nat.reduceLeDiff,Nat.reduceLT,Int.reduceNeg,Int.reduceToNat,Int.reduceAdd,Int.reduceSub,Int.reduceMul,Int.reduceLT,Int.reduceLE,Int.reduceEq,Int.reduceNe,z,c,d,U.af l1,mb x,qD x];refine mQ (B:= []) Q a9r λa14 a15 l2=> ?_;refine aF (aI @z @c @d) ?_;refine s4 (a:=128) U.a1 λa16 a18 l3=> ?_;refine aF (aI @z @c @d) ?_;refine wL (l2.mono l3.sub) a9r λl4 a19 l5=> ?_;refine aF (aM @z @c @d @a5b.{0}) ?_;refine cu (λb r=> ∃(F:Nat) (V:Own),F<=ep a/\b 0= .ptr S 0/\b 2= .ptr G 0/\b 3= .ptr L 0/\b 4= .J ((o++128::List.replicate F 0).map ak) V/\bh l0 r 1 ((o++128::List.replicate F 0).map ak) V)
   (λb _=>match b 4 with| .J xs _=>200 - xs.length| _=>0) ⟨0,l4,a9p,?_⟩ ?_
  .simp -dsimp -implicitDefEqProofs (disch:=first|omega|assumption|(simp only[aE,Nat.reduceAdd];try omega)) only[go_sem,↓reduceIte,Nat.reduceEqDiff,Nat.reduceAdd,Nat.reduceSub,Nat.reduceMul,Nat.reduceLeDiff,Nat.reduceLT,Int.reduceNeg,Int.reduceToNat,Int.reduceAdd,Int.reduceSub,Int.reduceMul,Int.reduceLT,Int.reduceLE,Int.reduceEq,Int.reduceNe,z,c,d];exact⟨rfl,by simpa using l5⟩
  .rintro b r ⟨F,V,a27,z,c,d,C,u⟩;have N:ep a<=63:=by unfold ep;omega
   have X:(o++128::List.replicate F 0).length=a%64+1+F:=by simp[I];omega
   by_cases P:F<ep a
   .have l6: ¬(((a%64+1+F)%64:Nat):Int)=56:=by unfold ep at P;omega
    refine aF (cc @z @c @d @C @X @BX @l6) ?_;refine s4 (a:=0) U.a1 λl7 l8 v=> ?_;refine aF (aM @z @c @d @C) ?_;refine wL (u.mono v.sub) a9p λY W j=> ?_;have a29:o++128::List.replicate F 0++ [0]=o++128::List.replicate (F+1) 0:=by simp[a9a]
    refine aF (aM @z @c @d @C) ?_;grind
   .obtain rfl:F=ep a:=a9p;have l9:(((a%64+1+ep a)%64:Nat):Int)=56:=by unfold ep;omega
    have n0:=u.sub _ _ O;simp -dsimp -implicitDefEqProofs (disch:=first|omega|assumption|(simp only[aE,Nat.reduceAdd];try omega)) only[go_sem,↓reduceIte,Nat.reduceEqDiff,Nat.reduceAdd,Nat.reduceSub,Nat.reduceMul,Nat.reduceLeDiff,Nat.reduceLT,Int.reduceNeg,Int.reduceToNat,Int.reduceAdd,Int.reduceSub,Int.reduceMul,Int.reduceLT,Int.reduceLE,Int.reduceEq,Int.reduceNe,z,c,d,C,X,BX,l9,ne_eq,not_true_eq_false,U.af n0,mb x,qC x];have e:(8:Int)*(a:Int)=((8*a:Nat):Int):=a9q;rw[e];refine ai (Cz (8*a) _) ?_;rintro _ l8 ⟨l7,v,rfl⟩;refine aF (aM @z @c @d @C) ?_;refine mQ (u.mono v.sub) (by simp[cJ];omega) λY W j=> ?_;refine aF (aM @z @c @d @C) ?_;have n1:W L=some (.cells (wl k)):=j.sub _ _ (by rw[<-t];exact U.ah _ _ _);have Z:W G=some (.cells (List.replicate 32 (.v (.int .u8 0)))):=j.sub _ _ (by rw[<-t,U.an _ _ (a4Q M)];exact U.ah _ _ _);have j9:E.sub W:=U.aq (by rw[<-t];exact U.ae (U.ae U.a1 s) g) j.sub;rw[<-U.pf n1];have n2:o++128::List.replicate (ep a) 0++cJ (8*a)=jd a o:=rfl;have a30:(jd a o).length=64*((jd a o).length/64):=by
     have:(jd a o).length=a%64+1+ep a+8:=by simp[jd,I,cJ];omega
     rw[this];unfold ep;omega
    rw[n2];generalize jd a o=y at*;refine cu (λb r=> ∃(p:Nat) (V:Own),64*p<=y.length/\b 2= .ptr G 0/\b 3= .ptr L 0/\b 4= .J ((y.drop (64*p)).map ak) V/\r=W.set L (.cells (wl (blocks p k y))))
     (λb _=>match b 4 with| .J xs _=>xs.length| _=>0) ⟨0,Y,a9p,?_⟩ ?_
    .refine aF (c2 @c @d) ?_;rfl
    .rintro b r ⟨p,V,a34,c,d,C,rfl⟩;have w:=pe p k y x;have l:(wl (blocks p k y)).length=8:=by rw[eM,w]
     by_cases P:(0:Int)<((y.drop (64*p)).length:Int)
     .have n3:=P;rw[a4V]at n3;have a36:64<=(y.drop (64*p)).length:=by rw[a4V];omega
      refine aF (bC @c @d @C @P @l @a4I.{0}) ?_;have n4:((y.drop (64*p)).take 64).length=64:=a9r;refine ai (Cy _ _ _ w n4 _) ?_;rintro _ _ ⟨rfl,rfl⟩;have n5:=x9 (blocks p k y) ((y.drop (64*p)).take 64) w;have n9:(wl (comp (blocks p k y) ((y.drop (64*p)).take 64))).length=8:=by rw[eM,n5]
      refine aF (bo @c @d @C @l @n9) ?_;refine⟨⟨p+1,.any,a9p,?_,?_⟩,by simp only[a4V];omega⟩;grind[List.drop_drop]
      .rw[u3]
     .rw[a4V]at P;have a00:p=y.length/64:=a9p;refine aF (bo @c @d @C @a4V.{0} @P) ?_;rw[<-a00];generalize a38:blocks p k y=D at*;refine aP λA B=> ?_;obtain⟨a42,B⟩:=U.gM B;have k0:A≠G:=by grind
      refine aF (bo @c @d @C @l @a4I.{0}) ?_;refine cu (λb r=> ∃h:Nat,h<=8/\b 2= .ptr G 0/\b 5= .ptr A 0/\b 50= .agg (wl D)/\b 51= .v (.int .i64 h)/\r=(W.set L (.cells (wl D))).set A (.cells (hS (er (D.take h)))))
       (λb _=>match b 51 with| .v (.int _ a)=>(8 - a).toNat| _=>0) ⟨0,a9p,?_⟩ ?_
      .refine aF (aI @c @d @C) ?_
       (rw[a6q];rfl)
      .rintro b r ⟨h,a43,c,k1,k2,k3,rfl⟩;have f:(er (D.take h)).length=4*h:=by rw[u6];simp;omega
       by_cases P:(h:Int)<8
       .have a01:(hS (er (D.take h))).length=32:=u5 a9p;have a02:(4*(h:Int)).toNat=4*h:=a9p;have a03:(4*(h:Int)+1).toNat=4*h+1:=a9p;have a04:(4*(h:Int)+2).toNat=4*h+2:=a9p;have a05:(4*(h:Int)+3).toNat=4*h+3:=a9p;have a47: ∀(i:List UInt8) (m:UInt8),i.length<32->putAt (hS i) i.length [.v (.int .u8 m.toNat)]=hS (i++ [m]):=λi m a06=>xe m rfl a06;simp -dsimp -implicitDefEqProofs (disch:=first|omega|assumption|(simp only[aE,Nat.reduceAdd];try omega)) only[go_sem,↓reduceIte,Nat.reduceEqDiff,Nat.reduceAdd,Nat.reduceSub,Nat.reduceMul,Nat.reduceLeDiff,Nat.reduceLT,Int.reduceNeg,Int.reduceToNat,Int.reduceAdd,Int.reduceSub,Int.reduceMul,Int.reduceLT,Int.reduceLE,Int.reduceEq,Int.reduceNe,c,k1,k2,k3,P,l,hq,a02,a03,a04,a05,xe,u5];refine⟨⟨h+1,a9p,a9q,?_⟩,a9p⟩;grind[er,xd,List.getD,List.take_succ_eq_append_getElem]
       .obtain rfl:h=8:=a9p;have a01:(hS (er (D.take 8))).length=32:=u5 a9p;have e:D.take 8=D:=a4I a9p;have a07:hS (er D)=(er D).map ak:=by rw[e]at f;simp[hS,f]
        have a08:((er D).map ak).length=32:=by rw[e]at f;simp[f]
        have a48:(er D).length=32:=by rw[e]at f;exact f
        rw[e,a07];refine aF (p6 @c @k1 @k2 @k3 @P @a08 @a4I.{0} (U.aJ Z) (U.af Z) @k0 (a4Q k0) (a4Q M) @ql) ?_;refine⟨E,?_,rfl,rfl⟩;exact U.ae (U.ae (U.ae j9 g) (U.bF j9 B)) s
def Xt (b:U):AC Tryz.prog 186 [] b λc d=> ∃a,b a=none/\c= .ptr a 0/\d=b.set a (.cells (wl gp++ [.J [] .nil,.v (.int .u64 0)])):=by refine bf hm OM a9q ?_;refine eD ?_;refine ai (x8 _) ?_;rintro _ _ ⟨rfl,rfl⟩;have h:(wl gp).length=8:=rfl;have k:putAt (List.replicate 8 (R.v (Value.int IntKind.u32 0))++ [R.J [] Own.nil]++ [R.v (Value.int IntKind.u64 0)]) 0 (wl gp)=wl gp++ [.J [] .nil,.v (.int .u64 0)]:=rfl;simp -dsimp -implicitDefEqProofs (disch:=first|omega|assumption|(simp only[aE,Nat.reduceAdd];try omega)) only[go_sem,↓reduceIte,Nat.reduceEqDiff,Nat.reduceAdd,Nat.reduceSub,Nat.reduceMul,Nat.reduceLeDiff,Nat.reduceLT,Int.reduceNeg,Int.reduceToNat,Int.reduceAdd,Int.reduceSub,Int.reduceMul,Int.reduceLT,Int.reduceLE,Int.reduceEq,Int.reduceNe,h,k];refine aP λa o=> ?_;refine eD ?_;exact⟨_,U.a1,a,o,rfl,rfl⟩
def fk (a:List UInt8):List UInt8:=
 er (blocks ((jd a.length (a.drop (64*(a.length/64)))).length/64) (blocks (a.length/64) gp a) (jd a.length (a.drop (64*(a.length/64)))))
def sk (a:List UInt8):(fk a).length=32:=by rw[fk,u6,pe _ _ _ (pe _ _ _ rfl)]
def Xu (a:List UInt8) (c:Own) (d:a.length<=70368744177664) (b:U):AC Tryz.prog 121 [.J (a.map ak) c] b λk o=>o=b/\k=cL (fk a):=by
 refine bf hm MN a9q ?_;refine eD ?_;refine aP λG p=> ?_;refine eD ?_;refine ai (Xt _) ?_;rintro _ _ ⟨h,r,rfl,rfl⟩;obtain⟨x,y⟩:=U.gM r;refine eD ?_;refine ai (Xr a c d _ h (U.ah _ _ _)) ?_;rintro _ _ ⟨z,rfl⟩;refine eD ?_;have C:(a.drop (64*(a.length/64))).length=a.length%64:=a9r;refine ai (Xs gp rfl x8 (blocks (a.length/64) gp a) (pe _ _ _ rfl) a.length (a.drop (64*(a.length/64))) z d C (λD=> ?_) _ h (U.ah _ _ _)) ?_
 .rw[D];rfl
 rintro _ _ ⟨rfl,rfl⟩;have E:((fk a).map ak).length=32:=by rw[a4T,sk]
 have L:=sk a;have F:cL (er (blocks ((jd a.length (a.drop (64*(a.length/64)))).length/64) (blocks (a.length/64) gp a) (jd a.length (a.drop (64*(a.length/64))))))= .agg ((fk a).map ak):=rfl;rw[F];generalize fk a=P at*;refine aF (c2 @E (a4Q x)) ?_;exact⟨b,U.ae (U.ae U.a1 p) y,rfl,by rw[a4I a9p];rfl⟩
def a4A (a:List (List UInt8)):Prop:= ∀b∈a,b.length=32
def ba:(cL B).cells=B.map ak:=rfl
def bb (a:B.length=32):(.agg ((B.take 32).map ak):R)=cL B:=by rw[a4I (by simp[a])];rfl
def Xv (a:List (List UInt8)) (b:Own) (c:List (List UInt8×Own)) (d:Own) (h:Bool):bp:= .cells [.J (a.map cL) b,.J (pd c) d,.v (.bool h)]
def PS (c:U) (d:Nat) (h k:List (List UInt8)) (o:Bool) (p:U):Prop:=
 ∃r b a,a.map (·.1)=k/\bh (c.set d (Xv h r a b o)) p 1 (pd a) b
def u7:List UInt8:=List.replicate 32 0
def eQ:bp:= .cells (List.replicate 32 (.v (.int .u8 0)))
def Xw (a:List UInt8):bp:= .cells (a.map ak)
def CD {a:List UInt8} (c:cL B=cL a):B=a:=by
 have d:B.map ak=a.map ak:=by simpa[cL] using c
 have b:=congrArg bytesOf d;rw[rB,rB]at b;exact a4G b
end Go.Proofs.YtlgnfcaolejgeaaGreat
set_option maxHeartbeats 1000000
namespace Go.Proofs.YtlgnfcaolejgeaaGreat
open Go Go.bA
structure BF where
 x:List UInt8
 y:List UInt8
 cB:List (List UInt8)
 sl:List (List UInt8)
 iB:Bool
end Go.Proofs.YtlgnfcaolejgeaaGreat
set_option maxHeartbeats 1000000
namespace Go.Proofs.YtlgnfcaolejgeaaGreat
open Go Go.bA
def u9 (a:List UInt8) (b:Own):bp:= .cells [.J (a.map ak) b,.v (.int .i64 0)]
def cD (c:U) (d:Nat) (a:List UInt8) (h:U):Prop:= ∃b,bh (c.set d (u9 a b)) h 1 (a.map ak) b
def ua (h k:U) (d:Nat) (a b:List UInt8) (y:Own) (c:cD h d a k) (D:a.length+b.length<=70368744177664):
  AC Tryz.prog 168 [.ptr d 0,.v (.bool true),.J (b.map ak) y] k λ_ z=>cD h d (a++b) z:=by
 obtain⟨E,c⟩:=c;have C:=c.sub _ _ (U.ah _ _ _);refine bf hm Od a9q ?_;refine aF (aM @a5F (U.af C) @ba @bb) ?_;refine mQ c a9p λo F p=> ?_;have r:=p.sub _ _ (U.ah _ _ _);refine aF (aM (U.af r) (U.aJ r) @ba @bb) ?_;have x:=p.set (ob:=u9 (a++b) o) (U.ah _ _ _);rw[U.set_set]at x;exact⟨_,U.a1,o,x⟩
def mX (c k:U) (a:Nat) (b:List UInt8) (d:UInt8) (h:cD c a b k) (o:b.length+1<=70368744177664):
  AC Tryz.prog 103 [.ptr a 0,.v (.int .u8 d.toNat)] k λ_ p=>cD c a (b++ [d]) p:=by
 refine bf hm Mg a9q ?_;refine aF (c2 @ba @bb) ?_;refine s4 U.a1 λr x y=> ?_;refine aF (c2 @ba @bb) ?_;obtain⟨z,h⟩:=h;refine ai (ua c x a b [d] r ⟨z,h.mono y.sub⟩ o) ?_;intro E C D;refine aF (c2 @ba @bb) ?_;exact⟨C,U.a1,D⟩
def cd (a:Int):Nat:=(BitVec.ofInt 64 a^^^BitVec.ofInt 64 9223372036854775808).toNat
def hT (a:Int):List UInt8:=cJ (cd a)
def CE (a:Int):bn .xor (.int .u64 (IntKind.u64.wrap a)) (.int .u64 9223372036854775808)=some (.int .u64 (cd a)):=by
 have b:BitVec.ofInt 64 (IntKind.u64.wrap a)=BitVec.ofInt 64 a:=by rw[kx];apply BitVec.eq_of_toInt_eq;simp[BitVec.toInt_ofInt,Int.bmod]
 have c:bn .xor (.int .u64 (IntKind.u64.wrap a)) (.int .u64 9223372036854775808)=some (.int .u64 (IntKind.u64.wrap (BitVec.ofInt 64 (IntKind.u64.wrap a)^^^BitVec.ofInt 64 9223372036854775808).toNat)):=rfl;rw[c,b];have d:=(BitVec.ofInt 64 a^^^BitVec.ofInt 64 9223372036854775808).isLt;rw[wrap_u64 a9p a9p];rfl
theorem Xx (o C:U) (b:Nat) (p:List UInt8) (h:Int) (E:cD o b p C) (G:p.length+8<=70368744177664):
  AC Tryz.prog 254 [.ptr b 0,.v (.int .i64 h)] C λ_ c=>cD o b (p++hT h) c:=by
 refine bf hm QG a9q ?_;refine aF (aI @CE @ba @bb) ?_;generalize F:cd h=k;refine cu (λd c=> ∃a:Nat,a<=8/\cD o b (p++(cJ k).take a) c/\d 0= .ptr b 0/\d 4= .v (.int .u64 k)/\d 5= .v (.int .i64 (56 - 8*(a:Int))))
  (λd _=>match d 5 with| .v (.int _ h)=>(h+8).toNat| _=>0) ⟨0,a9p,by simpa using E,?_⟩ ?_
 .exact gW (c2 @ba @bb)
 .rintro d c ⟨a,L,D,r,x,y⟩;by_cases z:(0:Int)<=56 - 8*(a:Int)
  .refine aF (cc @r @x @y @z @ix @ba @bb) ?_;refine ai (mX o c b _ _ D ?_) ?_
   .simp;omega
   intro P S T;refine aF (bC @r @x @y @z @ba @bb) ?_;refine⟨⟨a+1,a9p,?_,a9r⟩,a9p⟩;have V:(cJ k).take (a+1)=(cJ k).take a++ [UInt8.ofNat (k>>>(56 - 8*(a:Int)).toNat)]:=by rcases(by omega:a=0\/a=1\/a=2\/a=3\/a=4\/a=5\/a=6\/a=7)with rfl|rfl|rfl|rfl|rfl|rfl|rfl|rfl<;>rfl
   grind
  .obtain rfl:a=8:=a9p;refine aF (bC @r @x @y @z @ba @bb) ?_;refine⟨c,U.a1,?_⟩;rw[hT,F];exact D
end Go.Proofs.YtlgnfcaolejgeaaGreat
namespace Go.bA
open Go
def CF (a:Bool) (c:R) (b:R->Prop):Prop:=
 match c with
 | .J xs d=>match d with
  | .nil=>b (.v (.bool (!a)))
  | .buf _ _=>b (.v (.bool a))
  | _=>(xs= []->b (.v (.bool (!a))))/\b (.v (.bool a))
 | .al _ _ _ _=>b (.v (.bool a))
 | _=>False
variable{s a7:R -> U -> Prop}{I:Bool}{K:Ctx}{j:Fr}{f t e7:U}{Z e9:Operand}
def o8:G K (.mA I Z) j f s=CF I (aj j Z) (c3 (λa=>s a f) ()):=rfl
variable{g A e1:List R}{N e5 h5:Own}
def o9 {a:R->Prop}{d:cC a} (h:N= .nil->g= []) (b:g= []->a (.v (.bool (!I)))) (c:a (.v (.bool I))):CF I (.J g N) (c3 a d):=by
 cases N with
 |nil=>exact b (h rfl)
 |buf k o=>exact c
 |any=>exact⟨b,c⟩
 |zero=>exact⟨b,c⟩
end Go.bA
namespace Go.Proofs.YtlgnfcaolejgeaaGreat
open Go Go.bA
def xf (a:List UInt8) (d:Own) (b:U) (k:d= .nil->a= []) (D:a.length<=70368744177664):
  AC Tryz.prog 172 [.J (a.map ak) d] b λo p=> ∃h,bh b p 1 (a.map ak) h/\o= .J (a.map ak) h:=by
 refine bf hm Om a9q ?_;simp -dsimp -implicitDefEqProofs (disch:=first|omega|assumption|(simp only[aE,Nat.reduceAdd];try omega)) only[go_sem,simprocAttr,ba,bb,↓o8];refine o9 (λc=>by rw[k c];rfl) (λc=> ?_) ?_
 .have r:a= []:=by simpa using c
  subst r;refine aF (aI @a5w @ba @bb) ?_;exact⟨b,U.a1,.nil,bh.nil U.a1,rfl⟩
 .refine aF (c2 @ba @bb) ?_;refine cI U.a1 (by simp[aN]) λE F x=> ?_;refine aF (c2 @ba @bb) ?_;refine mQ (B:= []) x a9r λy z C=> ?_;refine aF (aI @a5b.{0} @ba @bb) ?_;exact⟨z,U.a1,y,by simpa using C,rfl⟩
def CG (k b:U) (d:Nat) (a:List UInt8) (c:cD k d a b) (o:a.length<=70368744177664):
  AC Tryz.prog 106 [.ptr d 0] b λp r=> ∃h,bh b r 1 (a.map ak) h/\p= .J (a.map ak) h:=by
 obtain⟨x,c⟩:=c;have y:=c.sub _ _ (U.ah _ _ _);refine bf hm Mm a9q ?_;refine aF (aI (U.af y) @ba @bb) ?_;refine ai (xf a x b (λz=> ?_) o) ?_
 .subst z;have:=c.2;simpa using this
 rintro _ C ⟨D,E,rfl⟩;refine aF (c2 @ba @bb) ?_;exact⟨C,U.a1,D,E,rfl⟩
end Go.Proofs.YtlgnfcaolejgeaaGreat
namespace Go.bA
open Go
end Go.bA
namespace Go.Proofs.YtlgnfcaolejgeaaGreat
open Go Go.bA
def xg (a:Int) (b c:List UInt8):List R:= .v (.int .i64 a)::(b.map ak++c.map ak)
def Xy (a:Int) (b c:List UInt8):R:= .agg (xg a b c)
def Xz (a:Int) (b c:List UInt8):List UInt8:=preB 68 [hT a,b,c]
end Go.Proofs.YtlgnfcaolejgeaaGreat
namespace Go.bA
open Go
variable{f t e7:U}{g A e1:List R}{e i v M c0 j0:Nat}
def XA (a:g.length=e):s6 1 e (f.set i (.ro g)) (.ptr i 0)=some (.J g .any):=V3 (U.ah _ _ _) a
end Go.bA
namespace Go.Proofs.YtlgnfcaolejgeaaGreat
open Go Go.bA
structure iC where
 n:Int
 h:List UInt8
 d:List UInt8
 deriving DecidableEq
def iC.ok (a:iC):Prop:=a.h.length=32/\a.d.length=32
def iC.C (a:iC):List R:=xg a.n a.h a.d
def iC.V (a:iC):R:=Xy a.n a.h a.d
def iC.sum (a:iC):List UInt8:=fk (Xz a.n a.h a.d)
def cD.mono {b c d:U}{h:Nat}{k:List UInt8} (a:cD b h k c) (o:c.sub d):cD b h k d:=by obtain⟨p,a⟩:=a;exact⟨p,a.mono o⟩
def cD.sub {a c:U}{d:Nat}{h:List UInt8} (b:cD a d h c) (k:a d=none):a.sub c:=by obtain⟨o,b⟩:=b;exact U.aq (U.ae U.a1 k) b.sub
theorem cD.base {b c d:U}{h:Nat}{k:List UInt8} (a:cD b h k d) (o:c.sub b):cD c h k d:=by obtain⟨p,a⟩:=a;exact⟨p,a.base (U.lg o)⟩
variable{f t e7:U}{B:List UInt8}{e i v M c0 j0:Nat}
def cD.cell (a:cD t e B f): ∃b,f e=some (u9 B b):=by obtain⟨b,a⟩:=a;exact⟨b,a.sub _ _ (U.ah _ _ _)⟩
def cD.new {d h:U}{c a:Nat}{p:List UInt8}{ob:bp} (b:cD d c p h) (k:h a=none):a≠c/\d a=none/\cD (d.set a ob) c p (h.set a ob):=by
 obtain⟨r,x⟩:=b.cell;have o:a≠c:=by rintro rfl;rw[k]at x;cases x
 obtain⟨r,b⟩:=b;have y:=U.bF b.sub k;rw[U.an _ _ o]at y;refine⟨o,y,r,?_⟩;rw[U.ef _ o];exact b.new k
variable{Y:bp}
def cD.get (a:cD f i B t) (b:e≠i) (c:f e=some Y):t e=some Y:=by obtain⟨d,a⟩:=a;exact a.sub _ _ (by rw[U.an _ _ b];exact c)
def CH (d h:U) (a:Nat) (b c:List UInt8) (k:c.length=32) (o:cD d a b h) (y:b.length+32<=70368744177664):
  AC Tryz.prog 170 [.ptr a 0,cL c] h λ_ p=>cD d a (b++c) p:=by
 refine bf hm Oh a9q ?_;refine aF (aI @k @ba @bb) ?_;refine aP λz r=> ?_;refine aF (aM @k @XA @ba @bb) ?_;refine ai (ua d _ a b c .any (o.mono (U.ae U.a1 r)) a9p) ?_;intro C D x;refine aF (c2 @ba @bb) ?_;exact⟨_,U.a1,x⟩
def CI (a:Int):(hT a).length=8:=rfl
end Go.Proofs.YtlgnfcaolejgeaaGreat
