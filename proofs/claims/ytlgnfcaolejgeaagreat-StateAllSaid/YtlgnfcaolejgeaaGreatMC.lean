import Derived.Test.YtlgnfcaolejgeaaGreatMB
set_option linter.all false
namespace Go.bB
open Go
abbrev cD.{a}{b:Sort a} (_:b):Type:=Unit
variable{b0:Type}
def c4 (a:b0->Prop) (_:cD a) (b:b0):Prop:=a b
def bP {a:Type} (b:b0->a->Prop) (_:cD b) (c:b0) (d:a):Prop:=b c d
def cx (a:Prop) (_:cD a):Prop:=a
def jJ {a:b0->Prop}{c:cD a}{b:b0}:c4 a c b=a b:=rfl
def SC {b:Type}{a:b0->b->Prop}{h:cD a}{c:b0}{d:b}:bP a h c d=a c d:=rfl
variable{Q b5 h4 j1 j6:Prop}
def Bt {a:cD Q}:cx Q a=Q:=rfl
def iZ (b:U) (c:Nat->Prop):Prop:= ∀a,b a=none->c a
def gW (a b:Prop):Prop:=a/\b
def rS {a:cD Q} (b:b5):gW b5 (cx Q a)=Q:=by simp[gW,cx,b]
def rT {a:cD Q}:gW True (cx Q a)=Q:=by simp[gW,cx]
variable{h7:dN}{e3:cb}{n b3:R}{s a7:R -> U -> Prop}{I:Bool}{K:Ctx}{e8:gn -> Fr -> U -> Prop}{j:Fr}{j4:Fr -> U -> Prop}{b4:FuncId}{f t e7:U}{b1:Int}{e2:IntKind}{g A e1:List R}{e i v M c0 j0:Nat}{j5:Nat -> Prop}{Y:bq}{Z e9:Operand}{N e5 h5:Own}{m:Program}{b2:TypeId}{e4:Value}
section
def SD:bU K .skip e8 j f=e8 .norm j f:=rfl
def SE:bU K .ret e8 j f=e8 .ret j f:=rfl
def SF:bU K (.exit e) e8 j f=e8 (.exit e) j f:=rfl
def SG {a:dN}:bU K (.seq h7 a) e8 j f=bU K h7 (eS (bU K a e8) e8) j f:=rfl
def SH:bU K (.block e h7) e8 j f=bU K h7 (lg e e8) j f:=rfl
def SI {a:List c7}:bU K (.plain a) e8 j f=iV K a (e8 .norm) j f:=rfl
def SJ {a:List c7}{b:List dk}:bU K (.draw a b) e8 j f=can K (nth a) (e8 .norm) b j f:=rfl
def kv (b:R) (c d:Prop):Prop:=
 match b with
 | .v (.bool a)=>(a=true->c)/\(a=false->d)
 | _=>False
def wE {a:dN}:bU K (.cond Z h7 a) e8 j f=kv (aj j Z) (cx (bU K h7 e8 j f) ()) (cx (bU K a e8 j f) ()):=rfl
def Bu {a:cD Q}:kv (.v (.bool true)) (cx Q a) b5=Q:=by simp[kv,cx]
def Bv {a:cD Q}:kv (.v (.bool false)) b5 (cx Q a)=Q:=by simp[kv,cx]
def SK:bU K (.loop h7) e8 j f=cx (bU K (.loop h7) e8 j f) ():=rfl
def SL:eS j4 e8 .norm j f=j4 j f:=rfl
def SM:eS j4 e8 .ret j f=e8 .ret j f:=rfl
def SN:eS j4 e8 (.exit e) j f=e8 (.exit e) j f:=rfl
def SO:lg e e8 .norm j f=e8 .norm j f:=rfl
def SP:lg e e8 .ret j f=e8 .ret j f:=rfl
def SQ:lg i e8 (.exit e) j f=(if e=i then e8 .norm j f else e8 (.exit e) j f):=by simp only[lg];split<;>rfl
def SR:lg e e8 (.exit e) j f=e8 .norm j f:=by simp[lg]
def SS:iV K [] j4 j f=j4 j f:=rfl
def SU {a:Option Nat}{b:List c7}:iV K (⟨a,e3,none⟩::b) j4 j f=G K e3 j f (λc d=>iV K b j4 (dn j a c) d):=rfl
def hN (b:R) (c:Bool) (d a:Prop):Prop:=
 match b with
 | .v (.bool h)=>if h=c then d else a
 | .aL []=>a
 | _=>False
def SV {a:Option Nat}{b:List c7}:
  iV K (⟨a,e3,some (e,I)⟩::b) j4 j f=hN (j e) I (cx (G K e3 j f (λc d=>iV K b j4 (dn j a c) d)) ()) (cx (iV K b j4 (dn j a (.aL [])) f) ()):=rfl
def SX {a:cD Q}:hN (.v (.bool true)) true (cx Q a) b5=Q:=by simp[hN,cx]
def SY {a:cD Q}:hN (.v (.bool false)) false (cx Q a) b5=Q:=by simp[hN,cx]
def SZ {a:cD Q}:hN (.v (.bool true)) false b5 (cx Q a)=Q:=by simp[hN,cx]
def T0 {a:cD Q}:hN (.v (.bool false)) true b5 (cx Q a)=Q:=by simp[hN,cx]
def T1 {a:cD Q}:hN (.aL []) I b5 (cx Q a)=Q:=rfl
def T2 {a:Bool}:hN (.v (.bool I)) a Q b5=((I=a->Q)/\(I=(!a)->b5)):=by cases I<;>cases a<;>simp[hN]
def T3 {a:Nat->c7}:can K a j4 [] j f=j4 j f:=rfl
def lV (a:c7) (b:c7->Prop):Prop:=b a
def T4 {a:Option Nat}{b:Option (Nat×Bool)}{c:c7->Prop}:lV ⟨a,e3,b⟩ c=c ⟨a,e3,b⟩:=rfl
def T5 {a:Nat->c7}{b:List dk}:can K a j4 (⟨e,[],[]⟩::b) j f=lV (a e) (c4 (λc=>T K c (λd h=>can K a j4 b d h) j f) ()):=by simp only[can,a6p,false_implies,implies_true,true_and,lV,c4]
def T6 {a:Nat->c7}{b c:List Nat}{d:List dk}:can K a j4 (⟨e,i::b,c⟩::d) j f=gW (lV (a i) (c4 (λh=>Def K h j) ())) (cx (can K a j4 (⟨e,b,c⟩::d) j f) ()):=by simp only[can,a5k,forall_eq_or_imp,gW,lV,c4,cx];exact propext and_assoc
def rU (c:Ctx) (a:c7) (b:Fr) (d:U):Prop:=
 match a.dst with
 |some h=>E c a b d λk _=>k=b h
 |none=>True
def nT (b:Ctx) (c:Nat->c7) (d:Fr) (h:U):List Nat->Prop->Prop
 | [],a=>a
 |k::o,a=>gW (lV (c k) (c4 (λp=>rU b p d h) ())) (cx (nT b c d h o a) ())
def T7 {a:Nat->c7}:nT K a j f [] Q=Q:=rfl
def T8 {a:Nat->c7}{b:List Nat}:nT K a j f (e::b) Q=gW (lV (a e) (c4 (λc=>rU K c j f) ())) (cx (nT K a j f b Q) ()):=rfl
def Bw {a:Nat->c7}{b:Prop}: ∀c,nT K a j f c b=((∀d∈c,hl K a d j f)/\b)
 | []=>by simp[nT]
 |d::h=>by simp only[nT,Bw h,gW,lV,c4,cx,a5k,forall_eq_or_imp,hl,rU];exact propext and_assoc.symm
def T9 {a:Nat->c7}{b:List Nat}{c:List dk}:can K a j4 (⟨e,[],i::b⟩::c) j f=lV (a e) (c4 (λk=>T K k (λd h=>nT K a d h (i::b) (can K a j4 c d h)) j f) ()):=by simp only[can,a6p,false_implies,implies_true,true_and,lV,c4,Bw]
def Ta {a:Option Nat}:Def K ⟨a,e3,none⟩ j=G K e3 j U.emp (λ_ _=>True):=rfl
def Tb:rU K ⟨some e,e3,none⟩ j f=G K e3 j f (λa _=>a=j e):=rfl
def Tc {a:cD (λ_:Nat=>True)}:iZ f (c4 (λ_=>True) a)=True:=by simp[iZ,c4]
def Td {a:c7}{b:List c7}:nth (a::b) 0=a:=rfl
def Te {b:c7}{a:List c7}:nth (b::a) (e+1)=nth a e:=rfl
def Tf {a:Option Nat}:T K ⟨a,e3,none⟩ j4 j f=G K e3 j f (λb c=>j4 (dn j a b) c):=rfl
def Tg {a:Option Nat}:T K ⟨a,e3,some (e,I)⟩ j4 j f=hN (j e) I (cx (G K e3 j f (λb c=>j4 (dn j a b) c)) ()) (cx (j4 (dn j a (.aL [])) f) ()):=rfl
def Th:dn j (some i) n e=if e=i then n else j e:=rfl
def Ti:dn j none n e=j e:=rfl
def dF (a:Option R) (b:R->Prop):Prop:=
 match a with
 |some a=>b a
 |none=>False
def kx [Decidable Q] {a:R->Prop}:dF (if Q then some n else none) a=(Q/\a n):=by split<;>simp[dF, *]
def Tj {a:R->Prop}:dF (some n) a=a n:=rfl
def mQ (a:R) (b:R->Prop):Prop:=b a
def Tk {a:R->Prop}:mQ n a=a n:=rfl
def p2 (a:Option (List R)) (b:List R->Prop):Prop:=
 match a with
 |some a=>b a
 |none=>False
def Tl {a:List R->Prop}:p2 (some g) a=a g:=rfl
section
def Tm:G K (.fc Z) j f s=mQ (aj j Z) (c4 (λa=>s a f) ()):=rfl
def tK (a b c:R):Option R:=
 match a with
 | .v (.bool d)=>some (if d then b else c)
 | _=>none
def Tn:tK (.v (.bool true)) n b3=some n:=rfl
def To:tK (.v (.bool false)) b3 n=some n:=rfl
def Tp {a:Operand}:G K (.pick e9 Z a) j f s=dF (tK (aj j e9) (aj j Z) (aj j a)) (c4 (λb=>s b f) ()):=by simp only[G,tK];generalize aj j e9=Z;cases Z<;>first|rfl|(rename_i v;cases v<;>rfl)
def Tq:G K (.alloc b2 g) j f s=iZ f (c4 (λa=>s (.ptr a 0) (f.set a (.cells g))) ()):=rfl
def Tr:G K (.box b2 Z) j f s=mQ (aj j Z) (c4 (λa=>gW (0<a.cells.length) (cx (iZ f (c4 (λb=>s (.ptr b 0) (f.set b (.cells a.cells))) ())) ())) ()):=rfl
def Ts:G K (.ki b2 Z) j f s=mQ (aj j Z) (c4 (λa=>gW (0<a.cells.length) (cx (iZ f (c4 (λb=>s (.ptr b 0) (f.set b (.ro a.cells))) ())) ())) ()):=rfl
def dr (b:Bool) (a:Nat) (c:U) (d:R):Option R:=
 match d with
 | .ptr h off=>match c.read h with
  |some cs=>if off+a<=cs.length then some (aY b a (cs.drop off))else none
  |none=>none
 | .bW cs=>if a<=cs.length then some (aY b a cs)else none
 | _=>none
def p3 (d:Bool) (b c:Nat) (a:Option (List R)):Option R:=
 match a with
 |some a=>if c+b<=a.length then some (aY d b (a.drop c))else none
 |none=>none
def Tt:dr I e f (.ptr i v)=p3 I e v (f.read i):=rfl
def Bx (a:i+e<=g.length):p3 I e i (some g)=some (aY I e (g.drop i)):=by simp[p3,a]
def Tu (a:e<=g.length):dr I e f (.bW g)=some (aY I e g):=by simp[dr,a]
def Tv:G K (.load I e Z) j f s=dF (dr I e f (aj j Z)) (c4 (λa=>s a f) ()):=by
 simp only[G,dr];generalize aj j Z=b;cases b<;>first
  |rfl
  |(simp only[kx,jJ];done)
  |(rename_i c h;simp only[];generalize f.read c=d;cases d<;>first|rfl|(simp only[kx,jJ]))
def ep (a:U) (b:Nat):Option (List R):=
 match a b with
 |some (.cells cs)=>some cs
 | _=>none
def wF (a:U) (b:Nat) (k:R) (c:List R) (o:U->Prop):Prop:=
 match k with
 | .ptr d off=>p2 (ep a d) λh=>gW (c.length=b/\off+b<=h.length) (o (a.set d (.cells (putAt h off c))))
 | _=>False
def Tw {a:U->Prop}:wF f e (.ptr i v) g a=p2 (ep f i) (c4 (λb=>gW (g.length=e/\v+e<=b.length) (cx (p2 (some (putAt b v g)) (c4 (λc=>a (f.set i (.cells c))) ())) ())) ()):=rfl
def Tx:G K (.store e Z e9) j f s=wF f e (aj j Z) (aj j e9).cells (c4 (λa=>s (.aL []) a) ()):=by
 simp only[G,wF];generalize aj j Z=b;cases b<;>first
  |rfl
  |(
    rename_i c h;simp only[ep];cases f c with
    |none=>rfl
    |some d=>cases d with
     |cells cs=>exact propext and_assoc.symm
     | _=>rfl)
def rV (a:R):Option R:=
 match a with
 | .ptr b off=>some (.ptr b off)
 | .bW cs=>some (.bW cs)
 | .bH c cC cs=>some (.bH c cC cs)
 | _=>none
def Ty:rV (.ptr e i)=some (.ptr e i):=rfl
def Tz:rV (.bW g)=some (.bW g):=rfl
def TA:G K (.q1 Z) j f s=dF (rV (aj j Z)) (c4 (λa=>s a f) ()):=by simp only[G,rV];generalize aj j Z=b;cases b<;>first|rfl|(rename_i v;cases v<;>rfl)
def rW (a:Nat) (b:R):Option R:=
 match b with
 | .ptr c d=>some (.ptr c (d+a))
 | .bW cs=>some (.bW (cs.drop a))
 | _=>none
def TB:rW e (.ptr i v)=some (.ptr i (v+e)):=rfl
def TC:rW e (.bW g)=some (.bW (g.drop e)):=rfl
def TD:G K (.kZ e Z) j f s=dF (rW e (aj j Z)) (c4 (λa=>s a f) ()):=by simp only[G,rW];generalize aj j Z=b;cases b<;>first|rfl|(rename_i v;cases v<;>rfl)
def lW (b c:Nat) (d h:R):Option R:=
 match d,h with
 | .ptr k o,.v (.int _ a)=>if 0<=a/\a<c then some (.ptr k (o+a.toNat*b))else none
 | .bW cs,.v (.int _ a)=>if 0<=a/\a<c then some (.bW (cs.drop (a.toNat*b)))else none
 | _,_=>none
def rX (a:0<=b1) (b:b1<i):lW e i (.ptr v M) (.v (.int e2 b1))=some (.ptr v (M+b1.toNat*e)):=by simp[lW,a,b]
def TE (a:0<=b1) (b:b1<i):lW e i (.bW g) (.v (.int e2 b1))=some (.bW (g.drop (b1.toNat*e))):=by simp[lW,a,b]
def TF:G K (.q2 e i Z e9) j f s=dF (lW e i (aj j Z) (aj j e9)) (c4 (λa=>s a f) ()):=by
 simp only[G,lW];generalize aj j Z=b;generalize aj j e9=c;cases b<;>first
  |rfl
  |(cases c<;>first
    |rfl
    |(rename_i d;cases d<;>first
      |rfl
      |(simp only[kx,jJ];exact propext and_assoc.symm)))
def eD (b:Nat) (a:Option R):Option R:=
 match a with
 |some a=>if a.cells.length=b then some (.bW a.cells)else none
 |none=>none
def ix (a:n.cells.length=e):eD e (some n)=some (.bW n.cells):=by simp[eD,a]
def cS (b:Nat) (h k:R):Option R:=
 match h,k with
 | .J xs _,.v (.int _ a)=>if 0<=a then eD b xs[a.toNat]? else none
 | .bx c off len _ d,.v (.int _ a)=>if d=b/\0<=a/\a<len then some (.ptr c (off+a.toNat*b))else none
 | .al c len _ d,.v (.int _ a)=>if d=b/\0<=a/\a<len then some (.ptr c (a.toNat*b))else none
 | _,_=>none
def hn (a:0<=b1):cS e (.J g N) (.v (.int e2 b1))=eD e g[b1.toNat]? :=by simp[cS,a]
theorem ja (a:0<=b1) (b:b1<v):cS e (.al i v M e) (.v (.int e2 b1))=some (.ptr i (b1.toNat*e)):=by simp[cS,a,b]
theorem rY (a:0<=b1) (b:b1<M):cS e (.bx i v M c0 e) (.v (.int e2 b1))=some (.ptr i (v+b1.toNat*e)):=by simp[cS,a,b]
theorem TG:G K (.dM e Z e9) j f s=dF (cS e (aj j Z) (aj j e9)) (c4 (λc=>s c f) ()):=by
 simp only[G,cS];generalize aj j Z=d;generalize aj j e9=h;cases d<;>first
  |rfl
  |(cases h<;>first
    |rfl
    |(rename_i k;cases k<;>first
      |rfl
      |(
        simp only[kx,jJ];apply propext;constructor
        .rintro⟨o,p,r,x⟩;exact⟨⟨o,p,r⟩,x⟩
        simp_all)
      |(
        rename_i y C D a;by_cases b:0<=a
        .simp only[b,true_and,if_true,eD];generalize y[a.toNat]? =z;cases z<;>first|rfl|(simp only[kx,jJ])
        .simp[b,dF])))
def By (c:Bool) (a b:Nat) (d:R):Option R:=
 match d with
 | .agg cs=>if a+b<=cs.length then some (aY c b (cs.drop a))else none
 | _=>none
def TH (a:e+i<=g.length):By I e i (.agg g)=some (aY I i (g.drop e)):=by simp[By,a]
def tL (c:Bool) (a d:Nat) (h k:R):Option R:=
 match h,k with
 | .agg cs,.v (.int _ b)=>if 0<=b/\b<d/\b.toNat*a+a<=cs.length then some (aY c a (cs.drop (b.toNat*a)))else none
 | _,_=>none
def TI (a:0<=b1) (b:b1<i) (c:b1.toNat*e+e<=g.length):tL I e i (.agg g) (.v (.int e2 b1))=some (aY I e (g.drop (b1.toNat*e))):=by simp[tL,a,b,c]
theorem TJ:G K (.q3 I e i Z e9) j f s=dF (tL I e i (aj j Z) (aj j e9)) (c4 (λa=>s a f) ()):=by
 simp only[G,tL];generalize aj j Z=b;generalize aj j e9=c;cases b<;>first
  |rfl
  |(cases c<;>first
    |rfl
    |(rename_i d;cases d<;>first
      |rfl
      |(simp only[kx,jJ];grind)))
def p4 (c:Fr) (a:List R):List (Nat×Nat×Operand)->(List R->Prop)->Prop
 | [],b=>b a
 |(off,cr,h)::k,b=>mQ (aj c h) λd=>gW (d.cells.length=cr/\off+cr<=a.length) (p2 (some (putAt a off d.cells)) λo=>p4 c o k b)
def TK {a:List R->Prop}:p4 j g [] a=a g:=rfl
def TL {a:List (Nat×Nat×Operand)}{b:List R->Prop}:p4 j g ((e,i,Z)::a) b=mQ (aj j Z) (c4 (λc=>gW (c.cells.length=i/\e+i<=g.length) (cx (p2 (some (putAt g e c.cells)) (c4 (λd=>p4 j d a b) ())) ())) ()):=rfl
def Bz {b:List R->Prop}: ∀(c:List (Nat×Nat×Operand)) (a:List R),kp j a c b=p4 j a c b
 | [],_=>rfl
 |(off,cr,h)::d,a=>by
  simp only[kp,p4,mQ,gW,p2,Bz d];exact propext and_assoc.symm
def TM {a:List (Nat×Nat×Operand)}:G K (.lK g a) j f s=p4 j g a λb=>s (.agg b) f:=Bz a g
def fg (b:R):Option R:=
 match b with
 | .J xs _=>some (.v (.int .i64 xs.length))
 | .bx _ _ a _ _=>some (.v (.int .i64 a))
 | .al _ a _ _=>some (.v (.int .i64 a))
 | _=>none
def TN:fg (.al i e v M)=some (.v (.int .i64 e)):=rfl
def TO:fg (.J g N)=some (.v (.int .i64 g.length)):=rfl
def TP:fg (.bx i v e M c0)=some (.v (.int .i64 e)):=rfl
def TQ:G K (.len Z) j f s=dF (fg (aj j Z)) (c4 (λa=>s a f) ()):=by simp only[G,fg];generalize aj j Z=b;cases b<;>rfl
def jb (c:BinOp) (a b:R):Option R:=
 match a,b with
 | .v a,.v b=>(bo c a b).map .v
 | _,_=>none
theorem rZ {a:BinOp}{b:Value}:jb a (.v e4) (.v b)=(bo a e4 b).map .v:=rfl
def TR {a:BinOp}:G K (.bin a Z e9) j f s=dF (jb a (aj j Z) (aj j e9)) (c4 (λb=>s b f) ()):=by
 simp only[G,jb];generalize aj j Z=c;generalize aj j e9=d;cases c<;>first
  |rfl
  |(cases d<;>first
    |rfl
    |(rename_i v h;simp only[];generalize bo a v h=k;cases k<;>rfl))
def wG (b:UnOp) (a:R):Option R:=
 match a with
 | .v a=>(nN b a).map .v
 | _=>none
def TS {a:UnOp}:wG a (.v e4)=(nN a e4).map .v:=rfl
def TT {a:UnOp}:G K (.un a Z) j f s=dF (wG a (aj j Z)) (c4 (λb=>s b f) ()):=by simp only[G,wG];generalize aj j Z=c;cases c<;>first|rfl|(rename_i v;simp only[];generalize nN a v=d;cases d<;>rfl)
def wH (a:IntKind) (b:R):Option R:=
 match b with
 | .v (.int _ c)=>some (.v (.int a (a.wrap c)))
 | _=>none
def TU {a:IntKind}:wH e2 (.v (.int a b1))=some (.v (.int e2 (e2.wrap b1))):=rfl
def TV:G K (.iR e2 Z) j f s=dF (wH e2 (aj j Z)) (c4 (λa=>s a f) ()):=by simp only[G,wH];generalize aj j Z=b;cases b<;>first|rfl|(rename_i v;cases v<;>rfl)
def nU (a:Ctx) (b:FuncId) (c:List R) (d:U) (h:R->U->Prop):Prop:=hL a.p b c d h (up a.k)
def TW {a:List Operand}:G K (.fZ b4 a) j f s=nU K b4 (a.map (aj j)) f (bP s ()):=rfl
def wI (a:Nat) (b:R):Option R:=
 match b with
 | .aL c=>c[a]?
 | _=>none
def TX:wI e (.aL g)=g[e]? :=rfl
def TY:G K (.ext Z e) j f s=dF (wI e (aj j Z)) (c4 (λa=>s a f) ()):=by simp only[G,wI];generalize aj j Z=b;cases b<;>first|rfl|(rename_i c;cases c[e]? <;>rfl)
def TZ (c:Bool) (a b:R):Option R:=
 match a,b with
 | .v (.bool a),.v (.bool b)=>some (.v (.bool (xor c (a==b))))
 | _,_=>none
def U0 {a b:Bool}:TZ I (.v (.bool a)) (.v (.bool b))=some (.v (.bool (xor I (a==b)))):=rfl
def s0 (a:Bool) (b c:R):Option R:=
 match b,c with
 | .ptr _ _,.v (.pointer none)=>some (.v (.bool a))
 | .bW _,.v (.pointer none)=>some (.v (.bool a))
 | .v (.pointer none),.v (.pointer none)=>some (.v (.bool (!a)))
 | _,_=>none
def U1:s0 I (.ptr e i) (.v (.pointer none))=some (.v (.bool I)):=rfl
def U2:s0 I (.bW g) (.v (.pointer none))=some (.v (.bool I)):=rfl
def U3:s0 I (.v (.pointer none)) (.v (.pointer none))=some (.v (.bool (!I))):=rfl
def U4:G K (.q5 I Z e9) j f s=dF (s0 I (aj j Z) (aj j e9)) (c4 (λd=>s d f) ()):=by
 simp only[G,s0];generalize aj j Z=h;generalize aj j e9=c;cases h<;>first
  |rfl
  |(rename_i v;cases v<;>first
    |rfl
    |(cases c<;>first|rfl|(rename_i b;cases b<;>first|rfl|(rename_i a;cases a<;>rfl)))
    |(rename_i a;cases a<;>first|rfl|(cases c<;>first|rfl|(rename_i b;cases b<;>first|rfl|(rename_i a;cases a<;>rfl)))))
  |(cases c<;>first|rfl|(rename_i b;cases b<;>first|rfl|(rename_i a;cases a<;>rfl)))
def intOf (a:R):Option Int:=
 match a with
 | .v (.int _ b)=>some b
 | _=>none
end
def p5 (a:List (Nat×Option (Bool×Nat))) (b:R->U->Prop):gn->Fr->U->Prop:=qj ⟨0,0,.skip,a⟩ b
def bf (c:m.follows .mixedOrders=true) {a:List (Nat×Option (Bool×Nat))} (d:dw m M i=some ⟨e,v,h7,a⟩) (h:g.length<=e)
  (k:bU (Ctx.of m) h7 (p5 a s) (lT g) f):AC m i g f s:=by
 refine J0 c d h ?_;have b:qj ⟨e,v,h7,a⟩ s=p5 a s:=by funext b j f;cases b<;>rfl
 rw[b];exact k
def U5:lT g e=g.getD e (.aL []):=rfl
def U6 {d:ao}:qj d s .ret j f=dF (iX j f d.results) λc=> ∃a,a.sub f/\s c a:=by
 apply propext;simp only[qj];constructor
 .rintro⟨c,a,b,h,k⟩;rw[b];exact⟨a,h,k⟩
 .intro b;cases o:iX j f d.results with
  |none=>rw[o]at b;exact b.elim
  |some c=>rw[o]at b;obtain⟨a,h,k⟩:=b;exact⟨c,a,rfl,h,k⟩
def U7 {a:List (Nat×Option (Bool×Nat))}:p5 a s .ret j f=dF (iX j f a) (c4 (λc=> ∃b,b.sub f/\s c b) ()):=U6
def U8 {a:List (Nat×Option (Bool×Nat))}:p5 a s .norm j f=p5 a s .ret j f:=rfl
def U9:iX j f []=some (.aL []):=rfl
def Ua {a:Nat×Option (Bool×Nat)}:iX j f [a]=gb j f a:=by simp only[iX,fv];cases gb j f a<;>rfl
def Ub:gb j f (e,none)=some (j e):=rfl
def wJ (a:Bool) (b:Nat) (c:U) (d:R):Option R:=
 match d with
 | .ptr h off=>p3 a b off (c.read h)
 | _=>none
def Uc:wJ I e f (.ptr i v)=p3 I e v (f.read i):=rfl
theorem Ud:gb j f (e,some (I,i))=wJ I i f (j e):=by grind[gb,wJ,p3]
def U.tM:(f.set i Y) e=if e=i then some Y else f e:=rfl
def U.BA:(f.set e (.cells g)).read e=some g:=by simp[U.read,U.set]
def U.Ue:(f.set e (.ro g)).read e=some g:=by simp[U.read,U.set]
def U.Uf (a:e≠i):(f.set i Y).read e=f.read e:=by simp[U.read,U.set,a]
def U.Ug:ep (f.set e (.cells g)) e=some g:=by simp[ep,U.set]
def U.Uh (a:e≠i):ep (f.set i Y) e=ep f e:=by simp[ep,U.set,a]
def U.af (a:f e=some (.cells g)):f.read e=some g:=by simp[U.read,a]
def U.Ui (a:f e=some (.ro g)):f.read e=some g:=by simp[U.read,a]
def U.aJ (a:f e=some (.cells g)):ep f e=some g:=by simp[ep,a]
theorem U.gN (a:(f.set i Y) e=none):e≠i/\f e=none:=by grind[U.set]
def U.BB {b a:bq} (c:i≠e):((f.set e b).set i a).set e Y=((f.set e Y).set i a):=by rw[U.eg _ c,U.set_set]
def U.BC {c a b:bq} (d:i≠e) (h:v≠e):(((f.set e c).set i a).set v b).set e Y=(((f.set e Y).set i a).set v b):=by rw[U.eg _ h,BB d]
def U.BD {d a b c:bq} (h:i≠e) (k:v≠e) (o:M≠e):((((f.set e d).set i a).set v b).set M c).set e Y=((((f.set e Y).set i a).set v b).set M c):=by rw[U.eg _ o,BC h k]
def U.BE {h a b c d:bq} (k:i≠e) (o:v≠e) (p:M≠e) (r:c0≠e):(((((f.set e h).set i a).set v b).set M c).set c0 d).set e Y=(((((f.set e Y).set i a).set v b).set M c).set c0 d):=by rw[U.eg _ r,BD k o p]
def U.BG {k a b c d h:bq} (o:i≠e) (p:v≠e) (r:M≠e) (x:c0≠e) (y:j0≠e):((((((f.set e k).set i a).set v b).set M c).set c0 d).set j0 h).set e Y=((((((f.set e Y).set i a).set v b).set M c).set c0 d).set j0 h):=by rw[U.eg _ y,BE o p r x]
def U.BH {a:Nat}{p b c d h k o:bq} (r:i≠e) (x:v≠e) (y:M≠e) (z:c0≠e) (C:j0≠e) (D:a≠e):(((((((f.set e p).set i b).set v c).set M d).set c0 h).set j0 k).set a o).set e Y=(((((((f.set e Y).set i b).set v c).set M d).set c0 h).set j0 k).set a o):=by rw[U.eg _ D,BG r x y z C]
def U.BI {a b:Nat}{x c d h k o p r:bq} (y:i≠e) (z:v≠e) (C:M≠e) (D:c0≠e) (E:j0≠e) (F:a≠e) (G:b≠e):((((((((f.set e x).set i c).set v d).set M h).set c0 k).set j0 o).set a p).set b r).set e Y=((((((((f.set e Y).set i c).set v d).set M h).set c0 k).set j0 o).set a p).set b r):=by rw[U.eg _ G,BH y z C D E F]
def U.Uj {a b c:Nat}{z d h k o p r x y:bq} (C:i≠e) (D:v≠e) (E:M≠e) (F:c0≠e) (G:j0≠e) (L:a≠e) (P:b≠e) (S:c≠e):(((((((((f.set e z).set i d).set v h).set M k).set c0 o).set j0 p).set a r).set b x).set c y).set e Y=(((((((((f.set e Y).set i d).set v h).set M k).set c0 o).set j0 p).set a r).set b x).set c y):=by rw[U.eg _ S,BI C D E F G L P]
def aP {b:cD j5} (c: ∀a,f a=none->j5 a):iZ f (c4 j5 b):=c
def cv {h:cD (bU K (.loop h7) e8 j f)} (a:Fr->U->Prop) (b:Fr->U->Nat) (k:a j f) (o: ∀j f,a j f->bU K h7 (eS (λc d=>a c d/\b c d<b j f) e8) j f):
  cx (bU K (.loop h7) e8 j f) h:=⟨a,b,k,o⟩
theorem ai {c:cD s} (d:AC K.p b4 g f a7) (h: ∀a b,a7 a b->s a b):nU K b4 g f (bP s c):=(d.mono h).p
theorem U.a1:f.sub f:=λ_ _ a=>a
theorem U.ae (a:t.sub f) (c:t e=none):t.sub (f.set e Y):=λd h b=>by
 rw[U.tM];split;simp_all
 .exact a _ _ b
theorem U.lh (b:t.sub f):(t.set e Y).sub (f.set e Y):=λd h a=>by
 rw[U.tM]at a|-;split;simp_all
 .rename_i c;rw[if_neg c]at a;exact b _ _ a
end
theorem wrap_i64 (c: -9223372036854775808<=b1) (d:b1<9223372036854775808):IntKind.i64.wrap b1=b1:=by have a:((2:Int)^IntKind.i64.bits)=18446744073709551616:=rfl;have b:((2:Int)^(IntKind.i64.bits - 1))=9223372036854775808:=rfl;simp only[IntKind.wrap,a,b,IntKind.signed,a6o,decide_eq_true_eq];split<;>omega
theorem ky:IntKind.u64.wrap b1=b1%18446744073709551616:=by have a:((2:Int)^IntKind.u64.bits)=18446744073709551616:=rfl;simp[IntKind.wrap,a,IntKind.signed]
def s3:IntKind.u32.wrap b1=b1%4294967296:=by have a:((2:Int)^IntKind.u32.bits)=4294967296:=rfl;simp[IntKind.wrap,a,IntKind.signed]
def tN:IntKind.u8.wrap b1=b1%256:=by have a:((2:Int)^IntKind.u8.bits)=256:=rfl;simp[IntKind.wrap,a,IntKind.signed]
theorem wrap_u64 (a:0<=b1) (b:b1<18446744073709551616):IntKind.u64.wrap b1=b1:=by rw[ky];omega
def wrap_u32 (a:0<=b1) (b:b1<4294967296):IntKind.u32.wrap b1=b1:=by rw[s3];omega
theorem wrap_u8 (a:0<=b1) (b:b1<256):IntKind.u8.wrap b1=b1:=by rw[tN];omega
def Uk (a:UInt8):IntKind.u32.wrap (a.toNat:Int)=(a.toUInt32.toNat:Int):=by have:=a.toNat_lt;rw[wrap_u32 a9r a9r];simp
def Ul (a:UInt8):IntKind.u64.wrap (a.toNat:Int)=(a.toUInt64.toNat:Int):=by have:=a.toNat_lt;rw[wrap_u64 a9r a9r];simp
def Um (a:UInt32):IntKind.u8.wrap (a.toNat:Int)=(a.toUInt8.toNat:Int):=by rw[tN];simp
def Un (a:UInt64):IntKind.u8.wrap (a.toNat:Int)=(a.toUInt8.toNat:Int):=by rw[tN];simp
section
variable (a b:Int)
def Uo:bo .add (.int .i64 a) (.int .i64 b)=some (.int .i64 (IntKind.i64.wrap (a+b))):=rfl
def Up:bo .sub (.int .i64 a) (.int .i64 b)=some (.int .i64 (IntKind.i64.wrap (a - b))):=rfl
def Uq:bo .mul (.int .i64 a) (.int .i64 b)=some (.int .i64 (IntKind.i64.wrap (a*b))):=rfl
def Ur (c:b≠0):bo .quo (.int .i64 a) (.int .i64 b)=some (.int .i64 (IntKind.i64.wrap (a.tdiv b))):=by simp[bo,eL,gk,c]
def Us (c:b≠0):bo .rem (.int .i64 a) (.int .i64 b)=some (.int .i64 (a.tmod b)):=by simp[bo,eL,gk,c]
variable (k:IntKind)
def Ut:bo .eql (.int k a) (.int k b)=some (.bool (decide (a=b))):=by simp[bo,eL,gk]
def Uu:bo .neq (.int k a) (.int k b)=some (.bool (decide (a≠b))):=by simp[bo,eL,gk]
def Uv:bo .lss (.int k a) (.int k b)=some (.bool (decide (a<b))):=by simp[bo,eL,gk]
def Uw:bo .leq (.int k a) (.int k b)=some (.bool (decide (a<=b))):=by simp[bo,eL,gk]
def Ux:bo .gtr (.int k a) (.int k b)=some (.bool (decide (b<a))):=by simp[bo,eL,gk]
def Uy:bo .geq (.int k a) (.int k b)=some (.bool (decide (b<=a))):=by simp[bo,eL,gk]
def Uz (c:Bool):nN .not (.bool c)=some (.bool !c):=rfl
end
def UA (a b:Int):bo .add (.int .u64 a) (.int .u64 b)=some (.int .u64 (IntKind.u64.wrap (a+b))):=rfl
def UB (a b:Int):bo .sub (.int .u64 a) (.int .u64 b)=some (.int .u64 (IntKind.u64.wrap (a - b))):=rfl
def UC (a b:Int):bo .mul (.int .u64 a) (.int .u64 b)=some (.int .u64 (IntKind.u64.wrap (a*b))):=rfl
theorem s4 (c:Nat) (d:IntKind) (b:Int) (k:0<=b) (o:b<64):bo .shr (.int .u64 c) (.int d b)=some (.int .u64 (c>>>b.toNat:Nat)):=by
 obtain⟨a,rfl⟩: ∃a:Nat,b=a:=⟨b.toNat,a9r⟩;have h:min a IntKind.u64.bits=a:=by simp[IntKind.bits];omega
 have p:(2:Int)^a=((2^a:Nat):Int):=a9s;simp only[bo,eL,if_true,nM,if_neg (show¬(a:Int)<0 by omega),a5i,h,a5E];grind
def iy (a:Nat):IntKind.u8.wrap (a:Int)=((UInt8.ofNat a).toNat:Int):=by rw[tN];simp
variable{B:List UInt8}
def UD (b:0<=b1) (a:b1.toNat<B.length):cS 1 (.J (B.map ak) N) (.v (.int e2 b1))=some (.bW [.v (.int .u8 (B.getD b1.toNat 0).toNat)]):=by
 rw[hn b,a5l,a4J a];have:B.getD b1.toNat 0=B[b1.toNat]:=by simp[List.getD,a]
 rw[this];rfl
def UE (a:Decidable True): @decide True a=true:=a9s
def UF (a:Decidable False): @decide False a=false:=a9s
def BJ:aY true e g= .agg (g.take e):=rfl
def BK:R.cells (.J g N)= [.J g N]:=rfl
def BL:R.cells (.v e4)= [.v e4]:=rfl
def BM:R.cells (.ptr e i)= [.ptr e i]:=rfl
def BN:R.cells (.bW g)= [.bW g]:=rfl
def BO:R.cells (.iface b2 n)= [.iface b2 n]:=rfl
def hP:R.cells (.agg g)=g:=rfl
theorem qm (a:g.length=A.length):putAt A 0 g=g:=by simp[putAt,a]
def UG:aY false 1 (n::g)=n:=rfl
section
variable (x y:UInt32)
def UH:bo .add (.int .u32 x.toNat) (.int .u32 y.toNat)=some (.int .u32 (x+y).toNat):=by simp[bo,eL,gk,s3,UInt32.toNat_add]
def BP:bo .sub (.int .u32 x.toNat) (.int .u32 y.toNat)=some (.int .u32 (x - y).toNat):=by have:=x.toNat_lt;have:=y.toNat_lt;simp only[bo,eL,gk,s3,UInt32.toNat_sub];simp;omega
def BQ:bo .mul (.int .u32 x.toNat) (.int .u32 y.toNat)=some (.int .u32 (x*y).toNat):=by simp[bo,eL,gk,s3,UInt32.toNat_mul]
theorem qn (a:Nat) (b:a<4294967296):IntKind.u32.wrap (a:Int)=a:=wrap_u32 a9r a9r
def ofInt_u32:BitVec.ofInt 32 (x.toNat:Int)=x.toBitVec:=by simp
def UI:bo .and (.int .u32 x.toNat) (.int .u32 y.toNat)=some (.int .u32 (x&&&y).toNat):=by have a:bo .and (.int .u32 x.toNat) (.int .u32 y.toNat)=some (.int .u32 (IntKind.u32.wrap (BitVec.ofInt 32 (x.toNat:Int)&&&BitVec.ofInt 32 (y.toNat:Int)).toNat)):=rfl;rw[a,ofInt_u32,ofInt_u32,qn _ (a8R _)];rfl
def UJ:bo .or (.int .u32 x.toNat) (.int .u32 y.toNat)=some (.int .u32 (x|||y).toNat):=by have a:bo .or (.int .u32 x.toNat) (.int .u32 y.toNat)=some (.int .u32 (IntKind.u32.wrap (BitVec.ofInt 32 (x.toNat:Int)|||BitVec.ofInt 32 (y.toNat:Int)).toNat)):=rfl;rw[a,ofInt_u32,ofInt_u32,qn _ (a8R _)];rfl
def UK:bo .xor (.int .u32 x.toNat) (.int .u32 y.toNat)=some (.int .u32 (x^^^y).toNat):=by have a:bo .xor (.int .u32 x.toNat) (.int .u32 y.toNat)=some (.int .u32 (IntKind.u32.wrap (BitVec.ofInt 32 (x.toNat:Int)^^^BitVec.ofInt 32 (y.toNat:Int)).toNat)):=rfl;rw[a,ofInt_u32,ofInt_u32,qn _ (a8R _)];rfl
def UL:nN .xor (.int .u32 x.toNat)=some (.int .u32 (~~~x).toNat):=by
 have a:nN .xor (.int .u32 x.toNat)=some (.int .u32 (IntKind.u32.wrap (BitVec.ofInt 32 4294967295^^^BitVec.ofInt 32 (x.toNat:Int)).toNat)):=rfl;rw[a,ofInt_u32,qn _ (a8R _)];have:(BitVec.ofInt 32 4294967295^^^x.toBitVec)= ~~~x.toBitVec:=by rw[BitVec.not_def];rfl
 rw[this];rfl
theorem UM (c:IntKind) (a:Int) (h:0<=a) (k:a<32):bo .shl (.int .u32 x.toNat) (.int c a)=some (.int .u32 (x<<<UInt32.ofNat a.toNat).toNat):=by
 obtain⟨b,rfl⟩: ∃b:Nat,a=b:=⟨a.toNat,a9r⟩;have hm:b<32:=a9r;have d:min b IntKind.u32.bits=b:=by simp[IntKind.bits];omega
 simp only[bo,eL,if_true,nM,if_neg (show¬(b:Int)<0 by omega),a5i,d,s3,UInt32.toNat_shiftLeft,UInt32.toNat_ofNat',a7d];grind
theorem UN (c:IntKind) (a:Int) (h:0<=a) (k:a<32):bo .shr (.int .u32 x.toNat) (.int c a)=some (.int .u32 (x>>>UInt32.ofNat a.toNat).toNat):=by
 obtain⟨b,rfl⟩: ∃b:Nat,a=b:=⟨a.toNat,a9r⟩;have hm:b<32:=a9r;have d:min b IntKind.u32.bits=b:=by simp[IntKind.bits];omega
 simp only[bo,eL,if_true,nM,if_neg (show¬(b:Int)<0 by omega),a5i,d,UInt32.toNat_shiftRight,UInt32.toNat_ofNat',a5E];grind
end
def aN (a:Nat) (b:List R):Prop:= ∀c∈b,c.cells.length=a
def UO:aN e []=True:=by simp[aN]
def BR:aN e (n::g)=(n.cells.length=e/\aN e g):=by simp[aN]
theorem UP:aN e (g++A)=(aN e g/\aN e A):=by grind[aN]
theorem tO:aN 1 (B.map ak)=True:=by simp[aN,ak,R.cells]
def bj (a b:U) (h:Nat) (c:List R) (k:Own):Prop:=
 a.sub b/\match k with
  | .buf d o=>a d=none/\b d=some (.buf h c.length o)
  | .any=>False
  | _=>c= []
theorem U.aq (c:f.sub t) (d:t.sub e7):f.sub e7:=λa b h=>d a b (c a b h)
def U.bG (b:f.sub t) (a:t e=none):f e=none:=by
 cases bQ:f e with
 |none=>rfl
 |some c=>rw[b e c bQ]at a;cases a
theorem bj.nil {s0:U}(a:s0.sub f) {b:Nat}:bj s0 f b [] .nil:=⟨a,rfl⟩
def bj.zero (a:t.sub f) {b:Nat}:bj t f b [] .zero:=⟨a,rfl⟩
def bj.sub {a:Nat}{b:List R}{c:Own} (d:bj t f a b c):t.sub f:=d.1
theorem bj.base {o:Own} (b:bj t f e g o) (c:e7.sub t):bj e7 f e g o:=by
 refine⟨U.aq c b.1,?_⟩;have a:=b.2;cases o with
 |buf d h=>exact⟨U.bG c a.1,a.2⟩
 | _=>exact a
def bj.mono (b:bj t f e g N) (c:f.sub e7):bj t e7 e g N:=by
 refine⟨U.aq b.1 c,?_⟩;have a:=b.2;cases N with
 |buf d h=>exact⟨a.1,c _ _ a.2⟩
 | _=>exact a
theorem bj.set {b l:Nat}{c:List R}{a:Own}{ob o:bq} (d:bj t f b c a) (h:t l=some o):bj (t.set l ob) (f.set l ob) b c a:=by
 refine⟨U.lh d.1,?_⟩;have k:=d.2;cases a with
 |buf p r=>
  have x:p≠l:=by rintro rfl;rw[k.1]at h;cases h
  grind[U.an]
 | _=>exact k
theorem bj.new {ob:bq} (a:bj t f i g N) (b:f e=none):bj (t.set e ob) (f.set e ob) i g N:=by
 refine⟨U.lh a.1,?_⟩;have c:=a.2;cases N with
 |buf d h=>
  have k:d≠e:=by rintro rfl;rw[c.2]at b;cases b
  grind[U.an]
 | _=>exact c
def lX (d x:Nat) (c:U) (y z:R) (k:R->U->Prop):Prop:=
 match y,z with
 | .J xs r,.J a _=>(∀o∈xs,o.cells.length=d)/\(∀o∈a,o.cells.length=d)/\(xs.length+a.length)*x<=140737488355328/\xs.length+a.length<=9223372036854775807/\
   match r with
   | .buf p C=>c p=some (.buf d xs.length C)/\ ∀b h,(b=p\/c b=none)->k (.J (xs++a) (.buf b h)) ((c.del p).set b (.buf d (xs.length+a.length) h))
   | .any=>False
   | _=>xs= []/\(if a= []then k (.J [] r) c else∀b h,c b=none->k (.J a (.buf b h)) (c.set b (.buf d a.length h)))
 | _,_=>False
def UQ:G K (.app e i Z e9) j f s=lX e i f (aj j Z) (aj j e9) (bP s ()):=rfl
theorem dq {C:cD s} (a:bj t f e g N) (D:aN e g) (E:aN e A) (F:(g.length+A.length)*i<=140737488355328) (G:g.length+A.length<=9223372036854775807)
  (d: ∀p r,bj t r e (g++A) p->s (.J (g++A) p) r):lX e i f (.J g N) (.J A e5) (bP s C):=by
 have c:=a.2;refine⟨D,E,F,G,?_⟩;cases N with
 |any=>exact c.elim
 |nil=>
  obtain rfl:g= []:=c;refine⟨rfl,?_⟩;split
  .rename_i h;subst h;exact d _ _ ⟨a.1,rfl⟩
  .intro k x b;refine d _ _ ⟨U.ae a.1 (U.bG a.1 b),U.bG a.1 b,?_⟩;rw[U.ah];simp
 |zero=>
  obtain rfl:g= []:=c;refine⟨rfl,?_⟩;split
  .rename_i h;subst h;exact d _ _ ⟨a.1,rfl⟩
  .intro k x b;refine d _ _ ⟨U.ae a.1 (U.bG a.1 b),U.bG a.1 b,?_⟩;rw[U.ah];simp
 |buf L T=>
  refine⟨c.2,λk x b=>d _ _ ?_⟩;have y:t k=none:=by rcases b with rfl|b;exact c.1;exact U.bG a.1 b
  refine⟨U.ae (λz P o=> ?_) y,y,?_⟩
  .have S:z≠L:=by rintro rfl;rw[c.1]at o;cases o
   rw[U.eJ _ S];exact a.1 z P o
  .rw[U.ah,a4L]
def jK (d:Nat) (b:U) (a:List R) (h:R->U->Prop):Prop:=
 (∀k∈a,k.cells.length=d)/\(if a.length=0 then h (.J [] .zero) b else∀c,b c=none->h (.J a (.buf c a.length)) (b.set c (.buf d a.length a.length)))
def UR {a:List Operand}:G K (.kj e a) j f s=jK e f (a.map (aj j)) (bP s ()):=by simp only[G,jK,bP,a4V]
def cJ {k:cD s} (a:t.sub f) (o:aN e g) (b: ∀c d,bj t d e g c->s (.J g c) d):jK e f g (bP s k):=by
 refine⟨o,?_⟩;split
 .rename_i p;obtain rfl:=a4P p;exact b _ _ ⟨a,rfl⟩
 .intro r h;exact b _ _ ⟨U.ae a (U.bG a h),U.bG a h,by rw[U.ah]⟩
def cA (a:Option R) (b:Nat):Option Int:=
 match a with
 |none=>some b
 |some c=>intOf c
def gd (a:Own) (b c:Option R):Own:=
 match b,c with
 |none,none=>a
 | _,_=> .any
def dO (c:Nat) (a:R) (d h:Option R):Option R:=
 match a with
 | .J xs p=>match cA d 0,cA h xs.length with
  |some a,some b=>if 0<=a/\a<=b/\b<=xs.length/\xs.all (λr=>decide (r.cells.length=c))then some (.J ((xs.take b.toNat).drop a.toNat) (gd p d h))else none
  | _,_=>none
 | .bx k off len cap o=>match cA d 0,cA h len with
  |some a,some b=>if o=c/\0<=a/\a<=b/\b<=len/\a<len then some (.bx k (off+a.toNat*c) (b.toNat - a.toNat) (cap - a.toNat) c)else none
  | _,_=>none
 | .al k len cap o=>match cA d 0,cA h len with
  |some a,some b=>if o=c/\0<=a/\a<=b/\b<=len/\(d.isSome=true->a<len)then some (q9 d.isSome k a.toNat b.toNat cap c)else none
  | _,_=>none
 | _=>none
theorem wK (a:Option Operand) (b:Nat):dg j a b=cA (a.map (aj j)) b:=by
 cases a with
 |none=>rfl
 |some a=>simp only[dg,cA,a5O,intOf];split<;>simp_all
def US (a b:Option Operand):vO N a b=gd N (a.map (aj j)) (b.map (aj j)):=by cases a<;>cases b<;>rfl
theorem UT {a d:Option Operand}:G K (.oT e Z a d) j f s=dF (dO e (aj j Z) (a.map (aj j)) (d.map (aj j))) (c4 (λo=>s o f) ()):=by
 have p:a.isSome=(a.map (aj j)).isSome:=by cases a<;>rfl
 simp only[G,dO,wK,US (j:=j) a d,p];generalize aj j Z=r;generalize a.map (aj j)=h;generalize d.map (aj j)=k;cases r<;>try rfl
 .rename_i x D;simp only[];generalize cA h 0=b;generalize cA k x.length=c;cases b<;>cases c<;>try rfl
  simp only[kx,jJ,a4Y,decide_eq_true_eq];grind
 .rename_i y E len z C;simp only[];generalize cA h 0=b;generalize cA k len=c;cases b<;>cases c<;>try rfl
  simp only[kx,jJ];grind
 .rename_i y len z C;simp only[];generalize cA h 0=b;generalize cA k len=c;cases b<;>cases c<;>try rfl
  simp only[kx,jJ];grind
def UU (a:0<=b1) (b:b1<=v):dO e (.al i v M e) none (some (.v (.int e2 b1)))=some (.al i b1.toNat M e):=by simp[dO,cA,intOf,a,b,q9]
def UW (a:aN e g):dO e (.J g N) none none=some (.J g N):=by
 have:(g.all λb=>decide (b.cells.length=e))=true:=by simpa[aN] using a
 simp[dO,cA,gd,this]
theorem qo (a:0<=b1) (b:b1<=g.length) (c:aN e g):dO e (.J g N) (some (.v (.int e2 b1))) none=some (.J (g.drop b1.toNat) .any):=by
 have:(g.all λd=>decide (d.cells.length=e))=true:=by simpa[aN] using c
 simp[dO,cA,gd,intOf,this,a,b]
theorem nV (a:0<=b1) (b:b1<=g.length) (c:aN e g):dO e (.J g N) none (some (.v (.int e2 b1)))=some (.J (g.take b1.toNat) .any):=by grind[decide,aN,dO,cA,gd,intOf]
theorem BS {b:IntKind}{a:Int} (c:0<=b1) (d:b1<=a) (h:a<=g.length) (k:aN e g):dO e (.J g N) (some (.v (.int e2 b1))) (some (.v (.int b a)))=some (.J ((g.take a.toNat).drop b1.toNat) .any):=by grind[decide,aN,dO,cA,gd,intOf]
def wL (b:Bool) (a:List (Nat×c6)) (c d:R) (h:R->Prop):Prop:=
 match c,d with
 | .agg cs,.agg cC=>dC a cs/\dC a cC/\h (.v (.bool (xor b (peq (.agg cs) (.agg cC)))))
 | _,_=>False
variable{j3:List (Nat × c6)}
def UX:G K (.eqv I j3 Z e9) j f s=wL I j3 (aj j Z) (aj j e9) (c4 (λa=>s a f) ()):=rfl
def UY {a:R->Prop}:wL I j3 (.agg g) (.agg A) a=gW (dC j3 g/\dC j3 A) (cx (a (.v (.bool (xor I (peq (.agg g) (.agg A)))))) ()):=by simp only[wL,gW,cx];exact propext and_assoc.symm
def UZ:(B.map ak).drop e=(B.drop e).map ak:=by rw[a7w]
def V0:(B.map ak).take e=(B.take e).map ak:=by rw[a7K]
def bj.V1 (a:t.sub f):bj t f 1 (([]:List UInt8).map ak) .nil:=⟨a,rfl⟩
theorem mR {a:List UInt8}{d:cD s} (h:bj t f 1 (B.map ak) N) (k:B.length+a.length<=140737488355328)
  (o: ∀b c,bj t c 1 ((B++a).map ak) b->s (.J ((B++a).map ak) b) c):lX 1 1 f (.J (B.map ak) N) (.J (a.map ak) e5) (bP s d):=by
 grind[dq,tO,a4y]
def wM {a:UInt8}{d:cD s} (h:bj t f 1 (B.map ak) N) (k:B.length+1<=140737488355328)
  (o: ∀b c,bj t c 1 ((B++ [a]).map ak) b->s (.J ((B++ [a]).map ak) b) c):lX 1 1 f (.J (B.map ak) N) (.J [ak a] e5) (bP s d):=
 mR (a:= [a]) h k o
def s5 {a:UInt8}{d:cD s} (h:t.sub f) (k: ∀b c,bj t c 1 [ak a] b->s (.J [ak a] b) c):jK 1 f [.v (.int .u8 a.toNat)] (bP s d):=
 cJ (g:= [a].map ak) h (by rw[tO];trivial) k
def wN (a:e<B.length):(B.map ak)[e]? =some (.v (.int .u8 (B.getD e 0).toNat)):=by
 rw[a5l,a4J a];have:B.getD e 0=B[e]:=by simp[List.getD,a]
 rw[this];rfl
def BT {b c:Fr->U->Prop} (d: ∀j f,b j f->c j f): ∀(h:List c7) (j:Fr) (f:U),iV K h b j f->iV K h c j f
 | [],j,f,a=>d j f a
 | _::k,j,f,a=>rK (λj f a=>BT d k j f a) a
def BU {b:Nat->c7}{c d:Fr->U->Prop} (h: ∀j f,c j f->d j f): ∀(k:List dk) (j:Fr) (f:U),can K b c k j f->can K b d k j f
 | [],j,f,a=>h j f a
 | _::o,j,f,a=>⟨a.1,rK (λj f a=>⟨a.1,BU h o j f a.2⟩) a.2⟩
theorem jc: ∀(o:dN) {h k:gn->Fr->U->Prop} (_: ∀c j f,h c j f->k c j f) (j:Fr) (f:U),bU K o h j f->bU K o k j f
 | .skip,_,_,b,j,f,a=>b _ j f a
 | .ret,_,_,b,j,f,a=>b _ j f a
 | .exit _,_,_,b,j,f,a=>b _ j f a
 | .plain ops,_,_,b,j,f,a=>BT (b _) ops j f a
 | .draw _ y,_,_,b,j,f,a=>BU (b _) y j f a
 | .seq d p,h,k,b,j,f,a=>jc d (λc j f a=>by
   cases c with
   |norm=>exact jc p b j f a
   |exit x=>exact b _ j f a
   |ret=>exact b _ j f a) j f a
 | .block x d,h,k,b,j,f,a=>jc d (λc j f a=>by
   cases c with
   |norm=>exact b _ j f a
   |exit G=>simp only[lg]at a|-;grind
   |ret=>exact b _ j f a) j f a
 | .cond o d p,h,k,b,j,f,a=>by
   simp only[wE,Bt,kv]at a|-;split at a
   .exact⟨λr=>jc d b j f (a.1 r),λr=>jc p b j f (a.2 r)⟩
   .exact a.elim
 | .loop d,h,k,b,j,f,a=>by
   obtain⟨z,C,D,E⟩:=a;exact⟨z,C,D,λj f F=>jc d (λc j f a=>by
    cases c with
    |norm=>exact a
    |exit x=>exact b _ j f a
    |ret=>exact b _ j f a) j f (E j f F)⟩
def BV {b c:dN}{k:cD (bU K b (eS (bU K h7 e8) e8) j f)}{o:cD (bU K c (eS (bU K h7 e8) e8) j f)} (d:Fr->U->Prop)
  (p:I=true->bU K b (eS d e8) j f) (r:I=false->bU K c (eS d e8) j f) (x: ∀j f,d j f->bU K h7 e8 j f):
  kv (.v (.bool I)) (cx (bU K b (eS (bU K h7 e8) e8) j f) k) (cx (bU K c (eS (bU K h7 e8) e8) j f) o):=by
 have hm: ∀h j f,eS d e8 h j f->eS (bU K h7 e8) e8 h j f:=λh j f a=>by
  cases h with
  |norm=>exact x j f a
  |exit y=>exact a
  |ret=>exact a
 exact⟨λa=>jc b hm j f (p a),λa=>jc c hm j f (r a)⟩
def s6 (b c:R):Option R:=
 match b,c with
 | .v (.string d),.v (.int _ a)=>if 0<=a then(match d.data[a.toNat]? with|some h=>some (.v (.int .u8 h.toNat))|none=>none)else none
 | _,_=>none
def V2:G K (.lJ Z e9) j f s=dF (s6 (aj j Z) (aj j e9)) (c4 (λc=>s c f) ()):=by
 simp only[G,s6];generalize aj j Z=d;generalize aj j e9=h;cases d<;>first
  |rfl
  |(rename_i v;cases v<;>first
    |rfl
    |(cases h<;>first
      |rfl
      |(rename_i k o;cases o<;>first
        |rfl
        |(
          rename_i r a;simp only[];by_cases b:0<=a
          .simp only[b,true_and,if_true];generalize k.data[a.toNat]? =p;cases p<;>rfl
          .simp[b,dF]))))
def s7 (a b:Nat) (c:U) (d:R):Option R:=
 match d with
 | .ptr h off=>match c h with
  |some (.ro cs)=>if off+b*a<=cs.length then some (.J (dL a b (cs.drop off)) .any)else none
  | _=>none
 | _=>none
def V3:G K (.jG e i Z none none) j f s=dF (s7 e i f (aj j Z)) (c4 (λa=>s a f) ()):=by
 simp only[G,s7,dg];generalize aj j Z=b;cases b<;>first
  |rfl
  |(
    rename_i c k;simp only[];generalize f c=d;cases d with
    |none=>simp[dF]
    |some h=>cases h with
     |ro cs=>simp only[kx,jJ];simp
     | _=>simp[dF])
def V4 (a:f i=some (.ro g)) (b:g.length=e):s7 1 e f (.ptr i 0)=some (.J g .any):=by simp[s7,a,b,dL,a4K]
theorem wO (a:e<64):bo .shl (.int .i64 b1) (.int e2 (e:Int))=some (.int .i64 (IntKind.i64.wrap (b1*2^e))):=by
 have b:min e IntKind.i64.bits=e:=by simp[IntKind.bits];omega
 simp_all [bo,eL,if_true,nM,if_neg,a5i]
def BW (a b:Option R):Option R:=
 match a,b with
 |some a,some b=>some (.aL [a,b])
 | _,_=>none
def V5:BW (some n) (some b3)=some (.aL [n,b3]):=rfl
def V6 {a b:Nat×Option (Bool×Nat)}:iX j f [a,b]=BW (gb j f a) (gb j f b):=by simp only[iX,fv];cases gb j f a<;>cases gb j f b<;>rfl
def BX (a b c:Option R):Option R:=
 match a,b,c with
 |some a,some b,some c=>some (.aL [a,b,c])
 | _,_,_=>none
def V7 {a:R}:BX (some n) (some b3) (some a)=some (.aL [n,b3,a]):=rfl
def V8 {a b c:Nat×Option (Bool×Nat)}:iX j f [a,b,c]=BX (gb j f a) (gb j f b) (gb j f c):=by simp only[iX,fv];cases gb j f a<;>cases gb j f b<;>cases gb j f c<;>rfl
def V9:((0:Nat):Int)=0:=rfl
def Va:((1:Nat):Int)=1:=rfl
def Vb:((e:Int).tmod (i:Int))=((e%i:Nat):Int):=rfl
def BY:((e:Int).tmod 64)=((e%64:Nat):Int):=Vb (i:=64)
def s8:=
 a4H @SD<|
 a4H @SE<|
 a4H @SF<|
 a4H @SG<|
 a4H @SH<|
 a4H @SI<|
 a4H @SJ<|
 a4H @wE<|
 a4H @SK<|
 a4H @jJ<|
 a4H @SC<|
 a4H @SL<|
 a4H @SM<|
 a4H @SN<|
 a4H @SO<|
 a4H @SP<|
 a4H @SR<|
 a4H @SQ<|
 a4H @SS<|
 a4H @SU<|
 a4H @SV<|
 a4H @T3<|
 a4H @T5<|
 a4H @T6<|
 a4H @T9<|
 a4H @T7<|
 a4H @T8<|
 a4H @Ta<|
 a4H @Tb<|
 a4H @Tf<|
 a4H @Tg<|
 a4H @Td<|
 a4H @Te<|
 a4H @Tm<|
 a4H @Tp<|
 a4H @Tq<|
 a4H @Tr<|
 a4H @Ts<|
 a4H @Tv<|
 a4H @Tx<|
 a4H @TA<|
 a4H @TD<|
 a4H @TF<|
 a4H @TG<|
 a4H @TJ<|
 a4H @TM<|
 a4H @TQ<|
 a4H @TR<|
 a4H @TT<|
 a4H @TV<|
 a4H @TW<|
 a4H @TY<|
 a4H @UQ<|
 a4H @UR<|
 a4H @UT<|
 a4H @V2<|
 a4H @V3<|
 a4H @UX<|
 a4H @U4<|
 a4H @Th<|
 a4H @Ti<|
 a4H @U5<|
 a4H @TK<|
 a4H @TL<|
 a4H @U7<|
 @U8
def s9:=
 a4H @Bu<|
 a4H @Bv<|
 a4H @SX<|
 a4H @SY<|
 a4H @SZ<|
 a4H @T0<|
 a4H @T1<|
 a4H @Tc<|
 a4H @eq_self.{1}<|
 a4H @T4<|
 a4H @a5s.{0}<|
 a4H @a5z.{0}<|
 a4H @UY<|
 a4H @Option.map_none.{0,0}<|
 a4H @UW<|
 a4H @qo<|
 a4H @nV<|
 a4H @BS<|
 a4H @UZ<|
 a4H @V0<|
 a4H @Tj<|
 a4H @Tk<|
 a4H @Tl<|
 a4H @rT<|
 a4H @rS<|
 a4H @Tn<|
 a4H @To<|
 a4H @Tt<|
 a4H @Tu<|
 a4H @Bx<|
 a4H @Tw<|
 a4H @Ty<|
 a4H @Tz<|
 a4H @TB<|
 a4H @TC<|
 a4H @rX<|
 a4H @TE<|
 a4H @UD<|
 a4H @rY<|
 a4H @ix<|
 a4H @TH<|
 a4H @TI<|
 a4H @TO<|
 a4H @TP<|
 a4H @rZ<|
 a4H @TS<|
 a4H @TU<|
 a4H @TX<|
 a4H @U0<|
 a4H @U1<|
 a4H @U2<|
 a4H @U3<|
 a4H @a5O.{0,0}<|
 a4H @Ua<|
 a4H @Ub<|
 a4H @U9<|
 a4H @Ud<|
 a4H @Uc<|
 a4H @qm<|
 a4H @a5j.{0,0}<|
 a4H @a6A.{0,0}<|
 a4H @Uo<|
 a4H @Up<|
 a4H @Uq<|
 a4H @Ur<|
 a4H @Us<|
 a4H @Ut<|
 a4H @Uu<|
 a4H @Uv<|
 a4H @Uw<|
 a4H @Ux<|
 a4H @Uy<|
 a4H @Uz<|
 a4H @UH<|
 a4H @BP<|
 a4H @BQ<|
 a4H @UI<|
 a4H @UJ<|
 a4H @UK<|
 a4H @UL<|
 a4H @UM<|
 a4H @UN<|
 a4H @wrap_i64<|
 a4H @Uk<|
 a4H @Ul<|
 a4H @Um<|
 a4H @Un<|
 a4H @UA<|
 a4H @UB<|
 a4H @UC<|
 a4H @s4<|
 a4H @wrap_u64<|
 a4H @UG<|
 a4H @BJ<|
 a4H @a4V.{0,0}<|
 a4H @a4O.{0}<|
 a4H @a4T.{0}<|
 a4H @U.BA<|
 a4H @U.Ue<|
 a4H @U.Uf<|
 a4H @U.Ug<|
 a4H @U.Uh<|
 a4H @U.set_set<|
 a4H @U.BB<|
 a4H @U.BC<|
 a4H @U.BD<|
 a4H @U.BE<|
 a4H @U.BG<|
 a4H @U.BH<|
 a4H @U.BI<|
 a4H @U.Uj<|
 a4H @BK<|
 a4H @BL<|
 a4H @BM<|
 a4H @BN<|
 a4H @BO<|
 a4H @hP<|
 a4H @a6W.{0}<|
 a4H @and_self<|
 a4H @a5g<|
 a4H @a5v<|
 a4H @a7i<|
 a4H @a5i<|
 a4H @true_and<|
 a4H @and_true<|
 a4H @a6z<|
 a4H @a5m<|
 a4H @UE<|
 @UF
def gf:=
 a4H @V9<|
 a4H @Va<|
 a4H @V6<|
 a4H @V5<|
 a4H @V8<|
 @V7
def aE:=
 a4H @a4O.{0}<|
 a4H @a4T.{0}<|
 a4H @a4V.{0,0}<|
 a4H @a4L.{0}<|
 a4H @a6J.{0}<|
 a4H @List.length_range<|
 a4H @a4N.{0}<|
 a4H @a4X.{0}<|
 a4H @BK<|
 a4H @BL<|
 a4H @BM<|
 a4H @BN<|
 a4H @BO<|
 a4H @hP<|
 a4H @tO<|
 a4H @UO<|
 a4H @BR<|
 a4H @UP<|
 a4H @and_true<|
 a4H @true_and<|
 a4H @a5g<|
 a4H @eq_self.{1}<|
 @and_self
def bd (a:List UInt8):R:= .v (.string ⟨a.toArray⟩)
theorem BZ (b:ByteArray): ∀(d a:Nat) (c:List UInt8),b.size - a=d->ByteArray.toList.loop b a c=c.reverse++b.data.toList.drop a
 |0,a,c,h=>by
  rw[ByteArray.toList.loop,if_neg a9r,a5V (by simp;exact Nat.le_of_sub_eq_zero h)];simp
 |d+1,a,c,h=>by
  have k:a<b.size:=a9r;have o:a<b.data.toList.length:=by simpa using k
  rw[ByteArray.toList.loop,if_pos k,BZ b d (a+1) _ a9r,a5e o];simp_all [ByteArray.get!]
def toList_data (a:ByteArray):a.toList=a.data.toList:=by rw[ByteArray.toList,BZ a _ 0 [] rfl];simp
theorem toList_mk (a:List UInt8):(⟨a.toArray⟩:ByteArray).toList=a:=by rw[toList_data]
theorem C0 (a b:List UInt8):bo .eql (.string ⟨a.toArray⟩) (.string ⟨b.toArray⟩)=some (.bool (decide (a=b))):=by grind[bo,q0,toList_mk]
theorem C1 (a b:List UInt8):bo .neq (.string ⟨a.toArray⟩) (.string ⟨b.toArray⟩)=some (.bool (decide (a≠b))):=by grind[bo,q0,toList_mk]
def mS (a:List UInt8):(⟨a.toArray⟩:ByteArray).size=a.length:=by simp[ByteArray.size]
variable{u:bm}{l h8:World}
section
def Vc:rU K ⟨some e,e3,some (i,I)⟩ j f=hN (j i) I (cx (G K e3 j f (λa _=>a=j e)) ()) (cx ((.aL []:R)=j e) ()):=rfl
def Vd {a:Option Nat}:Def K ⟨a,e3,some (e,I)⟩ j=hN (j e) I (cx (G K e3 j U.emp (λ_ _=>True)) ()) (cx True ()):=rfl
def mT (a:R):Option R:=
 match a with
 | .J xs _=>match bytesOf xs with
  |some b=>some (.v (.string ⟨b.toArray⟩))
  |none=>none
 | _=>none
def C2:mT (.J (B.map ak) N)=some (.v (.string ⟨B.toArray⟩)):=by simp[mT,rC]
def Ve:G K (.q6 Z) j f s=dF (mT (aj j Z)) (c4 (λa=>s a f) ()):=by simp only[G,mT];generalize aj j Z=b;cases b<;>first|rfl|(rename_i c h;simp only[];generalize bytesOf c=d;cases d<;>rfl)
def qp (d:Bool) (a b:R):Option R:=
 match a,b with
 | .v (.int c a),.v (.int h b)=>if c=h then some (.v (.int c (if d then max a b else min a b)))else none
 | _,_=>none
def Vf {a:Int}:qp true (.v (.int e2 b1)) (.v (.int e2 a))=some (.v (.int e2 (max b1 a))):=by simp[qp]
def Vg {a:Int}:qp false (.v (.int e2 b1)) (.v (.int e2 a))=some (.v (.int e2 (min b1 a))):=by simp[qp]
def Vh:G K (.lL I e2 Z e9) j f s=dF (qp I (aj j Z) (aj j e9)) (c4 (λa=>s a f) ()):=by
 simp only[G,qp];generalize aj j Z=b;generalize aj j e9=c;cases b<;>first
  |rfl
  |(rename_i v;cases v<;>first
    |rfl
    |(cases c<;>first
      |rfl
      |(rename_i d;cases d<;>first|rfl|(simp only[kx,jJ]))))
def qq (a:R):Option R:=
 match a with
 | .v (.string b)=>some (.v (.int .i64 b.size))
 | _=>none
def wP:qq (.v (.string ⟨B.toArray⟩))=some (.v (.int .i64 B.length)):=by simp[qq,mS]
def Vi:G K (.q4 Z) j f s=dF (qq (aj j Z)) (c4 (λa=>s a f) ()):=by simp only[G,qq];generalize aj j Z=b;cases b<;>first|rfl|(rename_i v;cases v<;>rfl)
def qs (a:R) (d h:Option R):Option R:=
 match a with
 | .v (.string b)=>match cA d 0,cA h b.size with
  |some a,some c=>if 0<=a/\a<=c/\c<=b.size then some (.v (.string (b.extract a.toNat c.toNat)))else none
  | _,_=>none
 | _=>none
def wQ (a:List UInt8) (b c:Nat):(⟨a.toArray⟩:ByteArray).extract b c=⟨((a.take c).drop b).toArray⟩:=by apply ByteArray.ext;simp only[ByteArray.data_extract];simp[a6h]
def Vj (a:0<=b1) (b:b1<=B.length):qs (.v (.string ⟨B.toArray⟩)) (some (.v (.int e2 b1))) none=some (.v (.string ⟨(B.drop b1.toNat).toArray⟩)):=by simp[qs,cA,intOf,mS,a,b,wQ]
def Vk (a:0<=b1) (b:b1<=B.length):qs (.v (.string ⟨B.toArray⟩)) none (some (.v (.int e2 b1)))=some (.v (.string ⟨(B.take b1.toNat).toArray⟩)):=by simp[qs,cA,intOf,mS,a,b,wQ]
def Vl {b:IntKind}{a:Int} (c:0<=b1) (d:b1<=a) (h:a<=B.length):qs (.v (.string ⟨B.toArray⟩)) (some (.v (.int e2 b1))) (some (.v (.int b a)))=some (.v (.string ⟨((B.take a.toNat).drop b1.toNat).toArray⟩)):=by simp[qs,cA,intOf,mS,c,d,h,wQ]
theorem C3 (a:0<=b1) (b:b1<B.length):s6 (.v (.string ⟨B.toArray⟩)) (.v (.int e2 b1))=some (.v (.int .u8 (B.getD b1.toNat 0).toNat)):=by grind[List.getD,s6]
def C4 (c:Nat) (h:U) (r x:R) (p:R->U->Prop):Prop:=
 match r,x with
 | .bx d off a _ k,.J b _=>k=c/\(∀o∈b,o.cells.length=c)/\match h d with
  |some (.cells cs)=>off+a*c<=cs.length/\p (.v (.int .i64 (min b.length a))) (h.set d (.cells (putAt cs off (flat (b.take a)))))
  | _=>False
 | .al d a _ k,.J b _=>k=c/\(∀o∈b,o.cells.length=c)/\match h d with
  |some (.cells cs)=>a*c<=cs.length/\p (.v (.int .i64 (min b.length a))) (h.set d (.cells (putAt cs 0 (flat (b.take a)))))
  | _=>False
 | _,_=>False
def Vm:G K (.mA e Z e9) j f s=C4 e f (aj j Z) (aj j e9) (bP s ()):=rfl
def C5 {a:cD s} (b:aN e g) (c:f v=some (.cells A)) (d:M+i*e<=A.length)
  (h:s (.v (.int .i64 (min g.length i))) (f.set v (.cells (putAt A M (flat (g.take i)))))):C4 e f (.bx v M i c0 e) (.J g N) (bP s a):=by
 refine⟨rfl,b,?_⟩;rw[c];exact⟨d,h⟩
def tP (c b:Nat) (k:U) (a:R) (o p:Option R):Option R:=
 match a with
 | .ptr h off=>match cA o 0,cA p b with
  |some a,some d=>match k.read h with
   |some cs=>if 0<=a/\a<=d/\d<=b/\off+b*c<=cs.length/\a<b then some (.bx h (off+a.toNat*c) (d.toNat - a.toNat) (b - a.toNat) c)else none
   |none=>none
  | _,_=>none
 | _=>none
def wR (a:f.read v=some g) (b:M+e*i<=g.length) (c:0<e):tP i e f (.ptr v M) none none=some (.bx v M e e i):=by simp[tP,cA,a,b,c]
theorem Vn {a b:Option Operand}:G K (.kk i e Z a b false) j f s=dF (tP i e f (aj j Z) (a.map (aj j)) (b.map (aj j))) (c4 (λc=>s c f) ()):=by
 simp only[G,tP,wK];generalize aj j Z=d;generalize a.map (aj j)=h;generalize b.map (aj j)=k;cases d<;>try rfl
 rename_i o y;simp only[];generalize cA h 0=p;generalize cA k e=r;generalize f.read o=x;cases p<;>cases r<;>cases x<;>first
  |rfl
  |(simp[dF];done)
  |(
    simp only[kx,jJ,a5S,if_false];grind)
def nW (d:Nat) (b:U) (a:List R) (h:R->U->Prop):Prop:=
 (∀k∈a,k.cells.length=d)/\(if a.length=0 then h (.J [] .zero) b else∀c,b c=none->h (.al c a.length a.length d) (b.set c (.cells (flat a))))
def Vo {a:List Operand}:G K (.km e a) j f s=nW e f (a.map (aj j)) (bP s ()):=by simp only[G,nW,bP,a4V]
def nX {a:cD s}:nW e f [] (bP s a)=s (.J [] .zero) f:=by simp[nW,bP]
def eT {b:cD s} (c:aN e g) (d:g≠ []) (h: ∀a,f a=none->s (.al a g.length g.length e) (f.set a (.cells (flat g)))):nW e f g (bP s b):=by refine⟨c,?_⟩;rw[if_neg (λk=>d (a4P k))];exact h
def C6 (d h:Nat) (k:List R) (c:U) (o p:R) (r:R->U->Prop):Prop:=
 match o,p with
 | .v (.int _ a),.v (.int _ x)=>a=x/\0<=a/\a<=9223372036854775807/\a*h<=281474976710656/\ ∀b,c b=none->r (.al b a.toNat a.toNat d) (c.set b (.cells (List.replicate a.toNat k).flatten))
 | _,_=>False
def Vp:G K (.kl e i g Z e9) j f s=C6 e i g f (aj j Z) (aj j e9) (bP s ()):=rfl
theorem wS {b:IntKind}{c:cD s} (d:e*v<=281474976710656) (h:e<=9223372036854775807) (k: ∀a,f a=none->s (.al a e e i) (f.set a (.cells (List.replicate e g).flatten))):
  C6 i v g f (.v (.int e2 (e:Int))) (.v (.int b (e:Int))) (bP s c):=⟨rfl,a9r,a9r,a9r,λa o=>by
 grind[bP,Int.toNat_natCast]⟩
def jL (c z:Nat) (d:U) (E F:R) (x:R->U->Prop):Prop:=
  match mJ d c F with
  |some (b,y)=>match E with
    | .J xs D=>xs= []/\(D= .nil\/D= .zero)/\b*z<=140737488355328/\b<=9223372036854775807/\
      (if b=0 then x (.J [] D) d else∀h k p,d h=none->b<=k->k<=maxLen->p.length=(k - b)*c->x (.al h b k c) (d.set h (.cells (y++p))))
    | .al r a k C=>match d r with
      |some (.cells cs)=>C=c/\cs.length=k*c/\(a+b)*z<=140737488355328/\a+b<=9223372036854775807/\
        (if a+b<=k then x (.al r (a+b) k c) (d.set r (.cells (putAt cs (a*c) y)))
         else∀h o p,d h=none->a+b<=o->o<=maxLen->p.length=(o -(a+b))*c->x (.al h (a+b) o c) (d.set h (.cells (cs.take (a*c)++y++p))))
      |some (.fY cs)=>C=c/\cs.length=k*c/\(a+b)*z<=140737488355328/\a+b<=9223372036854775807/\
        (if a+b<=k then x (.al r (a+b) k c) (d.set r (.fY (putAt cs (a*c) y)))
         else∀h o p,d h=none->a+b<=o->o<=maxLen->p.length=(o -(a+b))*c->x (.al h (a+b) o c) (d.set h (.cells (cs.take (a*c)++y++p))))
      | _=>False
    | .bx r off a k C=>match d r with
      |some (.cells cs)=>C=c/\off+k*c<=cs.length/\(a+b)*z<=140737488355328/\a+b<=9223372036854775807/\
        (if a+b<=k then x (.bx r off (a+b) k c) (d.set r (.cells (putAt cs (off+a*c) y)))
         else∀h o p,d h=none->a+b<=o->o<=maxLen->p.length=(o -(a+b))*c->x (.al h (a+b) o c) (d.set h (.cells ((cs.drop off).take (a*c)++y++p))))
      | _=>False
    | _=>False
  |none=>False
def Vq:G K (.lM e i Z e9) j f s=jL e i f (aj j Z) (aj j e9) (bP s ()):=rfl
def ar (p r:U) (a:Nat) (d:List R) (h:R):Prop:=
 p.sub r/\((d= []/\(h= .J [] .nil\/h= .J [] .zero))\/ ∃k b c o,h= .al k b c a/\p k=none/\r k=some (.cells o)/\o.length=c*a/\o.take (b*a)=d/\d.length=b*a/\b<=c/\c<=maxLen)
theorem ar.nil {s0 a:U}{b:Nat} (c:s0.sub a):ar s0 a b [] (.J [] .nil):=⟨c,.inl ⟨rfl,.inl rfl⟩⟩
def ar.zero {a b:U}{c:Nat} (d:a.sub b):ar a b c [] (.J [] .zero):=⟨d,.inl ⟨rfl,.inr rfl⟩⟩
def ar.mono {a:R} (d:ar f t e g a) (c:t.sub e7):ar f e7 e g a:=by
 obtain⟨h,b⟩:=d;refine⟨U.aq h c,?_⟩;rcases b with b|⟨k,o,p,r,x,y,z,C⟩
 .exact .inl b
 .exact .inr ⟨k,o,p,r,x,y,c _ _ z,C⟩
theorem ar.base (c:ar f e7 e g n) (b:t.sub f):ar t e7 e g n:=by
 obtain⟨d,a⟩:=c;refine⟨U.aq b d,?_⟩;rcases a with a|⟨h,k,o,p,r,x,y⟩
 .exact .inl a
 .exact .inr ⟨h,k,o,p,r,U.bG b x,y⟩
def ar.new {ob:bq} (h:ar t f i g n) (k:f e=none):ar (t.set e ob) (f.set e ob) i g n:=by
 obtain⟨o,a⟩:=h;refine⟨U.lh o,?_⟩;rcases a with a|⟨c,p,r,x,y,z,b,C⟩
 .exact .inl a
 .have d:c≠e:=by rintro rfl;rw[k]at b;cases b
  exact .inr ⟨c,p,r,x,y,by rw[U.an _ _ d];exact z,by rw[U.an _ _ d];exact b,C⟩
theorem ar.src (b:ar t f e g n): ∃a,g.length=a*e/\bN f e n=some (a,g)/\fg n=some (.v (.int .i64 a)):=by
 obtain⟨h,c⟩:=b;rcases c with ⟨rfl,rfl|rfl⟩|⟨k,a,o,p,rfl,r,x,y,z,d,C,D⟩
 .exact⟨0,a9s,rfl,rfl⟩
 .exact⟨0,a9s,rfl,rfl⟩
 .refine⟨a,d,?_,rfl⟩;simp_all [a5a,bN,U.af]
theorem fk {l:cD s} (m:ar t f e A n) (L:0<e) (q:bN f e b3=some (i,g)) (d:g.length=i*e) (u:(A.length+g.length)*v<=140737488355328*e) (w:A.length+g.length<=9223372036854775807)
  (x: ∀P S,ar t S e (A++g) P->s P S):jL e v f n b3 (bP s l):=by
 obtain⟨b,B⟩:=m;unfold jL;rw[vP q];simp only[bP];have dg: ∀a,A.length=a*e->(a+i)*v<=140737488355328/\a+i<=9223372036854775807:=by
  intro a H;have o:A.length+g.length=(a+i)*e:=by rw[H,d,a5L]
  rw[o]at u w;constructor
  .have:(a+i)*v*e<=140737488355328*e:=by grind
   exact Nat.le_of_mul_le_mul_right this L
  .have:(a+i)*1<=(a+i)*e:=a9h _ L;omega
 rcases B with ⟨rfl,Y⟩|⟨I,a,c,y,rfl,T,K,z,C,V,Z,M⟩
 .obtain⟨D,W⟩:=dg 0 a9s;have j9: ∀k,(k= .nil\/k= .zero)->(([]:List R)= []/\(k= .nil\/k= .zero)/\i*v<=140737488355328/\i<=9223372036854775807/\
   (if i=0 then s (.J [] k) f else∀h c p,f h=none->i<=c->c<=maxLen->p.length=(c - i)*e->s (.al h i c e) (f.set h (.cells (g++p))))):=by
   intro k N;refine⟨rfl,N,by simpa using D,a9r,?_⟩;split
   .rename_i hm;subst hm;have:g= []:=a4P (by simpa using d);subst this;refine x _ _ ⟨b,.inl ⟨rfl,?_⟩⟩;simp_all
   .intro h c p r E F G;refine x _ _ ⟨U.ae b (U.bG b r),.inr ⟨h,i,c,g++p,rfl,U.bG b r,U.ah _ _ _,?_,?_,by simpa using d,E,F⟩⟩
    .rw[a4L,d,G,<-a5L];congr 1;omega
    .rw[<-d,a7e];rfl
  grind
 .obtain⟨D,W⟩:=dg a V;simp only[K];refine⟨trivial,z,D,W,?_⟩;have O:(y.take (a*e)).length=a*e:=by rw[C,V]
  split
  .rename_i j;have Q:a*e+g.length<=y.length:=by rw[d,z,<-a5L];exact a5a _ j
   refine x _ _ ⟨U.ae b T,.inr ⟨I,a+i,c,_,rfl,T,U.ah _ _ _,?_,?_,by grind,j,M⟩⟩
   .rw[eK _ _ _ Q,z]
   .have o:(a+i)*e=(y.take (a*e)++g).length:=by grind
    rw[putAt,o,a7e,C]
  .intro h X p r E F G;refine x _ _ ⟨U.ae b (U.bG b r),.inr ⟨h,a+i,X,_,rfl,U.bG b r,U.ah _ _ _,?_,?_,by grind,E,F⟩⟩
   .rw[a4L,a4L,O,d,G,<-a5L,<-a5L];congr 1;omega
   .have o:(a+i)*e=(y.take (a*e)++g).length:=by grind
    rw[o,a7e,C]
theorem C7:bN f 1 (.J (B.map ak) N)=some (B.length,B.map ak):=by grind[ak,decide,R.cells,bN,rF]
def wT (a:U) (b:R):Option R:=
 match bN a 1 b with
 |some (_,xs)=>match bytesOf xs with
  |some c=>some (.v (.string ⟨c.toArray⟩))
  |none=>none
 |none=>none
def Vr (a:bN f 1 n=some (e,B.map ak)):wT f n=some (.v (.string ⟨B.toArray⟩)):=by simp[wT,a,rC]
def sa (a:R):Option R:=
 match a with
 | .v (.string b)=>some (.J (b.data.toList.map ak) .any)
 | _=>none
def Vs:sa (.v (.string ⟨B.toArray⟩))=some (.J (B.map ak) .any):=by simp[sa]
def Vt:G K (.q7 Z) j f s=dF (sa (aj j Z)) (c4 (λa=>s a f) ()):=by simp only[G,sa];generalize aj j Z=b;cases b<;>first|rfl|(rename_i v;cases v<;>rfl)
theorem aZ.frozen {v:Value} (k:Holds u f l) (o:f M=some (.ro g)) (p:e*i<=g.length) (r:aZ u v (.al M e c0 i)):aZ u v (.J (dL i e g) .any):=by
 obtain⟨x,c,T,L,P,d,S⟩:=k.dT M _ o;have V:c.size=g.length:=d.1;cases r with
 |al M e c0 i hk y=>
  obtain⟨z,C,h⟩:=vX hk p x;by_cases D:e=0
  .subst D;have:dL i 0 g= []:=a4P h;rw[this];exact .dj _ _ _ (λE=>by cases E) trivial
  .refine .J M 0 e c0 i (λa=>c.getD a Go.undef) _ .any hk h.symm y z ?_ ?_ ?_ trivial;grind;grind
   .intro a F b;rw[C]at b;have G:a<e*i:=by grind
    rw[a5M G]at b;exact d.2 a F b
end
def sb:=
 a4H @Vo<|
 a4H @Vq<|
 a4H @Vp<|
 a4H @Vt<|
 a4H @Ve<|
 a4H @Vh<|
 a4H @Vi<|
 a4H @Vm<|
 a4H @Vn<|
 a4H @Vc<|
 @Vd
def sc:=
 a4H @Vs<|
 a4H @ja<|
 a4H @TN<|
 a4H @UU<|
 a4H @C2<|
 a4H @Vf<|
 a4H @Vg<|
 a4H @wP<|
 a4H @Vj<|
 a4H @Vk<|
 a4H @Vl<|
 a4H @wR<|
 a4H @C1<|
 a4H @C0<|
 a4H @C3<|
 a4H @ite_true.{1}<|
 a4H @ite_false.{1}<|
 a4H @a5y<|
 a4H @a5H<|
 a4H @a7C<|
 a4H @Bool.true_xor<|
 a4H @a6o<|
 a4H @a7f<|
 a4H @decide_true<|
 @decide_false
section
def Vu {a b:List Operand}:G K (.bH b4 a b) j f s=mQ (.bH b4 (a.map (aj j)) (b.map (aj j))) (c4 (λc=>s c f) ()):=rfl
def wU (a:Ctx) (b:R) (c:List R) (d:U) (h:R->U->Prop):Prop:=
 match b with
 | .bH fn cC cs=>gl a.p fn=true/\hL a.p fn (cC++c++cs) d h (up a.k)
 | _=>False
def Vv {a:List Operand}:G K (.iS Z a) j f s=wU K (aj j Z) (a.map (aj j)) f (bP s ()):=rfl
def fJ {c:cD s} (d:gl K.p b4=true) (h:AC K.p b4 (g++e1++A) f a7) (k: ∀a b,a7 a b->s a b):wU K (.bH b4 g A) e1 f (bP s c):=⟨d,(h.mono k).p⟩
def Vw:G K (.q8 b2 Z) j f s=mQ (.iface b2 (aj j Z)) (c4 (λa=>s a f) ()):=rfl
def nY (d:TypeId) (a:Bool) (b:R) (h:R):Option R:=
 match h with
 | .iface k c=>if k=d then some (if a then .aL [c,.v (.bool true)]else c)else if a=true then some (.aL [b,.v (.bool false)])else none
 | .v .nilIface=>if a=true then some (.aL [b,.v (.bool false)])else none
 | _=>none
def Vx:nY b2 true b3 (.iface b2 n)=some (.aL [n,.v (.bool true)]):=by simp[nY]
def Vy {a:TypeId} (b:a≠b2):nY b2 true n (.iface a b3)=some (.aL [n,.v (.bool false)]):=by simp[nY,b]
def Vz:nY b2 true n (.v .nilIface)=some (.aL [n,.v (.bool false)]):=by simp[nY]
def VA:nY b2 false b3 (.iface b2 n)=some n:=by simp[nY]
def C8 (a:Bool) (b:R):Option R:=
 match b with
 | .iface _ _=>some (.v (.bool a))
 | .v .nilIface=>some (.v (.bool (!a)))
 | _=>none
def VB:C8 I (.iface b2 n)=some (.v (.bool I)):=rfl
def VC:C8 I (.v .nilIface)=some (.v (.bool (!I))):=rfl
def C9 (a:Bool) (b:R):Option R:=
 match b with
 | .bH _ _ _=>some (.v (.bool a))
 | .v .nilFunc=>some (.v (.bool (!a)))
 | _=>none
def VD:C9 I (.bH e g A)=some (.v (.bool I)):=rfl
def VE:C9 I (.v .nilFunc)=some (.v (.bool (!I))):=rfl
def VF (a:Ctx) (b:R) (c:U):Prop:=
 match b with
 | .iface d h=>up a.k (.iface d h) c
 | _=>False
def VG:G K (.mC Z) j f s=VF K (aj j Z) f:=rfl
def wV (b:R) (c:U) (d:Nat->ByteArray->Prop):Prop:=
 match b with
 | .v (.string h)=> ∀a,c a=none->d a h
 | _=>False
def VH:G K (.kn Z) j f s=wV (aj j Z) f (bP (λa b=>s (.ptr a 0) (f.set a (.it b 0))) ()):=rfl
def Ca {a:Nat->ByteArray->Prop}{b:cD a}:wV (.v (.string ⟨B.toArray⟩)) f (bP a b)=iZ f (c4 (λc=>a c ⟨B.toArray⟩) ()):=rfl
def wW (h:R) (b:U) (c:R->U->Prop):Prop:=
 match h with
 | .ptr d off=>off=0/\match b d with
  |some (.it a pos)=>if pos<a.size then c (.aL [.v (.bool true),.v (.int .i64 pos),.v (.int .i32 (Utf8.decode a pos).1)]) (b.set d (.it a (pos+(Utf8.decode a pos).2)))else c (.aL [.v (.bool false)]) b
  | _=>False
 | _=>False
def VI:G K (.mD Z) j f s=wW (aj j Z) f (bP s ()):=rfl
def VJ {a:cD s} (b:f i=some (.it ⟨B.toArray⟩ e)) (c:e<B.length)
  (d:s (.aL [.v (.bool true),.v (.int .i64 e),.v (.int .i32 (Utf8.decode ⟨B.toArray⟩ e).1)]) (f.set i (.it ⟨B.toArray⟩ (e+(Utf8.decode ⟨B.toArray⟩ e).2)))):wW (.ptr i 0) f (bP s a):=by
 refine⟨rfl,?_⟩;rw[b];simp only[mS,if_pos c];exact d
def VK {a:cD s} (b:f e=some (.it ⟨B.toArray⟩ i)) (c: ¬i<B.length) (d:s (.aL [.v (.bool false)]) f):wW (.ptr e 0) f (bP s a):=by refine⟨rfl,?_⟩;rw[b];simp only[mS,if_neg c];exact d
def wX (a:R):Option R:=
 match a with
 | .J [] .nil=>some (.v (.pointer none))
 | .al b _ cap _=>if 0<cap then some (.ptr b 0)else none
 | _=>none
def VL:wX (.J [] .nil)=some (.v (.pointer none)):=rfl
def VM (a:0<i):wX (.al e v i M)=some (.ptr e 0):=by simp[wX,a]
def VN:bU K .refuse e8 j f=False:=rfl
def U.VO:(f.set e (.oO b2 g)).read e=some g:=by simp[U.read,U.set]
def VP:(R.bH e g A).cells= [.bH e g A]:=rfl
def VQ:rV (.bH e g A)=some (.bH e g A):=rfl
def sd (a:Bool) (b:U) (h k:R):Option R:=
 match h,k with
  | .ptr _ _,.v (.pointer none)=>some (.v (.bool a))
  | .v (.pointer none),.ptr _ _=>some (.v (.bool a))
  | .v (.pointer none),.v (.pointer none)=>some (.v (.bool (!a)))
  | .ptr c o,.ptr d p=>if vQ b c=true/\vQ b d=true then some (.v (.bool (xor a (decide (c=d/\o=p)))))else none
  | _,_=>none
def VR (a:vQ f e=true):sd I f (.ptr e i) (.ptr e i)=some (.v (.bool (!I))):=by simp[sd,a]
def VS:sd I f (.ptr e i) (.v (.pointer none))=some (.v (.bool I)):=rfl
def VT:sd I f (.v (.pointer none)) (.ptr e i)=some (.v (.bool I)):=rfl
def VU:sd I f (.v (.pointer none)) (.v (.pointer none))=some (.v (.bool (!I))):=rfl
end
def VV:(true==true)=true:=rfl
def VW:(true==false)=false:=rfl
def VX:(false==true)=false:=rfl
def VY:(false==false)=true:=rfl
def Cb:=
 a4H @Vu<|
 a4H @Vv<|
 a4H @Vw<|
 a4H @VG<|
 a4H @VH<|
 a4H @VI<|
 @VN
def Cc:=
 a4H @VV<|
 a4H @VW<|
 a4H @VX<|
 a4H @VY<|
 a4H @Vx<|
 a4H @Vy<|
 a4H @Vz<|
 a4H @VA<|
 a4H @VB<|
 a4H @VC<|
 a4H @VD<|
 a4H @VE<|
 a4H @Ca<|
 a4H @VL<|
 a4H @VM<|
 a4H @U.VO<|
 a4H @VP<|
 a4H @VQ<|
 a4H @VR<|
 a4H @VS<|
 a4H @VT<|
 @VU
noncomputable def jM (b:R->Option R) (c v:R):R->Option R:=λa=> @ite _ (a=c) (Classical.propDecidable _) (some v) (b a)
def tQ {a:R->Option R}{v:R}:jM a n v n=some v:=by simp[jM]
def qt {a:R->Option R}{v:R} (b:n≠b3):jM a b3 v n=a n:=by simp[jM,b]
def wY (b:R): ∀(a:List (R×R×Nat)) (c:Nat),dy a b c=(dy a b 0).map λd=>(d.1+c,d.2)
 | [],_=>rfl
 |h::a,c=>by
  unfold dy;split
  .simp
  .rw[wY b a (c+1),wY b a (0+1)];cases dy a b 0<;>simp[a8D,Nat.add_left_comm,a7Y]
theorem lj (b:R×R×Nat) (d:List (R×R×Nat)) (a:R):dy (b::d) a 0= @ite _ (a=b.1) (Classical.propDecidable _) (some (0,b.2.1)) ((dy d a 0).map λh=>(h.1+1,h.2)):=by
 conv=>lhs;unfold dy
 rw[wY a d (0+1)];by_cases c:a=b.1
 .rw[if_pos ((rA _ _).2 c),if_pos c]
 .rw[if_neg (λk=>c ((rA _ _).1 k)),if_neg c]
theorem Cd (b v:R) (o:Nat) (a:R): ∀c:List (R×R×Nat),dy c b 0=none->(dy (c++ [(b,v,o)]) a 0).map (·.2)=jM (λa=>(dy c a 0).map (·.2)) b v a
 | [],_=>by
  grind[lj,jM,dy]
 |p::c,h=>by
  rw[lj]at h;split at h
  .cases h
  .next r=>
   have x:dy c b 0=none:=by simp_all
   have ih:=Cd b v o a c x;rw[a5K,lj];by_cases d:a=p.1
   .have k:a≠b:=λy=>r (by rw[<-y];exact d);rw[if_pos d,qt k];rw[lj,if_pos d]
   .rw[if_neg d];by_cases k:a=b;simp_all [tQ,dy]
    .rw[qt k]at ih|-;rw[lj,if_neg d,a7V,a7V];exact ih
theorem Ce (c v k:R) (b:R): ∀(d:List (R×R×Nat)) (o:Nat),dy d c 0=some (o,v)->(dy (d.modify o λh=>(h.1,k,h.2.2)) b 0).map (·.2)=jM (λb=>(dy d b 0).map (·.2)) c k b
 | [],_,a=>by simp[dy]at a
 |h::d,o,a=>by
  rw[lj]at a;split at a
  .next p=>
   simp only[a4U,a5W]at a;obtain⟨rfl,_⟩:=a;rw[a8V,lj];by_cases a:b=c
   .subst a;rw[tQ];simp[p]
   simp_all [qt,if_neg,lj]
  .next p=>
   cases r:dy d c 0 with
   |none=>rw[r]at a;cases a
   |some y=>
    rw[r]at a;simp only[a5O,a4U,a5W]at a;obtain⟨rfl,rfl⟩:=a;have ih:=Ce c y.2 k b d y.1 r;rw[a8W,lj];by_cases a:b=h.1
    .have x:b≠c:=λz=>p (by rw[<-z];exact a);rw[if_pos a,qt x];rw[lj,if_pos a]
    .rw[if_neg a];by_cases x:b=c;simp_all [tQ,a7V]
     .rw[qt x]at ih|-;rw[lj,if_neg a,a7V,a7V];exact ih
structure lk (rs:List (Nat×c6)) (us:List (R×R×Nat)) (a:Nat) (b:R->Option R):Prop where
 val: ∀k,(dy us k 0).map (·.2)=b k
 keys:rB rs us
 born:(us.map (·.2.2)).Nodup
 lt: ∀c∈us,c.2.2<a
def lk.new:lk j3 [] 0 λ_=>none:=⟨λ_=>rfl,λb a=>by simp at a,a9s,λb a=>by simp at a⟩
theorem VZ (a:List (R×R×Nat)) (c:Nat) (v:R):(a.modify c λb=>(b.1,v,b.2.2)).map (·.2.2)=a.map (·.2.2):=by
 induction a generalizing c with
 |nil=>simp
 |cons b a ih=>grind
theorem mem_modify {b:List (R×R×Nat)}{v:R}{a:R×R×Nat} (d:a∈b.modify e λa=>(a.1,v,a.2.2)): ∃c∈b,a.1=c.1/\a.2.2=c.2.2:=by
 induction b generalizing e with
 |nil=>simp at d
 |cons c b ih=>grind
theorem lk.set {a:List (R×R×Nat)}{p:R->Option R} (b:lk j3 a i p) {v:R} (r:dy a n 0=some (e,v)):lk j3 (a.modify e λc=>(c.1,b3,c.2.2)) i (jM p n b3) where
 val:=λx=>by
  rw[Ce n v b3 x a e r];simp only[jM];rw[b.val]
 keys:=λc d=>by
  obtain⟨h,k,o,_⟩:=mem_modify d;rw[o];exact b.keys h k
 born:=by rw[VZ];exact b.born
 lt:=λc d=>by
  obtain⟨h,k,_,o⟩:=mem_modify d;rw[o];exact b.lt h k
theorem lk.push {d:List (R×R×Nat)}{h:R->Option R} (b:lk j3 d e h) {v:R} (x:dC j3 g) (o:dy d (.agg g) 0=none):lk j3 (d++ [(.agg g,v,e)]) (e+1) (jM h (.agg g) v) where
 val:=λp=>by
  rw[Cd _ v e p d o];simp only[jM];rw[b.val]
 keys:=λc a=>by
  rcases a5c.1 a with a|a
  .exact b.keys c a
  simp_all
 born:=by rw[a5P,List.nodup_append];refine⟨b.born,a9s,?_⟩;intro y r z k;obtain⟨c,a,rfl⟩:=a5f.1 r;simp at k;subst k;exact Nat.ne_of_lt (b.lt c a)
 lt:=λc a=>by
  rcases a5c.1 a with a|a
  .exact Nat.lt_succ_of_lt (b.lt c a)
  simp_all
def qu (c:U) (d:Nat) (h:List (Nat×c6)) (k:R->Option R):Prop:= ∃a b,c d=some (.mp a b)/\lk h a b k
def a4z (h:U) (k:Nat) (o:List (Nat×c6)) (p:R->Option R) (r:R) (x:Nat):Prop:=
 ∃a b,h k=some (.mp a b)/\ ∀v,∃c,Hd a (x:Int)=some c/\lk o (a.modify c λd=>(d.1,v,d.2.2)) b (jM p r v)
section
def W0:G K .ko j f s=iZ f (c4 (λa=>s (.gU a) (f.set a (.mp [] 0))) ()):=rfl
def tR (a:Bool) (b:List (Nat×c6)) (c:R) (h:U) (k o:R) (d:R->Prop):Prop:=
 match k,o with
 | .gU p,.agg cs=>match h p with
  |some (.mp us _)=>dC b cs/\rB b us/\(match dy us (.agg cs) 0 with
   |some (_,v)=>d (if a then .aL [v,.v (.bool true)]else v)
   |none=>d (if a then .aL [c,.v (.bool false)]else c))
  | _=>False
 | _,_=>False
def W1:G K (.lN I j3 n Z e9) j f s=tR I j3 n f (aj j Z) (aj j e9) (c4 (λa=>s a f) ()):=by
 simp only[G,tR];generalize aj j Z=b;generalize aj j e9=c;cases b<;>first
  |rfl
  |(cases c<;>rfl)
def Cf {c:R->Option R}{a:R->Prop}{k:cD a} (o:qu f e j3 c) (p:dC j3 g)
  (r: ∀v,c (.agg g)=some v->a (if I then .aL [v,.v (.bool true)]else v)) (x:c (.agg g)=none->a (if I then .aL [n,.v (.bool false)]else n)):tR I j3 n f (.gU e) (.agg g) (c4 a k):=by
 obtain⟨y,C,z,d⟩:=o;simp only[tR,z];refine⟨p,d.keys,?_⟩;have b:=d.val (.agg g);cases h:dy y (.agg g) 0 with
 |none=>rw[h]at b;exact x b.symm
 |some D=>rw[h]at b;exact r _ b.symm
def tS (a:List (Nat×c6)) (b:U) (d h v:R) (k:U->Prop):Prop:=
 match d,h with
 | .gU c,.agg cs=>match b c with
  |some (.mp us clock)=>dC a cs/\rB a us/\k (b.set c (.mp (kY us (.agg cs) v clock).1 (kY us (.agg cs) v clock).2))
  | _=>False
 | _,_=>False
def W2 {v:Operand}:G K (.lO j3 Z e9 v) j f s=tS j3 f (aj j Z) (aj j e9) (aj j v) (c4 (λa=>s (.aL []) a) ()):=by
 simp only[G,tS];generalize aj j Z=b;generalize aj j e9=c;cases b<;>first
  |rfl
  |(cases c<;>rfl)
def W3 {v:R}{c:R->Option R}{a:U->Prop}{o:cD a} (p:qu f e j3 c) (d:dC j3 g)
  (r: ∀h,qu (f.set e h) e j3 (jM c (.agg g) v)->a (f.set e h)):tS j3 f (.gU e) (.agg g) v (c4 a o):=by
 obtain⟨x,z,y,b⟩:=p;simp only[tS,y];refine⟨d,b.keys,r _ ⟨_,_,U.ah _ _ _,?_⟩⟩;unfold kY;cases k:dy x (.agg g) 0 with
 |none=>exact b.push d k
 |some C=>exact b.set k
end
theorem wZ {a b:List UInt8}:jb .neq (bd a) (bd b)=some (.v (.bool (!decide (a=b)))):=by grind[bd,rZ,C1]
def qv {a b:List UInt8}:jb .eql (bd a) (bd b)=some (.v (.bool (decide (a=b)))):=by simp only[bd,rZ,C0 a b];rfl
def W4:wT f (.J (B.map ak) N)=some (bd B):=Vr C7
def p6 {a:List UInt8}{b:Own}:mT (.J (a.map ak) b)=some (bd a):=C2
def mU (k:(∀a,R.J a .nil∈g->a= [])->AC m b4 g f s):AC m b4 g f s:=λb o p c r=>by
 refine k (λa x=> ?_) b o p c r;obtain⟨d,y,z⟩:=a5A x;have h:=c.2 d _ (by rw[a4J y,z]);generalize b.getD d undef=v at h;cases h with
 |dj=>rfl
 |J D off len cap E F a G hk hlen L P S hH T C=>exact C.elim
def W5:=
 a4H @W0<|
 a4H @W1<|
 @W2
def W6:=
 a4H @wZ<|
 a4H @qv<|
 a4H @W4<|
 @p6
def qw:=a4H s8 (a4H sb (a4H Cb W5))
def W7:=a4H s9<|a4H gf<|a4H sc<|a4H Cc W6
attribute [go_sem ↓] qw
attribute [go_sem] W7 a6e ne_eq not_true_eq_false not_false_eq_true a6w a6N aj ofConst cZ
def ax (a:Q) (b:h4) (c:Q->b5=h4:=by intro d;simp -dsimp -implicitDefEqProofs (disch:=first|omega|assumption|(simp only[aE,Nat.reduceAdd];try omega)) only[go_sem,simprocAttr,-List.reduceReplicate,d];rfl):b5:=(c a).mpr b
def cp (a:b5) (b:Q=b5:=by simp -dsimp -implicitDefEqProofs (disch:=first|omega|assumption|(simp only[aE,Nat.reduceAdd];try omega)) only[go_sem,simprocAttr,-List.reduceReplicate];rfl):Q:=b.mpr a
def aF (a:Q) (b:h4) (c:Q->b5=h4:=by intro d;simp -dsimp -implicitDefEqProofs (disch:=first|omega|assumption|(simp only[aE,Nat.reduceAdd];try omega)) only[go_sem,simprocAttr,d];rfl):b5:=(c a).mpr b
def eE (a:b5) (b:Q=b5:=by simp -dsimp -implicitDefEqProofs (disch:=first|omega|assumption|(simp only[aE,Nat.reduceAdd];try omega)) only[go_sem,simprocAttr];rfl):Q:=b.mpr a
def cr (a:Q) (b:Q->b5=True:=by intro c;simp -dsimp -implicitDefEqProofs (disch:=first|omega|assumption|(simp only[aE,Nat.reduceAdd];try omega)) only[go_sem,simprocAttr,-List.reduceReplicate,c]):b5:=of_eq_true (b a)
def nZ (a:Q=True:=by simp -dsimp -implicitDefEqProofs (disch:=first|omega|assumption|(simp only[aE,Nat.reduceAdd];try omega)) only[go_sem,simprocAttr,-List.reduceReplicate]):Q:=of_eq_true a
def gX (a:Q) (b:Q->b5=True:=by intro c;simp -dsimp -implicitDefEqProofs (disch:=first|omega|assumption|(simp only[aE,Nat.reduceAdd];try omega)) only[go_sem,simprocAttr,c]):b5:=of_eq_true (b a)
def qx (a:Q=True:=by simp -dsimp -implicitDefEqProofs (disch:=first|omega|assumption|(simp only[aE,Nat.reduceAdd];try omega)) only[go_sem,simprocAttr]):Q:=of_eq_true a
def c2 (a:Q) (b:b5):Q/\b5:=⟨a,b⟩
def aI (a:Q) (b:b5) (c:h4):Q/\b5/\h4:=⟨a,b,c⟩
def aM (a:Q) (b:b5) (c:h4) (d:j1):Q/\b5/\h4/\j1:=⟨a,b,c,d⟩
def bp (a:Q) (b:b5) (c:h4) (d:j1) (h:j6):Q/\b5/\h4/\j1/\j6:=⟨a,b,c,d,h⟩
def bD {a:Prop} (b:Q) (c:b5) (d:h4) (h:j1) (k:j6) (o:a):Q/\b5/\h4/\j1/\j6/\a:=⟨b,c,d,h,k,o⟩
def cd {a b:Prop} (c:Q) (d:b5) (h:h4) (k:j1) (o:j6) (p:a) (r:b):Q/\b5/\h4/\j1/\j6/\a/\b:=⟨c,d,h,k,o,p,r⟩
def bw {a b c:Prop} (d:Q) (h:b5) (k:h4) (o:j1) (p:j6) (r:a) (x:b) (y:c):Q/\b5/\h4/\j1/\j6/\a/\b/\c:=⟨d,h,k,o,p,r,x,y⟩
def ds {a b c d:Prop} (h:Q) (k:b5) (o:h4) (p:j1) (r:j6) (x:a) (y:b) (z:c) (C:d):Q/\b5/\h4/\j1/\j6/\a/\b/\c/\d:=⟨h,k,o,p,r,x,y,z,C⟩
def cu {a b c d h:Prop} (k:Q) (o:b5) (p:h4) (r:j1) (x:j6) (y:a) (z:b) (C:c) (D:d) (E:h):Q/\b5/\h4/\j1/\j6/\a/\b/\c/\d/\h:=⟨k,o,p,r,x,y,z,C,D,E⟩
def iz {a b c d h k:Prop} (o:Q) (p:b5) (r:h4) (x:j1) (y:j6) (z:a) (C:b) (D:c) (E:d) (F:h) (G:k):Q/\b5/\h4/\j1/\j6/\a/\b/\c/\d/\h/\k:=⟨o,p,r,x,y,z,C,D,E,F,G⟩
def jd {a b c d h k o:Prop} (p:Q) (r:b5) (x:h4) (y:j1) (z:j6) (C:a) (D:b) (E:c) (F:d) (G:h) (L:k) (P:o):Q/\b5/\h4/\j1/\j6/\a/\b/\c/\d/\h/\k/\o:=⟨p,r,x,y,z,C,D,E,F,G,L,P⟩
def p7 {a b c d h k o p:Prop} (r:Q) (x:b5) (y:h4) (z:j1) (C:j6) (D:a) (E:b) (F:c) (G:d) (L:h) (P:k) (S:o) (T:p):Q/\b5/\h4/\j1/\j6/\a/\b/\c/\d/\h/\k/\o/\p:=⟨r,x,y,z,C,D,E,F,G,L,P,S,T⟩
def fx {a b c d h k o p r:Prop} (x:Q) (y:b5) (z:h4) (C:j1) (D:j6) (E:a) (F:b) (G:c) (L:d) (P:h) (S:k) (T:o) (V:p) (W:r):Q/\b5/\h4/\j1/\j6/\a/\b/\c/\d/\h/\k/\o/\p/\r:=⟨x,y,z,C,D,E,F,G,L,P,S,T,V,W⟩
def p8 {a b c d h k o p r x:Prop} (y:Q) (z:b5) (C:h4) (D:j1) (E:j6) (F:a) (G:b) (L:c) (P:d) (S:h) (T:k) (V:o) (W:p) (e:r) (f:x):Q/\b5/\h4/\j1/\j6/\a/\b/\c/\d/\h/\k/\o/\p/\r/\x:=⟨y,z,C,D,E,F,G,L,P,S,T,V,W,e,f⟩
def p9 {a b c d h k o p r x y:Prop} (z:Q) (C:b5) (D:h4) (E:j1) (F:j6) (G:a) (L:b) (P:c) (S:d) (T:h) (V:k) (W:o) (e:p) (f:r) (g:x) (i:y):Q/\b5/\h4/\j1/\j6/\a/\b/\c/\d/\h/\k/\o/\p/\r/\x/\y:=⟨z,C,D,E,F,G,L,P,S,T,V,W,e,f,g,i⟩
def o0 {a b c d h k o p r x y z:Prop} (C:Q) (D:b5) (E:h4) (F:j1) (G:j6) (L:a) (P:b) (S:c) (T:d) (V:h) (W:k) (e:o) (f:p) (g:r) (i:x) (j:y) (l:z):Q/\b5/\h4/\j1/\j6/\a/\b/\c/\d/\h/\k/\o/\p/\r/\x/\y/\z:=⟨C,D,E,F,G,L,P,S,T,V,W,e,f,g,i,j,l⟩
def Cg {a b c d h k o p r x y z C:Prop} (D:Q) (E:b5) (F:h4) (G:j1) (L:j6) (P:a) (S:b) (T:c) (V:d) (W:h) (e:k) (f:o) (g:p) (i:r) (j:x) (l:y) (m:z) (n:C):Q/\b5/\h4/\j1/\j6/\a/\b/\c/\d/\h/\k/\o/\p/\r/\x/\y/\z/\C:=⟨D,E,F,G,L,P,S,T,V,W,e,f,g,i,j,l,m,n⟩
def o1 {a b c d h k o p r x y z C D E:Prop} (F:Q) (G:b5) (L:h4) (P:j1) (S:j6) (T:a) (V:b) (W:c) (e:d) (f:h) (g:k) (i:o) (j:p) (l:r) (m:x) (n:y) (q:z) (s:C) (t:D) (u:E):Q/\b5/\h4/\j1/\j6/\a/\b/\c/\d/\h/\k/\o/\p/\r/\x/\y/\z/\C/\D/\E:=⟨F,G,L,P,S,T,V,W,e,f,g,i,j,l,m,n,q,s,t,u⟩
section
def W8:G K (.mE Z) j f s=dF (qa (aj j Z)) (c4 (λa=>s a f) ()):=by simp only[G];cases qa (aj j Z)<;>rfl
def W9:qa (.al i v e M)=some (.v (.int .i64 e)):=rfl
def Wa:qa (.J [] .nil)=some (.v (.int .i64 0)):=rfl
def c8 (d:Nat) (x:R) (h k o:Option R):Option R:=
 match x with
 | .al p len cap r=>match cA h 0,cA k len,cA o cap with
  |some a,some c,some b=>if r=d/\0<=a/\a<=c/\c<=b/\b<=cap then
    some (if h.isSome=true then(if a<b then .bx p (a.toNat*d) (c.toNat - a.toNat) (b.toNat - a.toNat) d else .J [] .zero)else .al p c.toNat b.toNat d)
   else none
  | _,_,_=>none
 | .bx p off len cap r=>match cA h 0,cA k len,cA o cap with
  |some a,some c,some b=>if r=d/\0<=a/\a<=c/\c<=b/\b<=cap then
    some (if a<b then .bx p (off+a.toNat*d) (c.toNat - a.toNat) (b.toNat - a.toNat) d else .J [] .zero)
   else none
  | _,_,_=>none
 | .J [] .nil=>match cA h 0,cA k 0,cA o 0 with
  |some a,some c,some b=>if a=0/\c=0/\b=0 then some (.J [] .nil)else none
  | _,_,_=>none
 | .J [] .zero=>match cA h 0,cA k 0,cA o 0 with
  |some a,some c,some b=>if a=0/\c=0/\b=0 then some (.J [] .zero)else none
  | _,_,_=>none
 | _=>none
def Wb {a b c:Option Operand}:rD j e n a b c=c8 e n (a.map (aj j)) (b.map (aj j)) (c.map (aj j)):=by simp only[rD,c8,wK,Option.isSome_map];cases n<;>try rfl
def Wc {a b c:Option Operand}:G K (.lP e Z a b c) j f s=dF (c8 e (aj j Z) (a.map (aj j)) (b.map (aj j)) (c.map (aj j))) (c4 (λd=>s d f) ()):=by simp only[G,Wb];cases c8 e (aj j Z) (a.map (aj j)) (b.map (aj j)) (c.map (aj j))<;>rfl
theorem hQ (a:v<=i):c8 e (.al M c0 i e) none (some (.v (.int e2 (v:Int)))) none=some (.al M v i e):=by grind[c8,cA,intOf]
theorem gp (a:e<=v) (b:v<=M) (c:e<M):c8 i (.al c0 v M i) (some (.v (.int e2 (e:Int)))) none none=some (.bx c0 (e*i) (v - e) (M - e) i):=by grind[c8,cA,intOf]
def tT (a:e=v):c8 i (.al M e v i) (some (.v (.int e2 (e:Int)))) none none=some (.J [] .zero):=by subst a;simp[c8,cA,intOf]
theorem Ch {a:IntKind} (b:e<=M) (c:M<=v) (d:e<v):c8 i (.al c0 j0 v i) (some (.v (.int e2 (e:Int)))) (some (.v (.int a (M:Int)))) none=some (.bx c0 (e*i) (M - e) (v - e) i):=by grind[c8,cA,intOf]
def Wd:c8 e (.J [] .zero) (some (.v (.int e2 0))) none none=some (.J [] .zero):=by simp[c8,cA,intOf]
def We:c8 e (.J [] .nil) (some (.v (.int e2 0))) none none=some (.J [] .nil):=by simp[c8,cA,intOf]
def x0:c8 e (.J [] .nil) none (some (.v (.int e2 0))) none=some (.J [] .nil):=by simp[c8,cA,intOf]
def Ci (a:Option U) (b:U->Prop):Prop:=
 match a with
 |some c=>b c
 |none=>False
def Wf {a:U->Prop}{b:cD a}:Ci (some f) (c4 a b)=a f:=rfl
def Cj (a:Option (R×U)) (b:R->U->Prop):Prop:=
 match a with
 |some (c,d)=>b c d
 |none=>False
def Wg {a:cD s}:Cj (some (n,f)) (bP s a)=s n f:=rfl
def Wh:G K (.mF e g Z) j f s=Ci (kq e g (aj j Z) f) (c4 (λa=>s (.aL []) a) ()):=by simp only[G];cases kq e g (aj j Z) f<;>rfl
def Wi:G K (.mG e Z e9) j f s=Cj (la e (aj j Z) (aj j e9) f) (bP s ()):=by
 simp only[G];cases la e (aj j Z) (aj j e9) f with
 |none=>rfl
 |some a=>obtain⟨b,c⟩:=a;rfl
def Wj:G K (.mI Z e9) j f s=dF (ks (aj j Z) (aj j e9) f) (c4 (λa=>s a f) ()):=by simp only[G];cases ks (aj j Z) (aj j e9) f<;>rfl
def x1 (a:f i=some (.cells g)) (b:v+M*e<=g.length):kq e A (.bx i v M c0 e) f=some (f.set i (.cells (putAt g v (List.replicate M A).flatten))):=by simp[kq,a,b]
def Wk:kq e g (.J [] N) f=some f:=rfl
def ho (a:bN f e n=some (c0,A)) (b:f v=some (.cells g)) (c:M+i*e<=g.length):la e (.bx v M i j0 e) n f=some (.v (.int .i64 (min c0 i:Nat)),f.set v (.cells (putAt g M (A.take (i*e))))):=by simp[la,a,b,c]
def x2 (a:cR n=some e) (b:cR b3=some i) (c:e≠i) (d:kr f e=true) (h:kr f i=true):ks n b3 f=some (.v (.bool false)):=by simp[ks,a,b,c,d,h]
def qy (a:f e=some (.cells g)) (b:g≠ []):kr f e=true:=by
 cases g with
 |nil=>exact absurd rfl b
 |cons c g=>simp[kr,a]
def se (c p:Nat) (r:List R) (k:U) (y z:R) (x:R->U->Prop):Prop:=
 match y,z with
  | .al C d cap D,.v (.int .i64 a)=>match k.read C with
   |some cs=>D=c/\cs.length=cap*c/\0<=a/\cap<d+a.toNat/\(d+a.toNat)*p<=140737488355328/\d+a.toNat<=9223372036854775807/\
    ∀h b o,k h=none->d+a.toNat<=b->b<=maxLen->o.length=(b -(d+a.toNat))*c->x (.al h (d+a.toNat) b c) (k.set h (.cells (cs.take (d*c)++(List.replicate a.toNat r).flatten++o)))
   |none=>False
  | .J xs E,.v (.int .i64 a)=>xs= []/\E= .nil/\0<a/\a.toNat*p<=140737488355328/\a<=9223372036854775807/\
    ∀h b o,k h=none->a.toNat<=b->b<=maxLen->o.length=(b - a.toNat)*c->x (.al h a.toNat b c) (k.set h (.cells ((List.replicate a.toNat r).flatten++o)))
  | _,_=>False
def Wl:G K (.mH e i g Z e9) j f s=se e i g f (aj j Z) (aj j e9) (bP s ()):=rfl
def x3 {d:cD s} (h:f j0=some (.cells g)) (k:g.length=M*v) (o:M<e+i) (p:(e+i)*c0<=140737488355328) (r:e+i<=9223372036854775807)
  (x: ∀b a c,f b=none->e+i<=a->a<=maxLen->c.length=(a -(e+i))*v->s (.al b (e+i) a v) (f.set b (.cells (g.take (e*v)++(List.replicate i A).flatten++c)))):se v c0 A f (.al j0 e M v) (.v (.int .i64 (i:Int))) (bP s d):=by
 simp only[se,U.af h,a5i];exact⟨trivial,k,a9r,o,p,r,x⟩
def Ck {d:cD s} (o:0<e) (h:e*v<=140737488355328) (p:e<=9223372036854775807)
  (k: ∀b a c,f b=none->e<=a->a<=maxLen->c.length=(a - e)*i->s (.al b e a i) (f.set b (.cells ((List.replicate e g).flatten++c)))):se i v g f (.J [] .nil) (.v (.int .i64 (e:Int))) (bP s d):=by
 simp only[se,a5i];exact⟨trivial,trivial,a9r,h,a9r,k⟩
def View (c:U) (h:R) (k:U) (o:R):Prop:= ∀(a:bm) (b:World) (v:Value),Holds a c b->aZ a v h-> ∃d,Step a c b d k b/\aZ d v o
def AC.view (k:AC m b4 g f s) (o: ∀a b,s a b-> ∃c d,View b a d c/\a7 c d):AC m b4 g f a7:=
 λp r x y z=>(k p r x y z).mono λ_ _ C=>by
  obtain⟨v,a,D,b,E,h,F,G⟩:=C;obtain⟨c,d,L,P⟩:=o a b G;obtain⟨S,T,V⟩:=L D _ v h.holds F;exact⟨v,c,S,d,E,h.trans T,V,P⟩
theorem View.refl {a:U}{b:R}:View a b a b:=λc k v d h=>⟨c,.refl d,h⟩
theorem View.J {s:U}{a:List R}{o:Own}:View s (.J a o) s (.J a .any):=λb E v c d=>by
 refine⟨b,.refl c,?_⟩;cases d with
 |dj h cap dp bQ k=>exact .dj h cap .any bQ trivial
 |J p off len cap r x a dp hk hlen y z C hH D k=>exact .J p off len cap r x a .any hk hlen y z C hH D trivial
theorem View.al {b:U}{c n cap k:Nat}{a:List R} (h:b c=some (.cells a)) (o:n*k<=a.length):View b (.al c n cap k) (b.set c (.ro a)) (.J (dL k n a) .any):=λy z v p r=>by
 obtain⟨x,d⟩:=Step.freeze p h;exact⟨x,d,aZ.frozen d.holds (U.ah _ _ _) o (r.mono d.le)⟩
theorem kz:dL 1 e g=g.take e:=by simp[dL]
theorem Wm (c:i<=v):dL e i (g.take (v*e))=dL e i g:=by
 unfold dL;by_cases hk:e=1;grind
 .simp only[hk,if_false];refine a6r λa b=> ?_;have b:a<i:=by simpa using b
  have d:a*e+e<=v*e:=by have:(a+1)*e<=v*e:=a5a _ a9r;grind
  rw[a6h,a6a,a6t a9r]
theorem View.dW (o:ar t f e g n): ∃a d,g.length=a*e/\t.sub d/\View f n d (.J (dL e a g) .any):=by
 obtain⟨b,p⟩:=o;rcases p with ⟨rfl,rfl|rfl⟩|⟨h,a,F,r,rfl,x,y,G,z,C,L,P⟩
 .refine⟨0,f,a9s,b,?_⟩;grind[dL,View.J]
 .refine⟨0,f,a9s,b,?_⟩;grind[dL,View.J]
 .refine⟨a,f.set h (.ro r),C,λk D c=> ?_,?_⟩
  .have E:k≠h:=by rintro rfl;rw[x]at c;cases c
   rw[U.an _ _ E];exact b k D c
  .rw[<-z,Wm (a5m a)];exact View.al y (by grind)
theorem View.trans {a b c:U}{d h k:R} (r:View a d b h) (x:View b h c k):View a d c k:=λy o v z C=>by
 obtain⟨D,p,E⟩:=r y o v z C;obtain⟨F,G,L⟩:=x D o v p.holds E;exact⟨F,p.trans G,L⟩
theorem View.aL {c d:U}{b h:R}{a k:List R} (x:View c b d h):View c (.aL (a++b::k)) d (.aL (a++h::k)):=λy z v C D=>by
 cases D with
 |aL E cs F o=>
  have G:=o a.length b a9s;obtain⟨L,p,S⟩:=x y z _ C G;refine⟨L,p,.aL E _ (by simpa using F) λr P T=> ?_⟩;by_cases V:r=a.length;simp_all
  .refine(o r P ?_).mono p.le;grind
theorem View.agg {d h:U}{b c:R}{a k:List R} (S:c.one=true) (x:View d b h c):View d (.agg (a++b::k)) h (.agg (a++c::k)):=λy z v C D=>by
 cases D with
 |agg E cs T F o=>
  have G:=o a.length b a9s;obtain⟨L,p,V⟩:=x y z _ C G;refine⟨L,p,.agg E _ (λW e=> ?_) (by simpa using F) λr P f=> ?_⟩;grind;by_cases g:r=a.length;simp_all
  .refine(o r P ?_).mono p.le;grind
end
def eM:=
 a4H @W8<|
 a4H @Wc<|
 a4H @Wh<|
 a4H @Wi<|
 a4H @Wj<|
 a4H @Wl<|
 a4H @Wf<|
 a4H @Wg<|
 a4H @W9<|
 a4H @Wa<|
 @x0
def dD (a:Q) (b:h4) (c:Q->b5=h4:=by intro d;simp -dsimp -implicitDefEqProofs (disch:=first|omega|assumption|(simp only[aE,Nat.reduceAdd];try omega)) only[go_sem,simprocAttr,-List.reduceReplicate,↓eM,d];rfl):b5:=(c a).mpr b
def Cl (a:b5) (b:Q=b5:=by simp -dsimp -implicitDefEqProofs (disch:=first|omega|assumption|(simp only[aE,Nat.reduceAdd];try omega)) only[go_sem,simprocAttr,-List.reduceReplicate,↓eM];rfl):Q:=b.mpr a
def wr:dN->List Nat
 | .plain ops| .draw ops _=>ops.filterMap (·.dst)
 | .seq a b| .cond _ a b=>wr a++wr b
 | .block _ a| .loop a=>wr a
 | _=> []
def hp (b:List Nat) (c d:Fr):Prop:= ∀a,a∉b->d a=c a
theorem hp.trans {a:List Nat}{b c d:Fr} (o:hp a b c) (p:hp a c d):hp a b d:=λh k=>(p h k).trans (o h k)
def hp.put {c:List Nat}{b:Option Nat} (d: ∀a,b=some a->a∈c):hp c j (dn j b n):=λa h=>tD j b n a λk=>h (d a k)
section
def Cm {a:List Nat}{k:Fr->U->Prop}{o:Fr}: ∀(b:List c7),(∀c∈b,∀p,c.dst=some p->p∈a)-> ∀(j:Fr) (f:U),hp a o j->iV K b k j f->iV K b (λr d=>k r d/\hp a o r) j f
 | [],_,j,f,cw,h=>⟨h,cw⟩
 |c::y,x,j,f,cw,h=>mN (λE d z=>Cm y (λC D=>x C (a6l _ D)) _ d (cw.trans (hp.put (x c (a6v ..)))) z) h
def Cn {b:List Nat}{c:Nat->c7}{h:Fr->U->Prop}{k:Fr} (o: ∀z p,(c z).dst=some p->p∈b): ∀(r:List dk) (j:Fr) (f:U),hp b k j->can K c h r j f->can K c (λx d=>h x d/\hp b k x) r j f
 | [],j,f,cw,a=>⟨a,cw⟩
 |C::D,j,f,cw,a=>⟨a.1,mN (λE d y=>⟨y.1,Cn o D _ d (cw.trans (hp.put (o C.i))) y.2⟩) a.2⟩
theorem o2 {p:List Nat}: ∀(r:dN),(∀b∈wr r,b∈p)-> ∀ {k:gn->Fr->U->Prop}{f0:Fr} (j:Fr) (f:U),hp p f0 j->bU K r k j f->bU K r (λd z D=>k d z D/\hp p f0 z) j f
 | .skip,_,_,_,j,f,cw,a=>⟨a,cw⟩
 | .ret,_,_,_,j,f,cw,a=>⟨a,cw⟩
 | .exit _,_,_,_,j,f,cw,a=>⟨a,cw⟩
 | .plain ops,hw,_,_,j,f,cw,a=>Cm ops (λE F b o=>hw b (a8r.2 ⟨E,F,o⟩)) j f cw a
 | .draw ops G,hw,_,_,j,f,cw,a=>Cn (λx b o=>by
   refine hw b (a8r.2 ?_);grind[nth,List.mem_of_getElem?]) G j f cw a
 | .seq c y,hw,k,f0,j,f,cw,a=>jc c (λd j f a=>by
   cases d with
   |norm=>exact o2 y (λb h=>hw b (a6X _ h)) j f a.2 a.1
   |exit x=>exact a
   |ret=>exact a) j f (o2 c (λb h=>hw b (a7b _ h)) j f cw a)
 | .block x c,hw,k,f0,j,f,cw,a=>jc c (λd j f a=>by
   cases d with
   |norm=>exact a
   |exit W=>obtain⟨L,e⟩:=a;simp only[lg]at L|-;split<;>(simp_all)
   |ret=>exact a) j f (o2 c hw j f cw a)
 | .cond r c y,hw,k,f0,j,f,cw,a=>by
   simp only[wE,Bt,kv]at a|-;split at a
   .exact⟨λo=>o2 c (λb h=>hw b (a7b _ h)) j f cw (a.1 o),λo=>o2 y (λb h=>hw b (a6X _ h)) j f cw (a.2 o)⟩
   .exact a.elim
 | .loop c,hw,k,f0,j,f,cw,a=>by
   obtain⟨P,S,T,V⟩:=a;refine⟨λj f=>P j f/\hp p f0 j,S,⟨T,cw⟩,λj f C=>jc c (λd j f a=> ?_) j f (o2 c hw j f C.2 (V j f C.1))⟩;cases d with
   |norm=>exact⟨⟨a.1.1,a.2⟩,a.1.2⟩
   |exit x=>exact a
   |ret=>exact a
def gO (a:Fr):List (Nat×R)->Prop
 | []=>True
 |b::c=>a b.1=b.2/\gO a c
def Wn:gO j []=True:=rfl
def Wo {v:R}:gO j [(e,v)]=(j e=v):=by simp[gO]
def Wp {v:R}{a:Nat×R}{b:List (Nat×R)}:gO j ((e,v)::a::b)=(j e=v/\gO j (a::b)):=rfl
def gY (a:Fr):List (Nat×R)->Fr
 | []=>a
 |b::c=>dn (gY a c) (some b.1) b.2
def Wq:gY j []=j:=rfl
def Wr {v:R}{a:List (Nat×R)}:gY j ((e,v)::a)=dn (gY j a) (some e) v:=rfl
theorem sf {a:Fr}: ∀ {b:List (Nat×R)},gO a b->gY a b=a
 | [],_=>rfl
 |d::o,c=>by
  rw[gY,sf c.2];funext h;by_cases k:h=d.1
  .subst k;rw[<-c.1];simp[dn,kh]
  grind[tD,Option.some.inj]
def keeps (a:Fr):List Nat->List (Nat×R)
 | []=> []
 |b::c=>(b,a b)::keeps a c
def Ws:keeps j []= []:=rfl
def Wt {a:List Nat}:keeps j (e::a)=(e,j e)::keeps j a:=rfl
def x4 {b c:Fr}: ∀ {d:List Nat},(∀a∈d,c a=b a)->gO c (keeps b d)
 | [],_=>trivial
 |a::p,h=>⟨h a (a6v ..),x4 λk o=>h k (a6l _ o)⟩
theorem Co: ∀ {n:Nat},j5 n-> ∃n,j5 n/\ ∀a,j5 a->n<=a:=by
 intro n
 induction n using Nat.strongRecOn with
 |ind n ih=>grind
theorem cj (D:List Nat) (y:b0->List (Nat×R)) (E:b0->U->Prop) (b:b0->Nat) (L:b0)
  (m:E L f/\gO j (y L)) (P: ∀x d,E x d-> ∀h,bU K h7 (eS (λn q=> ∃a,E a q/\gO n (y a)/\b a<b x) e8) (gY (gY h (keeps j D)) (y x)) d)
  (I:D.all (λS=> !(wr h7).contains S)=true:=by kernel_rfl):cx (bU K (.loop h7) e8 j f) ():=by
 classical
 let p:=λ(h:Fr) (d:U) (a:b0)=>E a d/\gO h (y a)
 let z:=λ(h:Fr) (d:U)=>if C: ∃k,(∃a,p h d a/\b a=k)/\ ∀o,(∃a,p h d a/\b a=o)->k<=o then C.choose else 0;refine⟨λh d=>(∃a,p h d a)/\hp (wr h7) j h,z,⟨⟨L,m⟩,λ_ _=>rfl⟩,λc r T=> ?_⟩;have C: ∃k,(∃a,p c r a/\b a=k)/\ ∀o,(∃a,p c r a/\b a=o)->k<=o:=by obtain⟨a,s⟩:=T.1;exact Co (n:=b a) ⟨a,s,rfl⟩
 obtain⟨⟨x,i,hm⟩,M⟩:=C.choose_spec;have t:gO c (keeps j D):=x4 λS N=>T.2 S λO=>by
  simp_all
 have u:gY (gY c (keeps j D)) (y x)=c:=by rw[sf t,sf i.2]
 have l:=P x r i.1 c;rw[u]at l;refine jc h7 (λv F G V=> ?_) c r (o2 (p:=wr h7) (f0:=j) h7 (λ_ P=>P) c r T.2 l);cases v with
 |norm=>obtain⟨⟨a,W,e,w⟩,A⟩:=V;refine⟨⟨⟨a,W,e⟩,A⟩,?_⟩;have g: ∃k,(∃a,p F G a/\b a=k)/\ ∀o,(∃a,p F G a/\b a=o)->k<=o:=Co (n:=b a) ⟨a,⟨W,e⟩,rfl⟩;show z F G<z c r;have B:z F G=g.choose:=dif_pos g;have H:z c r=C.choose:=dif_pos C;rw[B,H];exact Nat.lt_of_le_of_lt (g.choose_spec.2 _ ⟨a,⟨W,e⟩,rfl⟩) (by rw[<-hm];exact w)
 |exit Q=>exact V.1
 |ret=>exact V.1
end
theorem gP (d:List Nat) (b:b0->List (Nat×R)) (c:b0->Prop) (h:b0->Nat) (k:b0)
  (x:c k) (y:gO j (b k)) (z: ∀a,c a-> ∀o,bU K h7 (eS (λC D=> ∃p,D=f/\c p/\gO C (b p)/\h p<h a) e8) (gY (gY o (keeps j d)) (b a)) f)
  (E:d.all (λF=> !(wr h7).contains F)=true:=by kernel_rfl):cx (bU K (.loop h7) e8 j f) ():=
 cj d b (λa r=>r=f/\c a) h k ⟨⟨rfl,x⟩,y⟩ (λa r G o=>by
  obtain⟨rfl,L⟩:=G;refine jc h7 (λP S T V=> ?_) _ _ (z a L o);grind) E
def tU:=
 a4H @Wn<|
 a4H @Wo<|
 a4H @Wp<|
 a4H @Wq<|
 a4H @Wr<|
 a4H @Ws<|
 @Wt
def U.tV (a:f e=none) (b:t.sub f):t e=none:=U.bG b a
def U.Wu (c:f e=none):f.sub (t.set e Y)=f.sub t:=propext ⟨λa d h b=>by
 have k:d≠e:=by rintro rfl;rw[c]at b;cases b
 have:=a d h b;rwa[U.an _ _ k]at this,λa=>U.ae a c⟩
def U.sub_self:f.sub f=True:=eq_true U.a1
def Wv:(∃b,b.sub t/\f.sub b)=f.sub t:=propext ⟨λ⟨_,a,h⟩ c d k=>a c d (h c d k),λa=>⟨f,a,U.a1⟩⟩
def Ww:(∃b,b.sub t/\b=f)=f.sub t:=propext ⟨λ⟨_,a,c⟩=>by subst c;exact a,λa=>⟨f,a,rfl⟩⟩
def Wx:qq (bd B)=some (.v (.int .i64 B.length)):=wP
def Wy (a:e<B.length):s6 (bd B) (.v (.int e2 (e:Int)))=some (.v (.int .u8 (B.getD e 0).toNat)):=by have:=C3 (B:=B) (e2:=e2) (b1:=(e:Int)) a9r a9r;rwa[a5i]at this
def o3:cS e (.J g N) (.v (.int e2 (i:Int)))=eD e g[i]? :=by rw[hn a9r,a5i]
def Wz:eD 1 (some (.v e4))=some (.bW [.v e4]):=rfl
def WA:eD 1 (some (bd B))=some (.bW [bd B]):=rfl
def WB:eD 1 (some (.J g N))=some (.bW [.J g N]):=rfl
def WC:eD 1 (some (.ptr e i))=some (.bW [.ptr e i]):=rfl
def WD [Decidable Q]:(!decide Q)=decide (¬Q):=decide_not.symm
def WE:(xor false I)=I:=a7C I
def WG:(∃b,b.sub t/\f.sub b/\Q)=(f.sub t/\Q):=propext ⟨λ⟨_,a,h,k⟩=>⟨λc d o=>a c d (h c d o),k⟩,λa=>⟨f,a.1,U.a1,a.2⟩⟩
def WH:(∃b,b.sub t/\b=f/\Q)=(f.sub t/\Q):=propext ⟨λ⟨_,a,c,d⟩=>by subst c;exact⟨a,d⟩,λa=>⟨f,a.1,rfl,a.2⟩⟩
def WI {a:b0}{b:List b0}:List.take (e+1) (a::b)=a::List.take e b:=rfl
def WJ {a:List b0}:List.take 0 a= []:=rfl
def WK:List.take e ([]:List b0)= []:=a9e
def WL {a:List b0}:List.drop 0 a=a:=rfl
def WM:putAt (b3::g) 0 (n::A)=n::putAt g 0 A:=by simp[putAt]
def WN:putAt g 0 []=g:=by simp[putAt]
def WO:putAt (n::g) (e+1) A=n::putAt g e A:=by simp[putAt,Nat.add_right_comm]
def WQ {b:b0}{a:List b0}:(b::a).length=a.length+1:=rfl
def WR:([]:List b0).length=0:=rfl
def WS:(bd B).cells= [bd B]:=rfl
def WT:(R.J g N).cells= [.J g N]:=rfl
def WU:(R.ptr e i).cells= [.ptr e i]:=rfl
def WV {v:Value}:(R.v v).cells= [.v v]:=rfl
theorem pa (a:e<=g.length) (b:aN i g):dO i (.J g N) (some (.v (.int e2 (e:Int)))) none=some (.J (g.drop e) .any):=by grind[qo,Int.toNat_natCast]
def WW (a:e<g.length) (b:aN i g):dO i (.J g N) (some (.v (.int e2 ((e:Int)+1)))) none=some (.J (g.drop (e+1)) .any):=pa (e:=e+1) a b
theorem WX (a:e<=g.length) (b:aN i g):dO i (.J g N) none (some (.v (.int e2 (e:Int))))=some (.J (g.take e) .any):=by grind[nV,Int.toNat_natCast]
theorem WY {a:IntKind} (b:i<=e) (c:e<=g.length) (d:aN v g):dO v (.J g N) (some (.v (.int e2 (i:Int)))) (some (.v (.int a (e:Int))))=some (.J ((g.take e).drop i) .any):=by grind[BS,Int.toNat_natCast]
def WZ:(∃ _:Unit,True)=True:=eq_true ⟨(),trivial⟩
def X0 {a:cD s}:jK e f [] (bP s a)=s (.J [] .zero) f:=by simp[jK,bP]
def X1:cS e (.J g N) (.v (.int e2 0))=eD e g[0]? :=o3 (i:=0)
def X2:cS e (.J g N) (.v (.int e2 1))=eD e g[1]? :=o3 (i:=1)
def tW:=
 a4H @X1<|
 a4H @X2<|
 a4H @WZ<|
 a4H @pa<|
 a4H @WW<|
 a4H @WX<|
 a4H @WY<|
 a4H @WS<|
 a4H @WT<|
 a4H @WU<|
 a4H @WV<|
 a4H @U.ah<|
 a4H @U.an<|
 a4H @WM<|
 a4H @WN<|
 a4H @WO<|
 a4H @WQ<|
 a4H @WR<|
 a4H @WI<|
 a4H @WJ<|
 a4H @WK<|
 a4H @WL<|
 a4H @U.Wu<|
 a4H @U.sub_self<|
 a4H @Wv<|
 a4H @Ww<|
 a4H @WG<|
 a4H @WH<|
 a4H @true_and<|
 a4H @and_true<|
 a4H @Wx<|
 a4H @Wy<|
 a4H @o3<|
 a4H @Wz<|
 a4H @WA<|
 a4H @WB<|
 a4H @WC<|
 a4H @hP<|
 a4H @hP<|
 a4H @BJ<|
 a4H @decide_true<|
 a4H @decide_false<|
 a4H @a5H<|
 a4H @a5y<|
 a4H @a6o<|
 a4H @a7f<|
 a4H @a8u<|
 a4H @Bool.and_false<|
 a4H @WE<|
 a4H @Bool.true_xor<|
 a4H @WD<|
 @Decidable.not_not
theorem sg {a:Nat->Bool} (b:e<i) (c:a e=false):(List.range i).all a=false:=List.all_eq_false.2 ⟨e,a6b.2 b,by simp[c]⟩
theorem sh {a:Nat->Bool} (b: ∀c<e,a c=true):(List.range e).all a=true:=a4Y.2 λd h=>b d (a6b.1 h)
def upto (b: ∀a<e,j5 a) (c:j5 e): ∀a<e+1,j5 a:=λa d=>(Nat.lt_or_eq_of_le (Nat.le_of_lt_succ d)).elim (b a) λh=>h▸c
def X3:R.v (.int e2 ((e:Int)+1))= .v (.int e2 ((e+1:Nat):Int)):=rfl
theorem qz {a:Bool} (b:(I=true)=(a=true):=by apply propext;(try dsimp only);(try simp (disch:=omega) only[if_pos,if_neg,a4M,a6u,a6n,Bool.not_eq_eq_eq_not,a5H,a5y,decide_eq_true_eq,decide_eq_false_iff_not,a5S,false_iff,iff_false,true_iff,iff_true,true_and,and_true,false_and,and_false,false_or,or_false,true_or,or_true,iff_self, *])<;>omega):I=a:=by cases I<;>cases a<;>simp_all
theorem aQ {a:Bool} (b:I=a:=by exact qz):R.v (.bool I)= .v (.bool a):=b▸rfl
theorem aR {a:Bool} (b:I=a):R.v (.bool I)= .v (.bool a):=by rw[b]
def U.tX (a:f.sub t) (b:f e=some Y):t e=some Y:=a _ _ b
def U.tY (a:bj f t i g N) (b:f e=some Y):t e=some Y:=a.sub _ _ b
def iA (c d:U):Prop:= ∀a b,c a=some (.cells b)->d a=some (.cells b)
def U.o4 (a:f.sub t):iA f t:=λc d b=>a _ _ b
theorem iA.trans (a:iA f t) (b:iA t e7):iA f e7:=λd h c=>b _ _ (a _ _ c)
def U.tZ (a:iA f t) (b:f e=some (.cells g)):t e=some (.cells g):=a _ _ b
def U.u0 {a:bq} (b:f e=some Y) (c:f i=none):(f.set i a) e=some Y:=U.ae U.a1 c _ _ b
def U.gZ (b:f i=none) (a:f e=some Y):e≠i:=by rintro rfl;rw[b]at a;cases a
def a0 (a:f e=some Y:=by first|assumption|exact U.ah _ _ _):f e=some Y:=a
def a3 (a:f e=some Y:=by first|exact a0|exact U.u0 a2 a9u|exact U.tX a9u a2|exact U.tY a9u a2|exact U.x5 a9u a2|exact U.tZ a9u a2):f e=some Y:=a
def a4 (a:f e=some Y:=by first|exact a0|exact U.u0 a3 a9u|exact U.tX a9u a3|exact U.tY a9u a3|exact U.x5 a9u a3|exact U.tZ a9u a3):f e=some Y:=a
def a5 (a:f e=some Y:=by first|exact a0|exact U.u0 a4 a9u|exact U.tX a9u a4|exact U.tY a9u a4|exact U.x5 a9u a4|exact U.tZ a9u a4):f e=some Y:=a
def dx (a:f e=some Y:=by first|exact a0|exact U.u0 a5 a9u|exact U.tX a9u a5|exact U.tY a9u a5|exact U.x5 a9u a5|exact U.tZ a9u a5):f e=some Y:=a
def fY (c: ∀a b,f a=some (.cells b)->t a=some (.cells b):=by intro _ _ _;exact dx):iA f t:=c
def qA (c: ∀a b,f a=some b->t a=some b:=by intro _ _ _;exact dx):f.sub t:=c
section
def eF (a:Q=b5:=by simp -dsimp -implicitDefEqProofs (disch:=first|omega|assumption|exact U.tV a9u a9u|(simp only[aE,Nat.reduceAdd];try omega)) only[go_sem,simprocAttr,-List.reduceReplicate,↓eM,tW,tU, *]<;>rfl):Q=b5:=a
def hR (a:Q=b5:=by first|exact eF|rfl):Q=b5:=a
def aa (a:b5) (b:Q=b5:=by exact hR):Q:=b.mpr a
def aU (a:Q=True:=by simp -dsimp -implicitDefEqProofs (disch:=first|omega|assumption|exact U.tV a9u a9u|(simp only[aE,Nat.reduceAdd];try omega)) only[go_sem,simprocAttr,-List.reduceReplicate,↓eM,tW,tU, *]):Q:=of_eq_true a
def aO (b:m.follows .mixedOrders=true) {a:List (Nat×Option (Bool×Nat))} (c:dw m v e=some ⟨i,M,h7,a⟩) (d:Q) (h:g.length<=i:=by simp)
  (k:bU (Ctx.of m) h7 (p5 a s) (lT g) f=Q:=by exact eF):AC m e g f s:=bf b c h (k.mpr d)
def br {c:Nat->Prop} (d: ∀a,f a=none->c a) (h: ∀a,f a=none->j5 a=c a:=by intro a b;exact eF):iZ f (c4 j5 ()):=λa b=>(h a b).mpr (d a b)
def U.set_nil (a:(f.set i Y) e=none):f e=none/\e≠i/\i≠e:=⟨(U.gN a).2,(U.gN a).1,(U.gN a).1.symm⟩
def db {d:Nat->Prop} (o: ∀a,f a=none->a≠e->e≠a->d a) (h: ∀a,f a=none->a≠e->e≠a->j5 a=d a:=by intro a b c h;exact eF):iZ (f.set e Y) (c4 j5 ()):=λa b=>by
 obtain⟨b,c,k⟩:=U.set_nil b;exact(h a b c k).mpr (o a b c k)
def hq {k:Nat->Prop}{r:bq} (x: ∀a,f a=none->a≠e->e≠a->a≠i->i≠a->k a) (o: ∀a,f a=none->a≠e->e≠a->a≠i->i≠a->j5 a=k a:=by intro a b c o d h;exact eF):iZ ((f.set e Y).set i r) (c4 j5 ()):=λa b=>by
 obtain⟨b,d,h⟩:=U.set_nil b;obtain⟨b,c,p⟩:=U.set_nil b;exact(o a b c p d h).mpr (x a b c p d h)
def cl (c:AC m b4 g f a7) (d: ∀a b,a7 a b->s a b) (h:Q=nU K b4 g f (bP s ()):=by exact hR) (k:K.p=m:=by rfl):Q:=by subst k;exact h.mpr (ai c d)
def bk (a:AC K.p b4 g f λb c=>c=f/\b=n) (d:Q) (h:s n f=Q:=by exact eF):nU K b4 g f (bP s ()):=ai a λ_ _ a=>by rw[a.1,a.2];exact h.mpr d
theorem lY (c:AC m b4 g f λa b=>b=f/\a=n) (d:b5) (h:Q=nU K b4 g f (bP s ()):=by exact hR) (k:s n f=b5:=by exact hR) (o:K.p=m:=by rfl):Q:=by grind[ai]
theorem gs {c:U->Prop} (b:AC K.p b4 g f λd a=>f.sub a/\d=n) (h: ∀a,f.sub a->c a) (k: ∀a,f.sub a->s n a=c a:=by intro a b;exact eF):nU K b4 g f (bP s ()):=ai b λ_ a b=>by simp_all
def mV (a:Q=b5:=by first|(simp only[decide_eq_true_eq,decide_eq_false_iff_not,a6n,Bool.not_eq_false',a5H,a5y,Decidable.not_not]<;>rfl)|rfl):Q=b5:=a
def X4 {c:Prop} (k:(I=true)=Q:=by exact mV) (o:(I=false)=b5:=by exact mV) (d:Q->h4=j6:=by intro;first|exact eF|rfl) (h:b5->j1=c:=by intro;first|exact eF|rfl):kv (.v (.bool I)) (cx h4 ()) (cx j1 ())=((Q->j6)/\(b5->c)):=by subst k o;exact propext ⟨λb=>⟨λa=>(d a).mp (b.1 a),λa=>(h a).mp (b.2 a)⟩,λb=>⟨λa=>(d a).mpr (b.1 a),λa=>(h a).mpr (b.2 a)⟩⟩
def X5 {c:Bool}{d:Prop} (o:(I=c)=Q:=by exact mV) (p:(I= !c)=b5:=by exact mV) (h:Q->h4=j6:=by intro;first|exact eF|rfl) (k:b5->j1=d:=by intro;first|exact eF|rfl):hN (.v (.bool I)) c (cx h4 ()) (cx j1 ())=((Q->j6)/\(b5->d)):=by rw[T2];subst o p;exact propext ⟨λb=>⟨λa=>(h a).mp (b.1 a),λa=>(k a).mp (b.2 a)⟩,λb=>⟨λa=>(h a).mpr (b.1 a),λa=>(k a).mpr (b.2 a)⟩⟩
def aH (a:j1->b5) (b:j6->h4) (c:Q=((j1->b5)/\(j6->h4)):=by first|exact X4|exact X5):Q:=c.mpr ⟨a,b⟩
def Cp (a:Q:=by first|assumption|(simp only[decide_eq_true_eq,decide_eq_false_iff_not,a6n,Bool.not_eq_false',Decidable.not_not]<;>omega)):Q:=a
def X6 (a:I=true:=by exact Cp) (b:Q=b5:=by exact eF):kv (.v (.bool I)) (cx Q ()) (cx h4 ())=b5:=by subst a;exact Bu.trans b
def X7 (a:I=false:=by exact Cp) (b:Q=b5:=by exact eF):kv (.v (.bool I)) (cx h4 ()) (cx Q ())=b5:=by subst a;exact Bv.trans b
def iB (a:b5) (b:Q=b5:=by first|exact X6|exact X7|exact a4A|exact a4B):Q:=b.mpr a
end
theorem eU {a:List b0}{b:b0} (c:e<a.length):a.take (e+1)=a.take e++ [a.getD e b]:=by simp_all
abbrev fy (a b:U) (c:List UInt8) (d:R):Prop:=ar a b 1 (c.map ak) d
def o5 (b:U) (c:R) (a:List UInt8):Prop:=bN b 1 c=some (a.length,a.map ak)
theorem o5.J {s:U}{a:List UInt8}{o:Own}:o5 s (.J (a.map ak) o) a:=by have b:=C7 (f:=s) (B:=a) (N:=o);exact b
def fy.lZ (b:fy t f B n):o5 f n B:=by obtain⟨d,a,c,_⟩:=b.src;simp only[a4V,a5v]at a;subst a;exact c
def ar.sub {a b:U}{c:Nat}{d:List R}{h:R} (k:ar a b c d h):a.sub b:=k.1
section
def Cq {d:List UInt8} (c:fy t f B n) (h:o5 f b3 d) (k: ∀b a,fy t a (B++d) b->t.sub a->a7 b a) (p:B.length+d.length<=100000000000:=by(try simp only[a4L,a4O,a4T,a4V, *])<;>omega)
  (o: ∀b a,fy t a (B++d) b->t.sub a->s b a=a7 b a:=by intro b f c r;exact eF):jL 1 1 f n b3 (bP s ()):=
 fk c a9r h a9s a9t a9t λb a c=>by rw[<-a5P]at c;exact(o b a c c.sub).mpr (k b a c c.sub)
def mW {c:List UInt8} (d:fy t e7 B n) (h:fy e7 f c b3) (k: ∀b a,fy t a (B++c) b->t.sub a->a7 b a) (o:B.length+c.length<=100000000000:=by(try simp only[a4L,a4O,a4T,a4V, *])<;>omega)
  (p: ∀b a,fy t a (B++c) b->t.sub a->s b a=a7 b a:=by intro b f d r;exact eF):jL 1 1 f n b3 (bP s ()):=Cq (d.mono h.sub) h.lZ k o p
def u1 (c:List UInt8) (o: ∀b a,fy f a c b->f.sub a->a7 b a) (z:g=c.map ak:=by first|rfl|simp) (p:g.length<=1000000000000:=by(try simp only[a4L,a4O,a4T,a4V, *])<;>omega)
  (r: ∀b a,fy f a c b->f.sub a->s b a=a7 b a:=by intro b f d E;exact eF):nW 1 f g (bP s ()):=by
 have h: ∀b a,fy f a c b->s b a:=λb a d=>(r b a d d.sub).mpr (o b a d d.sub);subst z;rw[a4V]at p;by_cases k:c= []
 .subst k;rw[a6A,nX];exact h _ _ (ar.zero U.a1)
 .refine eT (by intro F C;obtain⟨_,_,rfl⟩:=a5f.1 C;rfl) (by simpa using k) λD x=>h _ _ ?_;have y:flat (c.map ak)=c.map ak:=by
   clear h o r k p
   induction c with
   |nil=>rfl
   |cons G c ih=>simp only[a5j,flat,a5n]at ih|-;rw[ih];rfl
  refine⟨U.ae U.a1 x,.inr ⟨D,c.length,c.length,_,a9s,x,U.ah _ _ _,?_,?_,a9s,a9r,by simp only[maxLen];omega⟩⟩
  .rw[y];simp
  .rw[y,a4K a9s]
def hS {d:R->U->Prop} (c:AC K.p b4 g f s) (h: ∀a b,s a b->d a b) (k: ∀a b,s a b->a7 a b=d a b:=by intro a f c;exact eF):nU K b4 g f (bP a7 ()):=ai c λa b c=>(k a b c).mpr (h a b c)
end
section
def x6 {c:Nat->Prop}{x y:bq} (z: ∀a,f a=none->a≠e->e≠a->a≠i->i≠a->a≠v->v≠a->c a) (C: ∀a,f a=none->a≠e->e≠a->a≠i->i≠a->a≠v->v≠a->j5 a=c a:=by intros;exact eF):iZ (((f.set e Y).set i x).set v y) (c4 j5 ()):=λa b=>by
 obtain⟨b,d,h⟩:=U.set_nil b;obtain⟨b,k,o⟩:=U.set_nil b;obtain⟨b,p,r⟩:=U.set_nil b;exact(C a b p r k o d h).mpr (z a b p r k o d h)
def X8 {c:Nat->Prop}{z C D:bq} (E: ∀a,f a=none->a≠e->e≠a->a≠i->i≠a->a≠v->v≠a->a≠M->M≠a->c a) (F: ∀a,f a=none->a≠e->e≠a->a≠i->i≠a->a≠v->v≠a->a≠M->M≠a->j5 a=c a:=by intros;exact eF):iZ ((((f.set e Y).set i z).set v C).set M D) (c4 j5 ()):=λa b=>by
 obtain⟨b,d,h⟩:=U.set_nil b;obtain⟨b,k,o⟩:=U.set_nil b;obtain⟨b,p,r⟩:=U.set_nil b;obtain⟨b,x,y⟩:=U.set_nil b;exact(F a b x y p r k o d h).mpr (E a b x y p r k o d h)
def jN {v:R} (c: ∀a,f a=none->j5 a) (d:aN e (v::g):=by simp[aN,R.cells, *]) (h: ∀a,f a=none->s (.J (v::g) (.buf a (v::g).length)) (f.set a (.buf e (v::g).length (v::g).length))=j5 a:=by intros;exact eF):jK e f (v::g) (bP s ()):=by refine⟨d,?_⟩;rw[if_neg a9s];intro a b;exact(h a b).mpr (c a b)
def X9 {v:R} (h: ∀a,f a=none->a≠e->e≠a->j5 a) (k:aN i (v::g):=by simp[aN,R.cells, *]) (o: ∀a,f a=none->a≠e->e≠a->s (.J (v::g) (.buf a (v::g).length)) ((f.set e Y).set a (.buf i (v::g).length (v::g).length))=j5 a:=by intros;exact eF):jK i (f.set e Y) (v::g) (bP s ()):=by refine⟨k,?_⟩;rw[if_neg a9s];intro a b;obtain⟨b,c,d⟩:=U.set_nil b;exact(o a b c d).mpr (h a b c d)
def u2 {v:R}{c:bq} (p: ∀a,f a=none->a≠e->e≠a->a≠i->i≠a->j5 a) (r:aN M (v::g):=by simp[aN,R.cells, *]) (x: ∀a,f a=none->a≠e->e≠a->a≠i->i≠a->s (.J (v::g) (.buf a (v::g).length)) (((f.set e Y).set i c).set a (.buf M (v::g).length (v::g).length))=j5 a:=by intros;exact eF):jK M ((f.set e Y).set i c) (v::g) (bP s ()):=by refine⟨r,?_⟩;rw[if_neg a9s];intro a b;obtain⟨b,d,h⟩:=U.set_nil b;obtain⟨b,k,o⟩:=U.set_nil b;exact(x a b k o d h).mpr (p a b k o d h)
def Xa {c:Nat}{v:R}{d h k o:bq} (L: ∀a,f a=none->a≠e->e≠a->a≠i->i≠a->a≠M->M≠a->a≠c0->c0≠a->a≠j0->j0≠a->j5 a) (P:aN c (v::g):=by simp[aN,R.cells, *]) (S: ∀a,f a=none->a≠e->e≠a->a≠i->i≠a->a≠M->M≠a->a≠c0->c0≠a->a≠j0->j0≠a->s (.J (v::g) (.buf a (v::g).length)) ((((((f.set e Y).set i d).set M h).set c0 k).set j0 o).set a (.buf c (v::g).length (v::g).length))=j5 a:=by intros;exact eF):jK c (((((f.set e Y).set i d).set M h).set c0 k).set j0 o) (v::g) (bP s ()):=by refine⟨P,?_⟩;rw[if_neg a9s];intro a b;obtain⟨b,p,r⟩:=U.set_nil b;obtain⟨b,x,y⟩:=U.set_nil b;obtain⟨b,z,C⟩:=U.set_nil b;obtain⟨b,D,E⟩:=U.set_nil b;obtain⟨b,F,G⟩:=U.set_nil b;exact(S a b F G D E z C x y p r).mpr (L a b F G D E z C x y p r)
def Xb {d:Nat}{v:R}{c:Nat}{h k o p r:bq} (V: ∀a,f a=none->a≠e->e≠a->a≠i->i≠a->a≠M->M≠a->a≠c0->c0≠a->a≠j0->j0≠a->a≠c->c≠a->j5 a) (W:aN d (v::g):=by simp[aN,R.cells, *]) (j: ∀a,f a=none->a≠e->e≠a->a≠i->i≠a->a≠M->M≠a->a≠c0->c0≠a->a≠j0->j0≠a->a≠c->c≠a->s (.J (v::g) (.buf a (v::g).length)) (((((((f.set e Y).set i h).set M k).set c0 o).set j0 p).set c r).set a (.buf d (v::g).length (v::g).length))=j5 a:=by intros;exact eF):jK d ((((((f.set e Y).set i h).set M k).set c0 o).set j0 p).set c r) (v::g) (bP s ()):=by refine⟨W,?_⟩;rw[if_neg a9s];intro a b;obtain⟨b,x,y⟩:=U.set_nil b;obtain⟨b,z,C⟩:=U.set_nil b;obtain⟨b,D,E⟩:=U.set_nil b;obtain⟨b,F,G⟩:=U.set_nil b;obtain⟨b,L,P⟩:=U.set_nil b;obtain⟨b,S,T⟩:=U.set_nil b;exact(j a b S T L P F G D E z C x y).mpr (V a b S T L P F G D E z C x y)
def ma (a:AC K.p b4 (g++e1++A) f λb c=>c=f/\b=n) (d:Q) (h:gl K.p b4=true:=by kernel_rfl) (k:s n f=Q:=by exact eF):wU K (.bH b4 g A) e1 f (bP s ()):=
 fJ h a λ_ _ a=>by rw[a.1,a.2];exact k.mpr d
end
section
theorem x7 {r:dN}{h:Fr}{k:List Nat}{x:b0->List (Nat×R)}{y:b0->U->Prop} (z: ∀c∈wr h7,c∈k) (D:hp k h j) (o:List Nat) (V:o.all (λc=> !k.contains c)=true)
  (E:bU K h7 (eS (λa b=> ∃C,y C b/\gO a (x C)) e8) j f) (F: ∀d b,y d b-> ∀a,bU K r e8 (gY (gY a (keeps h o)) (x d)) b):bU K h7 (eS (bU K r e8) e8) j f:=by
 refine jc h7 (λG a b p=> ?_) j f (o2 h7 z j f D E);cases G with
 |norm=>
  obtain⟨⟨d,L,P⟩,S⟩:=p;have T:gO a (keeps h o):=x4 λc W=>S c λz=>by
   simp_all
  have:=F d b L a;rw[sf T,sf P]at this;exact this
 |exit e=>exact p.1
 |ret=>exact p.1
def pb {h:dN} (b:List Nat) (k:b0->List (Nat×R)) (o:b0->U->Prop)
  (x:bU K h7 (eS (λc a=> ∃p,o p a/\gO c (k p)) e8) j f) (d: ∀r a,o r a-> ∀c,bU K h e8 (gY (gY c (keeps j b)) (k r)) a) (y:b.all (λz=> !(wr h7).contains z)=true:=by kernel_rfl):bU K (.seq h7 h) e8 j f:=
 x7 (k:=wr h7) (λ_ d=>d) (λ_ _=>rfl) b y x d
def o6 {h k:dN}{z:cD (bU K h (eS (bU K h7 e8) e8) j f)}{C:cD (bU K k (eS (bU K h7 e8) e8) j f)} (o:List Nat) (p:b0->List (Nat×R)) (r:b0->U->Prop)
  (D:I=true->bU K h (eS (λc a=> ∃d,r d a/\gO c (p d)) e8) j f) (E:I=false->bU K k (eS (λc a=> ∃d,r d a/\gO c (p d)) e8) j f) (b: ∀x a,r x a-> ∀c,bU K h7 e8 (gY (gY c (keeps j o)) (p x)) a) (y:o.all (λI=> !(wr h++wr k).contains I)=true:=by kernel_rfl):
  kv (.v (.bool I)) (cx (bU K h (eS (bU K h7 e8) e8) j f) z) (cx (bU K k (eS (bU K h7 e8) e8) j f) C):=
 ⟨λh7=>x7 (λ_ b=>a7b _ b) (λ_ _=>rfl) o y (D h7) b,λh7=>x7 (λ_ b=>a6X _ b) (λ_ _=>rfl) o y (E h7) b⟩
end
def Cr (a:Q=b5:=by first|(simp -dsimp -implicitDefEqProofs (disch:=first|omega|assumption|exact U.tV a9u a9u|(simp only[aE,Nat.reduceAdd];try omega)) only[X0,nX,go_sem,simprocAttr,-List.reduceReplicate,↓eM,tW,tU, *]<;>rfl)|rfl):Q=b5:=a
def pc (a:e<=i:=by first|omega|((try simp only[a4L,a4O,a4T,a4V,a4N,a4X, *])<;>omega)):e<=i:=a
def rd (a:f.sub t) (b:f e=some (.cells g)):t.read e=some g:=U.af (a _ _ b)
theorem Cs {v:R} (b:aN e g) (h:v.cells.length=e):aN e (g++ [v]):=λc d=>by
 rcases a5c.1 d with a|a
 .exact b c a
 grind
def Ct:aN e []:=λ_ a=>by cases a
theorem bj.o7 (r:bj t f e g N): ∃h:U,bj h f e g N/\h.sub f/\t.sub h/\ ∀a,(∀b o,N= .buf b o->b≠a)->h a=f a:=by
 obtain⟨k,d⟩:=r;cases N with
 |buf b o=>
  have p:(f.del b).sub f:=λa N c=>by
   grind[U.iu,U.eJ]
  refine⟨f.del b,⟨p,U.iu _ _,d.2⟩,p,λa N c=> ?_,λa c=>U.eJ _ (a4S (c _ _ rfl))⟩;have x:a≠b:=by rintro rfl;rw[d.1]at c;cases c
  rw[U.eJ _ x];exact k _ _ c
 |any=>exact d.elim
 |nil=>exact⟨f,⟨U.a1,d⟩,U.a1,k,λ_ _=>rfl⟩
 |zero=>exact⟨f,⟨U.a1,d⟩,U.a1,k,λ_ _=>rfl⟩
def qB {k:cD s} (d:bj t f e g N) (o:aN e g) (p:aN e A) (r:(g.length+A.length)*i<=140737488355328) (x:g.length+A.length<=9223372036854775807)
  (y: ∀b a,bj t a e (g++A) b->iA f a->s (.J (g++A) b) a):lX e i f (.J g N) (.J A e5) (bP s k):=by
 obtain⟨G,z,L,C,D⟩:=d.o7;refine dq z o p r x λb a h=>y b a (h.base C) λE P c=>h.sub _ _ ?_;rw[D E (λS T F=>by subst F;rintro rfl;rw[d.2.2]at c;cases c)];exact c
section
def o8 {v:R}{k:Nat->R->U->Prop}{o:Nat->Own->U->Prop} (p:bj t f e g N) (y:aN e g) (z: ∀a c b,bj t b e (g++ [v]) c->iA f b->o a c b)
  (C:Q=jK e f [v] (bP s ()):=by exact hR)
  (D: ∀a,f a=none->s (.J [v] (.buf a 1)) (f.set a (.buf e 1 1))=lX e i (f.set a (.buf e 1 1)) (.J g N) (.J [v] (.buf a 1)) (bP (k a) ()):=by intro a d;exact eF)
  (E: ∀a c b,bj t b e (g++ [v]) c->k a (.J (g++ [v]) c) b=o a c b:=by intro a c b p;exact hR)
  (r:v.cells.length=e:=by first|rfl|assumption|simp[R.cells, *]) (P:g.length<=1000000000:=by exact pc) (F:i<=10000:=by decide):Q:=by
 rw[C];refine⟨λG h=>by rw[a4Z.1 h];exact r,?_⟩;rw[if_neg a9s];intro a d;refine(D a d).mpr (qB (p.mono (U.ae U.a1 d)) y (λG h=>by rw[a4Z.1 h];exact r) ?_ ?_ λc b x L=>(E a c b x).mpr (z a c b x ((U.o4 (U.ae U.a1 d)).trans L)))
 .exact a5J (a8o (show g.length+1<=1000000001 by omega) F) a9v
 .simp;omega
def Xc:aN 1 (B.map ak):=λb a=>by obtain⟨_,_,rfl⟩:=a5f.1 a;rfl
def Xd {d:UInt8}{o:Nat->R->U->Prop}{k:Nat->Own->U->Prop} (p:bj t f 1 (B.map ak) N) (x: ∀a c b,bj t b 1 ((B++ [d]).map ak) c->iA f b->k a c b)
  (y:Q=jK 1 f [ak d] (bP s ()):=by exact hR)
  (z: ∀a,f a=none->s (.J [ak d] (.buf a 1)) (f.set a (.buf 1 1 1))=lX 1 e (f.set a (.buf 1 1 1)) (.J (B.map ak) N) (.J [ak d] (.buf a 1)) (bP (o a) ()):=by intro a G;exact eF)
  (C: ∀a c b,bj t b 1 ((B++ [d]).map ak) c->o a (.J ((B++ [d]).map ak) c) b=k a c b:=by intro a c b p;exact hR)
  (D:B.length<=1000000000:=by exact pc) (E:e<=10000:=by decide):Q:=by
 have r:B.map ak++ [ak d]=(B++ [d]).map ak:=by rw[a5P];rfl
 refine o8 (o:=k) p Xc (λa c b h F=>x a c b (r▸h) F) y z (λa c b h=> ?_) rfl (by rw[a4V];exact D) E;rw[r]at h|-;exact C a c b h
def kA {c:Own->U->Prop} (d:bj t f e g N) (k:aN e g) (o:aN e A) (p: ∀b a,bj t a e (g++A) b->iA f a->c b a)
  (r:Q=lX e i f (.J g N) (.J A e5) (bP s ()):=by exact hR) (x: ∀b a,bj t a e (g++A) b->s (.J (g++A) b) a=c b a:=by intro b a d;exact hR)
  (y:g.length+A.length<=1000000000:=by exact pc) (z:i<=10000:=by decide):Q:=by
 rw[r];refine qB d k o (a5J (a8o y z) a9v) a9r λb a h C=>(x b a h).mpr (p b a h C)
def si {c:Own->U->Prop} (h:aN e g) (k: ∀a b,bj f b e g a->c a b)
  (o:Q=lX e i f (.J [] N) (.J g e5) (bP s ()):=by exact Cr) (p:N= .nil\/N= .zero:=by first|exact .inl rfl|exact .inr rfl) (r: ∀a b,bj f b e g a->s (.J g a) b=c a b:=by intro a b d;exact hR)
  (x:g.length<=1000000000:=by exact pc) (y:i<=10000:=by decide):Q:=
 kA (t:=f) (c:=c) (by rcases p with rfl|rfl;exact bj.nil U.a1;exact bj.zero U.a1) Ct h (λa b d _=>k a b d) o r (by simpa using x) y
def qC (c:ar t f e A n) (k:bN f e b3=some (v,g)) (o: ∀a b,ar t b e (A++g) a->a7 a b)
  (p:Q=jL e i f n b3 (bP s ()):=by exact hR) (r: ∀a b,ar t b e (A++g) a->s a b=a7 a b:=by intro a b c;exact hR)
  (d:0<e:=by decide) (x:g.length=v*e:=by first|rfl|omega|simp) (y:A.length+g.length<=1000000000:=by exact pc) (z:i<=10000:=by decide):Q:=by
 rw[p];refine fk c d k x (a5J (a8o y z) (a5J a9v (a8K _ d))) a9r λa b h=>(r a b h).mpr (o a b h)
def u3 (c:bN f e n=some (v,g)) (d: ∀a b,ar f b e g a->a7 a b)
  (h:Q=jL e i f (.J [] N) n (bP s ()):=by exact Cr) (k:N= .nil\/N= .zero:=by first|exact .inl rfl|exact .inr rfl) (o: ∀a b,ar f b e g a->s a b=a7 a b:=by intro a b z;exact hR)
  (p:0<e:=by decide) (r:g.length=v*e:=by first|rfl|omega|simp) (x:g.length<=1000000000:=by exact pc) (y:i<=10000:=by decide):Q:=
 qC (A:= []) (t:=f) (by rcases k with rfl|rfl;exact ar.nil U.a1;exact ar.zero U.a1) c d h o p r (by simpa using x) y
def Xe {v:R}{h k:Nat->R->U->Prop} (o:ar t f 1 g n) (r: ∀a b c,ar t c 1 (g++ [v]) b->h a b c) (x:Q=nW 1 f [v] (bP s ()):=by exact hR)
  (y: ∀a,f a=none->s (.al a 1 1 1) (f.set a (.cells [v]))=jL 1 e (f.set a (.cells [v])) n (.al a 1 1 1) (bP (k a) ()):=by intro a d;exact eF)
  (z: ∀a b c,ar t c 1 (g++ [v]) b->k a b c=h a b c:=by intro a b c o;exact hR) (p:v.cells= [v]:=by first|rfl|assumption) (C:g.length+1<=1000000000:=by exact pc) (D:e<=10000:=by decide):Q:=by
 have E:flat [v]= [v]:=by simp[flat,p]
 rw[x];refine eT (λG F=>by rw[a4Z.1 F,p];rfl) a9s λa d=> ?_;rw[E];refine(y a d).mpr (qC (o.mono (U.ae U.a1 d)) (v:=1) (g:= [v]) ?_ (r a) rfl (z a) a9v rfl C D);simp[bN,U.read,U.set]
end
end Go.bB
set_option maxRecDepth 100000
namespace Go.Proofs.YtlgnfcaolejgeaaGreat
open Go Go.bB
def rotl (a:UInt32) (b:Nat):UInt32:=a<<<UInt32.ofNat b|||a>>>UInt32.ofNat (32 - b)
def Xf (a:Nat) (b:0<a/\a<32):bo .and (.int .u64 (IntKind.u64.wrap (-((32 - a:Nat):Int)))) (.int .u64 31)=some (.int .u64 a):=by have c: ∀a:Fin 32,0<a.val->IntKind.u64.wrap (BitVec.ofInt IntKind.u64.bits (IntKind.u64.wrap (-((32 - a.val:Nat):Int)))&&&BitVec.ofInt IntKind.u64.bits 31).toNat=(a.val:Int):=a9v;have:=c ⟨a,b.2⟩ b.1;simp only[bo,eL,gk,this];rfl
theorem Xg (c:UInt32) (a:Nat) (d:0<a/\a<32) (b:U):AC Tryz.prog 323 [.v (.int .u32 c.toNat),.v (.int .i64 (-((32 - a:Nat):Int)))] b λh k=>k=b/\h= .v (.int .u32 (rotl c a).toNat):=by refine bf hm S0 a9s ?_;refine aF (Xf a d) ?_;refine⟨b,U.a1,rfl,?_⟩;grind[rotl]
def mb (b:UInt32) (d:Int) (a:Nat) (h:0<a/\a<32) (k:d= -((32 - a:Nat):Int)) (c:U):AC Tryz.prog 323 [.v (.int .u32 b.toNat),.v (.int .i64 d)] c λo p=>p=c/\o= .v (.int .u32 (rotl b a).toNat):=by subst k;exact Xg b a h c
def word (a:List UInt8) (b:Nat):UInt32:=(a.getD (4*b) 0).toUInt32<<<24|||(a.getD (4*b+1) 0).toUInt32<<<16|||(a.getD (4*b+2) 0).toUInt32<<<8|||(a.getD (4*b+3) 0).toUInt32
def Xh (a:UInt32):UInt32:=rotl a 25^^^rotl a 14^^^a>>>3
def Xi (a:UInt32):UInt32:=rotl a 15^^^rotl a 13^^^a>>>10
def more (a:List UInt32):List UInt32:=a++ [a.getD (a.length - 16) 0+Xh (a.getD (a.length - 15) 0)+a.getD (a.length - 7) 0+Xi (a.getD (a.length - 2) 0)]
def first (a:List UInt8) (b:Nat):List UInt32:=(List.range b).map (word a)
def grow:Nat->List UInt32->List UInt32
 |0,a=>a
 |b+1,a=>grow b (more a)
def sched (a:List UInt8):List UInt32:=grow 48 (first a 16)
def eh (a:List UInt32):List R:=a.map (λb=> .v (.int .u32 b.toNat))++List.replicate (64 - a.length) (.v (.int .u32 0))
def Xj:eh []=List.replicate 64 (.v (.int .u32 0)):=by simp[eh]
variable{h6:List UInt32}
def sj (a:h6.length<=64):(eh h6).length=64:=by simp[eh];omega
variable{e i v M c0 j0:Nat}
theorem x8 (a:UInt32) (b:e=h6.length) (d:h6.length<64):putAt (eh h6) e [.v (.int .u32 a.toNat)]=eh (h6++ [a]):=by subst b;have c:64 - h6.length=(64 -(h6.length+1))+1:=a9r;simp only[putAt,eh,c,a6Q];grind
theorem ll (a:e<h6.length):aY false 1 ((eh h6).drop e)= .v (.int .u32 (h6.getD e 0).toNat):=by grind[aY,eh,List.map_drop,List.drop_eq_getElem_cons,List.getD]
theorem Xk (c:List UInt8) (V:Own) (i:c.length=64) (D:U):AC Tryz.prog 321 [.J (c.map ak) V] D λj r=>r=D/\j= .agg ((sched c).map λP=> .v (.int .u32 P.toNat)):=by
 refine bf hm RW a9s ?_;refine eE ?_;refine aP λF l=> ?_;refine eE ?_;refine aP λG S=> ?_;obtain⟨s,S⟩:=U.gN S;refine eE ?_;refine cv (λb r=> ∃a:Nat,a<=16/\b 0= .J (c.map ak) V/\b 2= .ptr F 0/\b 3= .ptr G 0/\b 10= .v (.int .i64 a)/\r=(D.set F (.cells (List.replicate 64 (.v (.int .u32 0))))).set G (.cells (eh (first c a))))
  (λb _=>match b 10 with| .v (.int _ T)=>(16 - T).toNat| _=>0) ⟨0,a9r,?_⟩ ?_
 .simp -dsimp -implicitDefEqProofs (disch:=first|omega|assumption|(simp only[aE,Nat.reduceAdd];try omega)) only[go_sem,↓reduceIte,Nat.reduceEqDiff,Nat.reduceAdd,Nat.reduceSub,Nat.reduceMul,Nat.reduceLeDiff,Nat.reduceLT,Int.reduceNeg,Int.reduceToNat,Int.reduceAdd,Int.reduceSub,Int.reduceMul,Int.reduceLT,Int.reduceLE,Int.reduceEq,Int.reduceNe,first,List.range_zero,Xj]
  all_goals (simp)
 .rintro b r ⟨a,m,W,d,h,e,rfl⟩;have f:(first c a).length=a:=by simp[first]
  by_cases k:(a:Int)<16
  .have o:(eh (first c a)).length=64:=sj a9r;have n:(4*(a:Int)).toNat=4*a:=a9r;have x:(4*(a:Int)+1).toNat=4*a+1:=a9r;have y:(4*(a:Int)+2).toNat=4*a+2:=a9r;have z:(4*(a:Int)+3).toNat=4*a+3:=a9r;have t:(a:Int).toNat+1<=64:=a9r;refine aF (iz @W @d @h @e @k @o @i @n @x @y @z) ?_;rw[x8 _ f.symm a9r];refine⟨⟨a+1,a9r,a9s,?_⟩,a9r⟩;simp only[first,a8P,a5P,a5j,a6A];rfl
  .obtain rfl:a=16:=a9r;refine aF (bp @W @d @h @e @k) ?_;refine cv (λb r=> ∃(p:List UInt32) (a:Nat),a<=48/\p.length=16+a/\grow (48 - a) p=sched c/\b 2= .ptr F 0/\b 3= .ptr G 0/\b 5= .v (.int .i64 ((16+a:Nat):Int))/\r=(D.set F (.cells (List.replicate 64 (.v (.int .u32 0))))).set G (.cells (eh p)))
    (λb _=>match b 5 with| .v (.int _ T)=>(64 - T).toNat| _=>0) ⟨first c 16,0,a9r,f,rfl,?_⟩ ?_
   .simp -dsimp -implicitDefEqProofs (disch:=first|omega|assumption|(simp only[aE,Nat.reduceAdd];try omega)) only[go_sem,↓reduceIte,Nat.reduceEqDiff,Nat.reduceAdd,Nat.reduceSub,Nat.reduceMul,Nat.reduceLeDiff,Nat.reduceLT,Int.reduceNeg,Int.reduceToNat,Int.reduceAdd,Int.reduceSub,Int.reduceMul,Int.reduceLT,Int.reduceLE,Int.reduceEq,Int.reduceNe,d,h,grow];rfl
   .rintro b r ⟨p,a,m,L,g,d,h,C,rfl⟩;by_cases k:((16+a:Nat):Int)<64
    .have o:(eh p).length=64:=sj a9r;have x:(((16+a:Nat):Int) - 15).toNat=a+1:=a9r;have y:(((16+a:Nat):Int) - 2).toNat=a+14:=a9r;have z:(((16+a:Nat):Int) - 16).toNat=a:=a9r;have E:(((16+a:Nat):Int) - 7).toNat=a+9:=a9r;refine aF (cu @d @h @C @k @x @y @z @E @o @ll) ?_;refine ai (mb _ _ 25 a9v a9v _) ?_;rintro _ _ ⟨rfl,rfl⟩;refine aF (cu @d @h @C @k @x @y @z @E @o @ll) ?_;refine ai (mb _ _ 14 a9v a9v _) ?_;rintro _ _ ⟨rfl,rfl⟩;refine aF (cu @d @h @C @k @x @y @z @E @o @ll) ?_;refine ai (mb _ _ 15 a9v a9v _) ?_;rintro _ _ ⟨rfl,rfl⟩;refine aF (cu @d @h @C @k @x @y @z @E @o @ll) ?_;refine ai (mb _ _ 13 a9v a9v _) ?_;rintro _ _ ⟨rfl,rfl⟩;refine aF (cu @d @h @C @k @x @y @z @E @o @ll) ?_;rw[x8 _ L.symm a9r];refine⟨⟨_,a+1,a9r,by simp[L];omega,?_,?_,rfl⟩,a9r⟩
     .rw[<-g,show 48 - a=(48 -(a+1))+1 by omega,grow,more,L];rw[show 16+a - 16=a by omega,show 16+a - 15=a+1 by omega,show 16+a - 7=a+9 by omega,show 16+a - 2=a+14 by omega];rfl
     .simp;omega
    .obtain rfl:a=48:=a9r;have o:(eh p).length=64:=sj a9r;have q:(eh p).take 64=p.map λP=> .v (.int .u32 P.toNat):=by grind[eh,List.take_of_length_le]
     have u:p=sched c:=g;refine aF (cd @d @h @C @k @o @q @L) ?_;exact⟨D,U.ae (U.ae U.a1 l) S,rfl,by grind⟩
def wl (a:List UInt32):List R:=a.map λb=> .v (.int .u32 b.toNat)
theorem eN:(wl h6).length=h6.length:=by simp[wl]
theorem hr (a:e<h6.length):aY false 1 ((wl h6).drop e)= .v (.int .u32 (h6.getD e 0).toNat):=by simp only[aY,wl];simp_all
def pd (a:0<h6.length):aY false 1 (wl h6)= .v (.int .u32 (h6.getD 0 0).toNat):=hr (e:=0) a
def Cu (a:UInt32) (b:e<h6.length):putAt (wl h6) e [.v (.int .u32 a.toNat)]=wl (h6.set e a):=by simp only[putAt,wl,a4O,a4T,<-a7K,<-a7w];rw[a6d,if_pos b];simp
def mX:List UInt32:= [
 0x428a2f98,0x71374491,0xb5c0fbcf,0xe9b5dba5,0x3956c25b,0x59f111f1,0x923f82a4,0xab1c5ed5,
 0xd807aa98,0x12835b01,0x243185be,0x550c7dc3,0x72be5d74,0x80deb1fe,0x9bdc06a7,0xc19bf174,
 0xe49b69c1,0xefbe4786,0x0fc19dc6,0x240ca1cc,0x2de92c6f,0x4a7484aa,0x5cb0a9dc,0x76f988da,
 0x983e5152,0xa831c66d,0xb00327c8,0xbf597fc7,0xc6e00bf3,0xd5a79147,0x06ca6351,0x14292967,
 0x27b70a85,0x2e1b2138,0x4d2c6dfc,0x53380d13,0x650a7354,0x766a0abb,0x81c2c92e,0x92722c85,
 0xa2bfe8a1,0xa81a664b,0xc24b8b70,0xc76c51a3,0xd192e819,0xd6990624,0xf40e3585,0x106aa070,
 0x19a4c116,0x1e376c08,0x2748774c,0x34b0bcb5,0x391c0cb3,0x4ed8aa4a,0x5b9cca4f,0x682e6ff3,
 0x748f82ee,0x78a5636f,0x84c87814,0x8cc70208,0x90befffa,0xa4506ceb,0xbef9a3f7,0xc67178f2]
def gq:List UInt32:= [0x6a09e667,0xbb67ae85,0x3c6ef372,0xa54ff53a,0x510e527f,0x9b05688c,0x1f83d9ab,0x5be0cd19]
def x9 (a:U):AC Tryz.prog 270 [] a λb c=>c=a/\b= .agg (wl gq):=by refine bf hm QT a9s ?_;refine eE ?_;refine aP λh d=> ?_;simp -dsimp -implicitDefEqProofs (disch:=first|omega|assumption|(simp only[aE,Nat.reduceAdd];try omega)) only[go_sem,simprocAttr,putAt,List.take,List.drop,List.replicate,a5K,a5d];exact⟨a,U.ae U.a1 d,rfl,rfl⟩
def Xl (a:U):AC Tryz.prog 322 [] a λb c=>c=a/\b= .agg (wl mX):=by refine bf hm RY a9s ?_;refine eE ?_;refine aP λh d=> ?_;simp -dsimp -implicitDefEqProofs (disch:=first|omega|assumption|(simp only[aE,Nat.reduceAdd];try omega)) only[go_sem,simprocAttr,putAt,List.take,List.drop,List.replicate,a5K,a5d];exact⟨a,U.ae U.a1 d,rfl,rfl⟩
def sk (p r:UInt32):List UInt32->List UInt32
 | [a,c,d,x,b,h,k,y]=>
  let o:=y+(rotl b 26^^^rotl b 21^^^rotl b 7)+(b&&&h^^^ ~~~b&&&k)+p+r
  let z:=(rotl a 30^^^rotl a 19^^^rotl a 10)+(a&&&c^^^a&&&d^^^c&&&d)
  [o+z,a,c,d,x+o,b,h,k]
 |C=>C
def hs:List UInt32->List UInt32->List UInt32->List UInt32
 |a::bJ,b::ws,v=>hs bJ ws (sk a b v)
 | _,_,v=>v
def comp (a:List UInt32) (b:List UInt8):List UInt32:=List.zipWith (·+ ·) (hs mX (sched b) a) a
def jO (a:Nat) (v b:List UInt32):List UInt32:=List.zipWith (·+ ·) (v.take a) (b.take a)++v.drop a
def Cv: ∀(a:Nat) (b:List UInt32),(grow a b).length=b.length+a
 |0,b=>rfl
 |a+1,b=>by rw[grow,Cv a,more];simp;omega
def Xm (a:List UInt8):(sched a).length=64:=by simp[sched,Cv,first]
def Xn (a:List UInt8) (c:Own) (d:a.length=64) (b:U):AC Tryz.prog 321 [.J (a.map ak) c] b λh k=>k=b/\h= .agg (wl (sched a)):=Xk a c d b
def Cw (v b:List UInt32) (c:v.length=8) (d:b.length=8) (a:Nat) (h:a<8):
  (jO a v b).length=8/\(jO a v b).set a ((jO a v b).getD a 0+b.getD a 0)=jO (a+1) v b:=by
 match v,c,b,d with
 | [k,o,p,r,x,y,z,C],_,[D,E,F,G,L,P,S,T],_=>rcases(by omega:a=0\/a=1\/a=2\/a=3\/a=4\/a=5\/a=6\/a=7)with rfl|rfl|rfl|rfl|rfl|rfl|rfl|rfl<;>exact⟨rfl,rfl⟩
def Xo (a b:UInt32) (v:List UInt32) (c:v.length=8):(sk a b v).length=8:=by
 match v,c with
 | [d,h,k,o,p,r,x,a],_=>rfl
def Cx: ∀(b c v:List UInt32),v.length=8->(hs b c v).length=8
 | [],_,v,a=>by simpa[hs] using a
 | _:: _,[],v,a=>by simpa[hs] using a
 |d::b,h::c,v,a=>by rw[hs];exact Cx b c _ (Xo d h v a)
theorem Cy (b c v:List UInt32) (a:Nat) (d:a<b.length) (h:a<c.length):hs (b.drop a) (c.drop a) v=hs (b.drop (a+1)) (c.drop (a+1)) (sk (b.getD a 0) (c.getD a 0) v):=by grind[List.drop_eq_getElem_cons,hs,List.getD]
theorem Xp (c j k:List UInt32) (b:List UInt8) (d:Own) (H:c.length=8) (e:j.length=64) (f:k.length=64)
  (i: ∀g,AC Tryz.prog 322 [] g λa h=>h=g/\a= .agg (wl j))
  (o: ∀g,AC Tryz.prog 321 [.J (b.map ak) d] g λa h=>h=g/\a= .agg (wl k)) (g:U):
  AC Tryz.prog 271 [.agg (wl c),.J (b.map ak) d] g λa h=>h=g/\a= .agg (wl (List.zipWith (·+ ·) (hs j k c) c)):=by
 refine bf hm QV a9s ?_;have l:(wl c).length=8:=by rw[eN,H]
 have m:(wl j).length=64:=by rw[eN,e]
 have n:(wl k).length=64:=by rw[eN,f]
 refine aF @l ?_;refine aP λw O=> ?_;refine aF @l ?_;refine aP λx I=> ?_;obtain⟨a,I⟩:=U.gN I;refine aF @l ?_;refine ai (o _) ?_;rintro _ _ ⟨rfl,rfl⟩;refine aF @l ?_;refine ai (i _) ?_;rintro _ _ ⟨rfl,rfl⟩;refine aF @l ?_;refine aP λK u=> ?_;obtain⟨a,u⟩:=U.gN u;obtain⟨a,u⟩:=U.gN u;refine aF @l ?_;refine aP λL t=> ?_;obtain⟨a,t⟩:=U.gN t;obtain⟨a,t⟩:=U.gN t;obtain⟨a,t⟩:=U.gN t;refine aF @l ?_;refine aP λy o=> ?_;obtain⟨a,o⟩:=U.gN o;obtain⟨a,o⟩:=U.gN o;obtain⟨a,o⟩:=U.gN o;obtain⟨a,o⟩:=U.gN o;refine aF (aM @l @m @n @a4K.{0}) ?_;refine cv (λb h=> ∃(a:Nat) (v:List UInt32),a<=64/\v.length=8/\hs (j.drop a) (k.drop a) v=hs j k c/\b 2= .ptr w 0/\b 4= .ptr x 0/\b 5= .ptr K 0/\b 6= .ptr L 0/\b 7= .ptr y 0/\b 18= .v (.int .i64 a)/\
   h=(((((g.set w (.cells (wl c))).set x (.cells (List.replicate 8 (.v (.int .u32 0))))).set K (.cells (wl k))).set L (.cells (wl j))).set y (.cells (wl v))))
  (λb _=>match b 18 with| .v (.int _ M)=>(64 - M).toNat| _=>0) ⟨0,c,a9r,H,rfl,?_⟩ ?_
 .exact qx
  all_goals (trivial)
 .rintro b h ⟨a,v,P,N,Q,d,e,p,q,f,r,rfl⟩;have s:(wl v).length=8:=by rw[eN,N]
  by_cases i:(a:Int)<64
  .obtain⟨z,A,B,C,D,E,F,G,rfl⟩: ∃z A B C D E F G,v= [z,A,B,C,D,E,F,G]:=by
    match v,N with
    | [z,A,B,C,D,E,F,G],_=>simp
   refine aF (fx @d @e @p @q @f @r @i @s @m @n @hr @pd @a5s.{0} @a5z.{0}) ?_;refine ai (mb _ _ 26 a9v a9v _) ?_;rintro _ _ ⟨rfl,rfl⟩;refine aF (fx @d @e @p @q @f @r @i @s @m @n @hr @pd @a5s.{0} @a5z.{0}) ?_;refine ai (mb _ _ 21 a9v a9v _) ?_;rintro _ _ ⟨rfl,rfl⟩;refine aF (fx @d @e @p @q @f @r @i @s @m @n @hr @pd @a5s.{0} @a5z.{0}) ?_;refine ai (mb _ _ 7 a9v a9v _) ?_;rintro _ _ ⟨rfl,rfl⟩;refine aF (fx @d @e @p @q @f @r @i @s @m @n @hr @pd @a5s.{0} @a5z.{0}) ?_;refine ai (mb _ _ 30 a9v a9v _) ?_;rintro _ _ ⟨rfl,rfl⟩;refine aF (fx @d @e @p @q @f @r @i @s @m @n @hr @pd @a5s.{0} @a5z.{0}) ?_;refine ai (mb _ _ 19 a9v a9v _) ?_;rintro _ _ ⟨rfl,rfl⟩;refine aF (fx @d @e @p @q @f @r @i @s @m @n @hr @pd @a5s.{0} @a5z.{0}) ?_;refine ai (mb _ _ 10 a9v a9v _) ?_;rintro _ _ ⟨rfl,rfl⟩;simp -dsimp -implicitDefEqProofs (disch:=first|omega|assumption|(simp only[aE,Nat.reduceAdd];try omega)) only[go_sem,↓reduceIte,Nat.reduceEqDiff,Nat.reduceAdd,Nat.reduceSub,Nat.reduceMul,Nat.reduceLeDiff,Nat.reduceLT,Int.reduceNeg,Int.reduceToNat,Int.reduceAdd,Int.reduceSub,Int.reduceMul,Int.reduceLT,Int.reduceLE,Int.reduceEq,Int.reduceNe,d,e,p,q,f,r,i,s,m,n,hr,pd,a5s,a5z,putAt,List.take,List.drop,List.replicate,a5K,a5d];refine⟨⟨a+1,sk (j.getD a 0) (k.getD a 0) [z,A,B,C,D,E,F,G],a9r,rfl,?_,a9s,rfl⟩,a9r⟩;grind[Cy]
  .obtain rfl:a=64:=a9r;have z:hs j k c=v:=by rw[<-Q,a5V a9r];rfl
   refine aF (cu @d @e @p @q @f @r @i @s @m @n) ?_;refine cv (λb h=> ∃a:Nat,a<=8/\b 2= .ptr w 0/\b 4= .ptr x 0/\b 7= .ptr y 0/\b 108= .v (.int .i64 a)/\
     h=(((((g.set w (.cells (wl c))).set x (.cells (List.replicate 8 (.v (.int .u32 0))))).set K (.cells (wl k))).set L (.cells (wl j))).set y (.cells (wl (jO a v c)))))
    (λb _=>match b 108 with| .v (.int _ M)=>(8 - M).toNat| _=>0) ⟨0,a9r,?_⟩ ?_
   .refine aF (aI @d @e @f) ?_;exact rfl
   .rintro b h ⟨a,P,d,e,f,b,rfl⟩;by_cases i:(a:Int)<8
    .obtain⟨h,j⟩:=Cw v c N H a a9r;have k:(wl (jO a v c)).length=8:=by rw[eN,h]
     refine aF (cu @d @e @f @b @i @l @k @hr @Cu @j) ?_;grind
    .obtain rfl:a=8:=a9r;have a:jO 8 v c=List.zipWith (·+ ·) v c:=by grind[jO,List.take_of_length_le,List.drop_of_length_le]
     have h:(wl (List.zipWith (·+ ·) v c)).length=8:=by rw[eN];simp;omega
     rw[a];refine aF (cd @d @e @f @b @i @h @a4K.{0}) ?_;refine⟨g,?_,rfl,by rw[z]⟩;exact U.ae (U.ae (U.ae (U.ae (U.ae U.a1 O) I) u) t) o
def Cz (b:List UInt32) (a:List UInt8) (c:Own) (h:b.length=8) (k:a.length=64) (d:U):
  AC Tryz.prog 271 [.agg (wl b),.J (a.map ak) c] d λo p=>p=d/\o= .agg (wl (comp b a)):=
 Xp b mX (sched a) a c h rfl (Xm a) Xl (Xn a c k) d
def xa (a:List UInt32) (c:List UInt8) (b:a.length=8):(comp a c).length=8:=by simp[comp,Cx _ _ _ b,b]
def bytes (a:List UInt8) (b:Own):R:= .J (a.map ak) b
def cK (a:Nat):List UInt8:= [UInt8.ofNat (a>>>56),UInt8.ofNat (a>>>48),UInt8.ofNat (a>>>40),UInt8.ofNat (a>>>32),UInt8.ofNat (a>>>24),UInt8.ofNat (a>>>16),UInt8.ofNat (a>>>8),UInt8.ofNat (a>>>0)]
def CA (b:Nat) (x:U):AC Tryz.prog 272 [.v (.int .u64 b)] x λC h=> ∃c,bj x h 1 ((cK b).map ak) c/\C= .J ((cK b).map ak) c:=by
 refine bf hm QX a9s ?_;refine eE ?_;refine cv (λd h=> ∃(a:Nat) (c:Own),a<=8/\bj x h 1 (((cK b).take a).map ak) c/\d 0= .v (.int .u64 b)/\d 3= .J (((cK b).take a).map ak) c/\d 4= .v (.int .i64 (56 - 8*(a:Int))))
  (λd _=>match d 4 with| .v (.int _ b)=>(b+8).toNat| _=>0) ⟨0,.nil,a9r,bj.V1 U.a1,?_⟩ ?_
 .refine eE ?_;exact rfl
 .rintro d h ⟨a,c,G,z,k,o,p⟩;by_cases r:(0:Int)<=56 - 8*(a:Int)
  .refine aF (bp @k @o @p @r @iy) ?_;refine s5 U.a1 λL P D=> ?_;refine aF (aM @k @o @p @r) ?_;refine wM (z.mono D.sub) (by simp[cK];omega) λE S F=> ?_;refine aF (aM @k @o @p @r) ?_;refine⟨⟨a+1,E,a9r,?_,?_⟩,a9r⟩
   .have y:(cK b).take (a+1)=(cK b).take a++ [UInt8.ofNat (b>>>(56 - 8*(a:Int)).toNat)]:=by rcases(by omega:a=0\/a=1\/a=2\/a=3\/a=4\/a=5\/a=6\/a=7)with rfl|rfl|rfl|rfl|rfl|rfl|rfl|rfl<;>rfl
    rw[y];exact F
   .have y:(cK b).take (a+1)=(cK b).take a++ [UInt8.ofNat (b>>>(56 - 8*(a:Int)).toNat)]:=by rcases(by omega:a=0\/a=1\/a=2\/a=3\/a=4\/a=5\/a=6\/a=7)with rfl|rfl|rfl|rfl|rfl|rfl|rfl|rfl<;>rfl
    refine⟨by rw[y],a9t⟩
  .obtain rfl:a=8:=a9r;refine aF (aM @k @o @p @r) ?_;exact⟨h,U.a1,c,z,rfl⟩
def pe (b:List (List UInt8×Own)):List R:=b.map λa=> .J (a.1.map ak) a.2
def chunk (a:List UInt8):List UInt8:=cK a.length++a
def preB (a:UInt8) (b:List (List UInt8)):List UInt8:=a::b.flatMap chunk
def xb (a:UInt8): ∀b:List (List UInt8),b.length<(preB a b).length
 | []=>by simp[preB]
 |d::c=>by
  have:=xb a c;simp only[preB,a4O,a5n,a4L,chunk,cK,a4T]at this|-;omega
def Xq (b:UInt8) (c:List (List UInt8×Own)) (p:Own) (S:(preB b (c.map (·.1))).length<=70368744177664) (G:U):
  AC Tryz.prog 189 [.v (.int .u8 b.toNat),.J (pe c) p] G λT r=> ∃p,bj G r 1 ((preB b (c.map (·.1))).map ak) p/\T= .J ((preB b (c.map (·.1))).map ak) p:=by
 refine bf hm OT a9s ?_;refine eE ?_;refine s5 U.a1 λV n W=> ?_;refine eE ?_;refine cv (λh r=> ∃(a k:List (List UInt8×Own)) (E:Own),c=a++k/\bj G r 1 ((preB b (a.map (·.1))).map ak) E/\h 5= .J ((preB b (a.map (·.1))).map ak) E/\h 10= .J (pe c) p/\h 11= .v (.int .i64 c.length)/\h 12= .v (.int .i64 a.length))
  (λh _=>match h 12 with| .v (.int _ e)=>(c.length - e).toNat| _=>0) ⟨[],c,V,rfl,W,?_⟩ ?_
 .refine eE ?_;exact⟨rfl,by simp[pe]⟩
 .rintro h r ⟨a,k,E,rfl,L,x,y,z,C⟩;cases k with
  |nil=>have o: ¬(a.length:Int)<((a++ []).length:Nat):=a9s;refine aF (bp @x @y @z @C @o) ?_;simp only[a5T]at*;exact⟨r,U.a1,E,L,rfl⟩
  |cons f k=>
   obtain⟨d,D⟩:=f;have o:(a.length:Int)<((a++(d,D)::k).length:Nat):=a9t;have F:(pe (a++(d,D)::k))[a.length]? =some (.J (d.map ak) D):=by simp[pe]
   have q:(preB b (a.map (·.1))).length+8+d.length<=70368744177664:=by refine a5J ?_ S;simp[preB,chunk,cK];omega
   have g:=xb b (a.map (·.1));rw[a4V]at g;refine aF (cd @x @y @z @C @o @F @hn) ?_;refine ai (CA d.length _) ?_;rintro _ s ⟨t,i,rfl⟩;refine aF (cd @x @y @z @C @o @F @hn) ?_;refine mR (L.mono i.sub) ?_ λu v j=> ?_
   .simp only[cK,a4O,a4T];omega
   refine aF (cd @x @y @z @C @o @F @hn) ?_;refine mR j ?_ λl w P=> ?_
   .simp only[cK,a4L,a4O,a4T];omega
   refine aF (cd @x @y @z @C @o @F @hn) ?_;have m:preB b (a.map (·.1))++cK d.length++d=preB b ((a++ [(d,D)]).map (·.1)):=by simp[preB,chunk]
   rw[m]at P|-;refine⟨⟨a++ [(d,D)],k,l,a9s,P,rfl,?_⟩,?_⟩
   .simp
   omega
def blocks:Nat->List UInt32->List UInt8->List UInt32
 |0,a,_=>a
 |b+1,a,aR=>blocks b (comp a (aR.take 64)) (aR.drop 64)
def pf: ∀(b:Nat) (a:List UInt32) (aR:List UInt8),a.length=8->(blocks b a aR).length=8
 |0,_,_,c=>c
 |b+1,a,aR,c=>by rw[blocks];exact pf b _ _ (xa a _ c)
theorem u4: ∀(a:Nat) (b:List UInt32) (aR:List UInt8),blocks (a+1) b aR=comp (blocks a b aR) ((aR.drop (64*a)).take 64)
 |0,b,aR=>by simp[blocks]
 |a+1,b,aR=>by
  rw[blocks,u4 a,blocks,a5D];grind
theorem CB: ∀(a b:Nat) (c:List UInt32) (aR:List UInt8),blocks (a+b) c aR=blocks b (blocks a c aR) (aR.drop (64*a))
 |0,b,c,aR=>by simp[blocks]
 |a+1,b,c,aR=>by
  rw[show a+1+b=(a+b)+1 by omega,blocks,CB a b,blocks,a5D,show 64+64*a=64*(a+1) by omega]
theorem CC: ∀(a:Nat) (b:List UInt32) (aR c:List UInt8),64*a<=aR.length->blocks a b (aR++c)=blocks a b aR
 |0,_,_,_,_=>rfl
 |a+1,b,aR,c,d=>by
  rw[blocks,blocks,a6j a9r,a6k a9r];exact CC a _ _ _ a9t
variable{n b3:R}
section
variable {h:List UInt32}(hh:h.length=8)
include hh
def mc:(wl h++ [n,b3]).length=10:=by simp[wl,hh]
def qD:(wl h++ [n,b3]).drop 9= [b3]:=by rw[show(9:Nat)=(wl h).length+1 by rw[eN,hh],<-a5D,a7g];rfl
theorem qE:(wl h++ [n,b3]).drop 8= [n,b3]:=by grind[wl,eN,List.drop_left]
theorem qF:(wl h++ [n,b3]).take 8=wl h:=by grind[wl,eN,List.take_left]
theorem xc {a:R} :putAt (wl h++ [n,b3]) 9 [a]=wl h++ [n,a]:=by simp_all [wl,eN,putAt,a7h,a6m,a4K,a5V]
theorem u5 {a:R} :putAt (wl h++ [n,b3]) 8 [a]=wl h++ [a,b3]:=by simp_all [wl,eN,putAt,a7h,a6m,a4K,a5V]
theorem xd (a:h6.length=8):putAt (wl h++ [n,b3]) 0 (wl h6)=wl h6++ [n,b3]:=by grind[wl,eN,putAt,List.take_append,List.drop_append,List.drop_of_length_le]
end
variable{f t e7:U}{Y:bq}
theorem U.pg (a:f e=some Y):f.set e Y=f:=by grind[U.set]
theorem U.CD {c:bq} (d:(f.set e c).sub t):(f.set e Y).sub (t.set e Y):=λh k a=>by
 rw[U.tM]at a|-;split;simp_all
 .rename_i b;rw[if_neg b]at a;exact d h k (by rw[U.tM,if_neg b];exact a)
theorem Xr (h:List UInt32) (a:h.length=8) (T: ∀o,AC Tryz.prog 270 [] o λV p=>p=o/\V= .agg (wl h)) (b:List UInt8) (W:Own) (s:b.length<=70368744177664) (o:U) (k:Nat) (e:o k=some (.cells (wl h++ [.J [] .nil,.v (.int .u64 0)]))):
  AC Tryz.prog 187 [.ptr k 0,.J (b.map ak) W] o λ_ p=> ∃r,p=o.set k (.cells (wl (blocks (b.length/64) h b)++ [.J ((b.drop (64*(b.length/64))).map ak) r,.v (.int .u64 b.length)])):=by
 refine bf hm OP a9s ?_;have E:(wl h).length=8:=by rw[eN,a]
 rw[<-U.pg e];simp -dsimp -implicitDefEqProofs (disch:=first|omega|assumption|(simp only[aE,Nat.reduceAdd];try omega)) only[go_sem,simprocAttr,mc a,qD a,qE a,qF a,xc a,u5 a];refine ai (T _) ?_;rintro _ _ ⟨rfl,rfl⟩;simp -dsimp -implicitDefEqProofs (disch:=first|omega|assumption|(simp only[aE,Nat.reduceAdd];try omega)) only[go_sem,simprocAttr,mc a,qD a,qE a,qF a,xc a,u5 a,xd a a,E];refine cJ U.a1 (by simp[aN]) λt u F=> ?_;have G:=F.sub k _ (U.ah _ _ _);simp -dsimp -implicitDefEqProofs (disch:=first|omega|assumption|(simp only[aE,Nat.reduceAdd];try omega)) only[go_sem,simprocAttr,U.aJ G,U.af G,mc a,qD a,qE a,qF a,xc a,u5 a,xd a a,E];refine dq (A:= []) F (by simp[aN]) (by simp[aN]) a9s a9s λv w f=> ?_;refine eE ?_;refine mR (B:= []) f a9t λg i L=> ?_;have j:=L.sub k _ (U.ah _ _ _);rw[<-U.pg j];simp -dsimp -implicitDefEqProofs (disch:=first|omega|assumption|(simp only[aE,Nat.reduceAdd];try omega)) only[go_sem,simprocAttr,a8E,a5d];refine cv (λx p=> ∃(c:Nat) (r:Own),64*c<=b.length/\x 0= .ptr k 0/\x 4= .J ((b.drop (64*c)).map ak) r/\p=i.set k (.cells (wl (blocks c h b)++ [.J [] .nil,.v (.int .u64 b.length)])))
  (λx _=>match x 4 with| .J xs _=>xs.length| _=>0) ⟨0,g,a9r,?_⟩ ?_
 .simp -dsimp -implicitDefEqProofs (disch:=first|omega|assumption|(simp only[aE,Nat.reduceAdd];try omega)) only[go_sem,simprocAttr,a8E];rfl
 .rintro x p ⟨c,r,A,C,D,rfl⟩;have d:=pf c h b a;generalize P:blocks c h b=z at*;have B:(wl z).length=8:=by rw[eN,d]
  by_cases y:(64:Int)<=((b.drop (64*c)).length:Int)
  .have l:=y;rw[a4X]at l;simp -dsimp -implicitDefEqProofs (disch:=first|omega|assumption|(simp only[aE,Nat.reduceAdd];try omega)) only[go_sem,simprocAttr,C,D,y,mc d,qF d];have m:((b.drop (64*c)).take (64:Int).toNat).length=64:=a9t;refine ai (Cz z _ _ d m _) ?_;rintro _ _ ⟨rfl,rfl⟩;have S:=xa z ((b.drop (64*c)).take 64) d;have n:(wl (comp z ((b.drop (64*c)).take 64))).length=8:=by rw[eN,S]
   simp -dsimp -implicitDefEqProofs (disch:=first|omega|assumption|(simp only[aE,Nat.reduceAdd];try omega)) only[go_sem,simprocAttr,C,D,y,mc d,xd d S,n];refine⟨⟨c+1,.any,a9r,?_,?_⟩,by simp only[a4X];omega⟩;grind[List.drop_drop]
   .rw[u4,P]
  .simp -dsimp -implicitDefEqProofs (disch:=first|omega|assumption|(simp only[aE,Nat.reduceAdd];try omega)) only[go_sem,simprocAttr,C,D,y,mc d,u5 d];rw[a4X]at y;have q:b.length/64=c:=a9r;refine⟨o.set k _,U.CD L.sub,r,?_⟩;rw[q,P]
def Xs (a:List UInt8) (d:Own) (h:a.length<=70368744177664) (b:U) (c:Nat) (k:b c=some (.cells (wl gq++ [.J [] .nil,.v (.int .u64 0)]))):
  AC Tryz.prog 187 [.ptr c 0,.J (a.map ak) d] b λ_ o=> ∃p,o=b.set c (.cells (wl (blocks (a.length/64) gq a)++ [.J ((a.drop (64*(a.length/64))).map ak) p,.v (.int .u64 a.length)])):=
 Xr gq rfl x9 a d h b c k
def er (a:Nat):Nat:=(55+64 - a%64)%64
def je (a:Nat) (b:List UInt8):List UInt8:=b++128::List.replicate (er a) 0++cK (8*a)
def xe (a:UInt32):List UInt8:= [(a>>>24).toUInt8,(a>>>16).toUInt8,(a>>>8).toUInt8,a.toUInt8]
def et (a:List UInt32):List UInt8:=a.flatMap xe
def cM (a:List UInt8):R:= .agg (a.map ak)
def hT (a:List UInt8):List R:=a.map ak++List.replicate (32 - a.length) (.v (.int .u8 0))
variable{B:List UInt8}
def u6 (a:B.length<=32):(hT B).length=32:=by simp[hT];omega
def xf (a:UInt8) (b:e=B.length) (d:B.length<32):putAt (hT B) e [.v (.int .u8 a.toNat)]=hT (B++ [a]):=by subst b;have c:32 - B.length=(32 -(B.length+1))+1:=a9r;simp only[putAt,hT,c,a6Q];simp[a7h,a6m,ak]
def u7: ∀a:List UInt32,(et a).length=4*a.length
 | []=>rfl
 |c::b=>by simp only[et,a5n,a4L]at*;have:=u7 b;simp only[et]at this;rw[this];simp[xe];omega
theorem Xt (b:List UInt32) (m:b.length=8) (d: ∀k,AC Tryz.prog 270 [] k λc g=>g=k/\c= .agg (wl b)) (e:List UInt32) (h:e.length=8) (a:Nat) (f:List UInt8) (o:Own) (n:a<=70368744177664) (x:f.length=a%64) (i:a=0->e=b)
  (k:U) (j:Nat) (l:k j=some (.cells (wl e++ [.J (f.map ak) o,.v (.int .u64 a)]))):
  AC Tryz.prog 188 [.ptr j 0] k λc g=>g=k/\c=cM (et (blocks ((je a f).length/64) e (je a f))):=by
 refine bf hm OR a9s ?_;have c:(wl e).length=8:=by rw[eN,h]
 refine eE ?_;refine aP λm t=> ?_;have p:j≠m:=by rintro rfl;rw[t]at l;cases l
 simp -dsimp -implicitDefEqProofs (disch:=first|omega|assumption|(simp only[aE,Nat.reduceAdd];try omega)) only[go_sem,↓reduceIte,Nat.reduceEqDiff,Nat.reduceAdd,Nat.reduceSub,Nat.reduceMul,Nat.reduceLeDiff,Nat.reduceLT,Int.reduceNeg,Int.reduceToNat,Int.reduceAdd,Int.reduceSub,Int.reduceMul,Int.reduceLT,Int.reduceLE,Int.reduceEq,Int.reduceNe,U.af l,mc h,qD h,qE h,qF h];refine aP λn r=> ?_;obtain⟨y,r⟩:=U.gN r;have s:j≠n:=by rintro rfl;rw[r]at l;cases l
 simp -dsimp -implicitDefEqProofs (disch:=first|omega|assumption|(simp only[aE,Nat.reduceAdd];try omega)) only[go_sem,↓reduceIte,Nat.reduceEqDiff,Nat.reduceAdd,Nat.reduceSub,Nat.reduceMul,Nat.reduceLeDiff,Nat.reduceLT,Int.reduceNeg,Int.reduceToNat,Int.reduceAdd,Int.reduceSub,Int.reduceMul,Int.reduceLT,Int.reduceLE,Int.reduceEq,Int.reduceNe,U.af l,mc h,qD h,qE h,qF h,c];refine BV (λb g=>b 0= .ptr j 0/\b 2= .ptr m 0/\b 3= .ptr n 0/\g=(k.set m (.cells (List.replicate 32 (.v (.int .u8 0))))).set n (.cells (wl e))) ?_ ?_ ?_
 .intro q;have u:a=0:=by simpa using q
  have v:=i u;subst v;refine eE ?_;refine ai (d _) ?_;rintro _ _ ⟨rfl,rfl⟩;exact gX @c
 .intro _;exact qx
 .rintro b g ⟨i,c,d,rfl⟩;have z:((k.set m (.cells (List.replicate 32 (.v (.int .u8 0))))).set n (.cells (wl e))) j=some (.cells (wl e++ [.J (f.map ak) o,.v (.int .u64 a)])):=by rw[U.an _ _ s,U.an _ _ p];exact l
  generalize u:((k.set m (.cells (List.replicate 32 (.v (.int .u8 0))))).set n (.cells (wl e)))=o at*;refine aF (aI @i @c @d) ?_;refine cJ U.a1 (by simp[aN]) λl l l=> ?_;have p:=l.sub _ _ z;simp -dsimp -implicitDefEqProofs (disch:=first|omega|assumption|(simp only[aE,Nat.reduceAdd];try omega)) only[go_sem,↓reduceIte,Nat.reduceEqDiff,Nat.reduceAdd,Nat.reduceSub,Nat.reduceMul,Nat.reduceLeDiff,Nat.reduceLT,Int.reduceNeg,Int.reduceToNat,Int.reduceAdd,Int.reduceSub,Int.reduceMul,Int.reduceLT,Int.reduceLE,Int.reduceEq,Int.reduceNe,i,c,d,U.af p,mc h,qE h];refine mR (B:= []) l a9t λl l l=> ?_;refine aF (aI @i @c @d) ?_;refine s5 (a:=128) U.a1 λp p p=> ?_;refine aF (aI @i @c @d) ?_;refine wM (l.mono p.sub) a9t λs l v=> ?_;refine aF (aM @i @c @d @a5d.{0}) ?_;refine cv (λb g=> ∃(l:Nat) (p:Own),l<=er a/\b 0= .ptr j 0/\b 2= .ptr m 0/\b 3= .ptr n 0/\b 4= .J ((f++128::List.replicate l 0).map ak) p/\bj o g 1 ((f++128::List.replicate l 0).map ak) p)
   (λb _=>match b 4 with| .J xs _=>200 - xs.length| _=>0) ⟨0,s,a9r,?_⟩ ?_
  .simp -dsimp -implicitDefEqProofs (disch:=first|omega|assumption|(simp only[aE,Nat.reduceAdd];try omega)) only[go_sem,↓reduceIte,Nat.reduceEqDiff,Nat.reduceAdd,Nat.reduceSub,Nat.reduceMul,Nat.reduceLeDiff,Nat.reduceLT,Int.reduceNeg,Int.reduceToNat,Int.reduceAdd,Int.reduceSub,Int.reduceMul,Int.reduceLT,Int.reduceLE,Int.reduceEq,Int.reduceNe,i,c,d];exact⟨rfl,by simpa using v⟩
  .rintro b g ⟨l,p,j,i,c,d,j,v⟩;have q:er a<=63:=by unfold er;omega
   have A:(f++128::List.replicate l 0).length=a%64+1+l:=by simp[x];omega
   by_cases o:l<er a
   .have q: ¬(((a%64+1+l)%64:Nat):Int)=56:=by unfold er at o;omega
    refine aF (cd @i @c @d @j @A @BY @q) ?_;refine s5 (a:=0) U.a1 λC D w=> ?_;refine aF (aM @i @c @d @j) ?_;refine wM (v.mono w.sub) a9r λB q s=> ?_;have E:f++128::List.replicate l 0++ [0]=f++128::List.replicate (l+1) 0:=by simp[a9c]
    refine aF (aM @i @c @d @j) ?_;grind
   .obtain rfl:l=er a:=a9r;have l:(((a%64+1+er a)%64:Nat):Int)=56:=by unfold er;omega
    have E:=v.sub _ _ z;simp -dsimp -implicitDefEqProofs (disch:=first|omega|assumption|(simp only[aE,Nat.reduceAdd];try omega)) only[go_sem,↓reduceIte,Nat.reduceEqDiff,Nat.reduceAdd,Nat.reduceSub,Nat.reduceMul,Nat.reduceLeDiff,Nat.reduceLT,Int.reduceNeg,Int.reduceToNat,Int.reduceAdd,Int.reduceSub,Int.reduceMul,Int.reduceLT,Int.reduceLE,Int.reduceEq,Int.reduceNe,i,c,d,j,A,BY,l,ne_eq,not_true_eq_false,U.af E,mc h,qD h];have l:(8:Int)*(a:Int)=((8*a:Nat):Int):=a9s;rw[l];refine ai (CA (8*a) _) ?_;rintro _ D ⟨C,w,rfl⟩;refine aF (aM @i @c @d @j) ?_;refine mR (v.mono w.sub) (by simp[cK];omega) λB q s=> ?_;refine aF (aM @i @c @d @j) ?_;have i:q n=some (.cells (wl e)):=s.sub _ _ (by rw[<-u];exact U.ah _ _ _);have v:q m=some (.cells (List.replicate 32 (.v (.int .u8 0)))):=s.sub _ _ (by rw[<-u,U.an _ _ (a4S y)];exact U.ah _ _ _);have w:k.sub q:=U.aq (by rw[<-u];exact U.ae (U.ae U.a1 t) r) s.sub;rw[<-U.pg i];have i:f++128::List.replicate (er a) 0++cK (8*a)=je a f:=rfl;have s:(je a f).length=64*((je a f).length/64):=by
     have:(je a f).length=a%64+1+er a+8:=by simp[je,x,cK];omega
     rw[this];unfold er;omega
    rw[i];generalize je a f=i at*;refine cv (λb g=> ∃(f:Nat) (p:Own),64*f<=i.length/\b 2= .ptr m 0/\b 3= .ptr n 0/\b 4= .J ((i.drop (64*f)).map ak) p/\g=q.set n (.cells (wl (blocks f e i))))
     (λb _=>match b 4 with| .J xs _=>xs.length| _=>0) ⟨0,B,a9r,?_⟩ ?_
    .refine aF (c2 @c @d) ?_;rfl
    .rintro b g ⟨f,p,p,c,d,j,rfl⟩;have p:=pf f e i h;have h:(wl (blocks f e i)).length=8:=by rw[eN,p]
     by_cases o:(0:Int)<((i.drop (64*f)).length:Int)
     .have s:=o;rw[a4X]at s;have s:64<=(i.drop (64*f)).length:=by rw[a4X];omega
      refine aF (bD @c @d @j @o @h @a4K.{0}) ?_;have s:((i.drop (64*f)).take 64).length=64:=a9t;refine ai (Cz _ _ _ p s _) ?_;rintro _ _ ⟨rfl,rfl⟩;have s:=xa (blocks f e i) ((i.drop (64*f)).take 64) p;have p:(wl (comp (blocks f e i) ((i.drop (64*f)).take 64))).length=8:=by rw[eN,s]
      refine aF (bp @c @d @j @h @p) ?_;refine⟨⟨f+1,.any,a9r,?_,?_⟩,by simp only[a4X];omega⟩;grind[List.drop_drop]
      .rw[u4]
     .rw[a4X]at o;have p:f=i.length/64:=a9r;refine aF (bp @c @d @j @a4X.{0} @o) ?_;rw[<-p];generalize p:blocks f e i=f at*;refine aP λi p=> ?_;obtain⟨e,p⟩:=U.gN p;have s:i≠m:=by grind
      refine aF (bp @c @d @j @h @a4K.{0}) ?_;refine cv (λb g=> ∃e:Nat,e<=8/\b 2= .ptr m 0/\b 5= .ptr i 0/\b 50= .agg (wl f)/\b 51= .v (.int .i64 e)/\g=(q.set n (.cells (wl f))).set i (.cells (hT (et (f.take e)))))
       (λb _=>match b 51 with| .v (.int _ a)=>(8 - a).toNat| _=>0) ⟨0,a9r,?_⟩ ?_
      .refine aF (aI @c @d @j) ?_
       (rw[a6s];rfl)
      .rintro b g ⟨e,a,c,g,i,j,rfl⟩;have a:(et (f.take e)).length=4*e:=by rw[u7];simp;omega
       by_cases o:(e:Int)<8
       .have m:(hT (et (f.take e))).length=32:=u6 a9r;have n:(4*(e:Int)).toNat=4*e:=a9r;have q:(4*(e:Int)+1).toNat=4*e+1:=a9r;have u:(4*(e:Int)+2).toNat=4*e+2:=a9r;have x:(4*(e:Int)+3).toNat=4*e+3:=a9r;have b: ∀(b:List UInt8) (d:UInt8),b.length<32->putAt (hT b) b.length [.v (.int .u8 d.toNat)]=hT (b++ [d]):=λb d b=>xf d rfl b;simp -dsimp -implicitDefEqProofs (disch:=first|omega|assumption|(simp only[aE,Nat.reduceAdd];try omega)) only[go_sem,↓reduceIte,Nat.reduceEqDiff,Nat.reduceAdd,Nat.reduceSub,Nat.reduceMul,Nat.reduceLeDiff,Nat.reduceLT,Int.reduceNeg,Int.reduceToNat,Int.reduceAdd,Int.reduceSub,Int.reduceMul,Int.reduceLT,Int.reduceLE,Int.reduceEq,Int.reduceNe,c,g,i,j,o,h,hr,n,q,u,x,xf,u6];refine⟨⟨e+1,a9r,a9s,?_⟩,a9r⟩;grind[et,xe,List.getD,List.take_succ_eq_append_getElem]
       .obtain rfl:e=8:=a9r;have m:(hT (et (f.take 8))).length=32:=u6 a9r;have l:f.take 8=f:=a4K a9r;have b:hT (et f)=(et f).map ak:=by rw[l]at a;simp[hT,a]
        have d:((et f).map ak).length=32:=by rw[l]at a;simp[a]
        have e:(et f).length=32:=by rw[l]at a;exact a
        rw[l,b];refine aF (p7 @c @g @i @j @o @d @a4K.{0} (U.aJ v) (U.af v) @s (a4S s) (a4S y) @qm) ?_;refine⟨k,?_,rfl,rfl⟩;exact U.ae (U.ae (U.ae w r) (U.bG w p)) t
def Xu (b:U):AC Tryz.prog 186 [] b λc d=> ∃a,b a=none/\c= .ptr a 0/\d=b.set a (.cells (wl gq++ [.J [] .nil,.v (.int .u64 0)])):=by refine bf hm ON a9s ?_;refine eE ?_;refine ai (x9 _) ?_;rintro _ _ ⟨rfl,rfl⟩;have h:(wl gq).length=8:=rfl;have k:putAt (List.replicate 8 (R.v (Value.int IntKind.u32 0))++ [R.J [] Own.nil]++ [R.v (Value.int IntKind.u64 0)]) 0 (wl gq)=wl gq++ [.J [] .nil,.v (.int .u64 0)]:=rfl;simp -dsimp -implicitDefEqProofs (disch:=first|omega|assumption|(simp only[aE,Nat.reduceAdd];try omega)) only[go_sem,↓reduceIte,Nat.reduceEqDiff,Nat.reduceAdd,Nat.reduceSub,Nat.reduceMul,Nat.reduceLeDiff,Nat.reduceLT,Int.reduceNeg,Int.reduceToNat,Int.reduceAdd,Int.reduceSub,Int.reduceMul,Int.reduceLT,Int.reduceLE,Int.reduceEq,Int.reduceNe,h,k];refine aP λa o=> ?_;refine eE ?_;exact⟨_,U.a1,a,o,rfl,rfl⟩
def fl (a:List UInt8):List UInt8:=
 et (blocks ((je a.length (a.drop (64*(a.length/64)))).length/64) (blocks (a.length/64) gq a) (je a.length (a.drop (64*(a.length/64)))))
def sl (a:List UInt8):(fl a).length=32:=by rw[fl,u7,pf _ _ _ (pf _ _ _ rfl)]
def Xv (a:List UInt8) (c:Own) (d:a.length<=70368744177664) (b:U):AC Tryz.prog 121 [.J (a.map ak) c] b λk o=>o=b/\k=cM (fl a):=by
 refine bf hm MO a9s ?_;refine eE ?_;refine aP λG p=> ?_;refine eE ?_;refine ai (Xu _) ?_;rintro _ _ ⟨h,r,rfl,rfl⟩;obtain⟨x,y⟩:=U.gN r;refine eE ?_;refine ai (Xs a c d _ h (U.ah _ _ _)) ?_;rintro _ _ ⟨z,rfl⟩;refine eE ?_;have C:(a.drop (64*(a.length/64))).length=a.length%64:=a9t;refine ai (Xt gq rfl x9 (blocks (a.length/64) gq a) (pf _ _ _ rfl) a.length (a.drop (64*(a.length/64))) z d C (λD=> ?_) _ h (U.ah _ _ _)) ?_
 .rw[D];rfl
 rintro _ _ ⟨rfl,rfl⟩;have E:((fl a).map ak).length=32:=by rw[a4V,sl]
 have L:=sl a;have F:cM (et (blocks ((je a.length (a.drop (64*(a.length/64)))).length/64) (blocks (a.length/64) gq a) (je a.length (a.drop (64*(a.length/64))))))= .agg ((fl a).map ak):=rfl;rw[F];generalize fl a=P at*;refine aF (c2 @E (a4S x)) ?_;exact⟨b,U.ae (U.ae U.a1 p) y,rfl,by rw[a4K a9r];rfl⟩
def a4C (a:List (List UInt8)):Prop:= ∀b∈a,b.length=32
def ba:(cM B).cells=B.map ak:=rfl
def bb (a:B.length=32):(.agg ((B.take 32).map ak):R)=cM B:=by rw[a4K (by simp[a])];rfl
def Xw (a:List (List UInt8)) (b:Own) (c:List (List UInt8×Own)) (d:Own) (h:Bool):bq:= .cells [.J (a.map cM) b,.J (pe c) d,.v (.bool h)]
def PS (c:U) (d:Nat) (h k:List (List UInt8)) (o:Bool) (p:U):Prop:=
 ∃r b a,a.map (·.1)=k/\bj (c.set d (Xw h r a b o)) p 1 (pe a) b
def u9:List UInt8:=List.replicate 32 0
def eR:bq:= .cells (List.replicate 32 (.v (.int .u8 0)))
def Xx (a:List UInt8):bq:= .cells (a.map ak)
def CE {a:List UInt8} (c:cM B=cM a):B=a:=by
 have d:B.map ak=a.map ak:=by simpa[cM] using c
 have b:=congrArg bytesOf d;rw[rC,rC]at b;exact a4I b
end Go.Proofs.YtlgnfcaolejgeaaGreat
set_option maxHeartbeats 1000000
namespace Go.Proofs.YtlgnfcaolejgeaaGreat
open Go Go.bB
structure BF where
 x:List UInt8
 y:List UInt8
 cC:List (List UInt8)
 sm:List (List UInt8)
 iC:Bool
end Go.Proofs.YtlgnfcaolejgeaaGreat
set_option maxHeartbeats 1000000
namespace Go.Proofs.YtlgnfcaolejgeaaGreat
open Go Go.bB
def ua (a:List UInt8) (b:Own):bq:= .cells [.J (a.map ak) b,.v (.int .i64 0)]
def cE (c:U) (d:Nat) (a:List UInt8) (h:U):Prop:= ∃b,bj (c.set d (ua a b)) h 1 (a.map ak) b
def ub (h k:U) (d:Nat) (a b:List UInt8) (y:Own) (c:cE h d a k) (D:a.length+b.length<=70368744177664):
  AC Tryz.prog 168 [.ptr d 0,.v (.bool true),.J (b.map ak) y] k λ_ z=>cE h d (a++b) z:=by
 obtain⟨E,c⟩:=c;have C:=c.sub _ _ (U.ah _ _ _);refine bf hm Oe a9s ?_;refine aF (aM @a5H (U.af C) @ba @bb) ?_;refine mR c a9r λo F p=> ?_;have r:=p.sub _ _ (U.ah _ _ _);refine aF (aM (U.af r) (U.aJ r) @ba @bb) ?_;have x:=p.set (ob:=ua (a++b) o) (U.ah _ _ _);rw[U.set_set]at x;exact⟨_,U.a1,o,x⟩
def mY (c k:U) (a:Nat) (b:List UInt8) (d:UInt8) (h:cE c a b k) (o:b.length+1<=70368744177664):
  AC Tryz.prog 103 [.ptr a 0,.v (.int .u8 d.toNat)] k λ_ p=>cE c a (b++ [d]) p:=by
 refine bf hm Mh a9s ?_;refine aF (c2 @ba @bb) ?_;refine s5 U.a1 λr x y=> ?_;refine aF (c2 @ba @bb) ?_;obtain⟨z,h⟩:=h;refine ai (ub c x a b [d] r ⟨z,h.mono y.sub⟩ o) ?_;intro E C D;refine aF (c2 @ba @bb) ?_;exact⟨C,U.a1,D⟩
def cf (a:Int):Nat:=(BitVec.ofInt 64 a^^^BitVec.ofInt 64 9223372036854775808).toNat
def hU (a:Int):List UInt8:=cK (cf a)
def CF (a:Int):bo .xor (.int .u64 (IntKind.u64.wrap a)) (.int .u64 9223372036854775808)=some (.int .u64 (cf a)):=by
 have b:BitVec.ofInt 64 (IntKind.u64.wrap a)=BitVec.ofInt 64 a:=by rw[ky];apply BitVec.eq_of_toInt_eq;simp[BitVec.toInt_ofInt,Int.bmod]
 have c:bo .xor (.int .u64 (IntKind.u64.wrap a)) (.int .u64 9223372036854775808)=some (.int .u64 (IntKind.u64.wrap (BitVec.ofInt 64 (IntKind.u64.wrap a)^^^BitVec.ofInt 64 9223372036854775808).toNat)):=rfl;rw[c,b];have d:=(BitVec.ofInt 64 a^^^BitVec.ofInt 64 9223372036854775808).isLt;rw[wrap_u64 a9r a9r];rfl
theorem Xy (o C:U) (b:Nat) (p:List UInt8) (h:Int) (E:cE o b p C) (G:p.length+8<=70368744177664):
  AC Tryz.prog 254 [.ptr b 0,.v (.int .i64 h)] C λ_ c=>cE o b (p++hU h) c:=by
 refine bf hm QH a9s ?_;refine aF (aI @CF @ba @bb) ?_;generalize F:cf h=k;refine cv (λd c=> ∃a:Nat,a<=8/\cE o b (p++(cK k).take a) c/\d 0= .ptr b 0/\d 4= .v (.int .u64 k)/\d 5= .v (.int .i64 (56 - 8*(a:Int))))
  (λd _=>match d 5 with| .v (.int _ h)=>(h+8).toNat| _=>0) ⟨0,a9r,by simpa using E,?_⟩ ?_
 .exact gX (c2 @ba @bb)
 .rintro d c ⟨a,L,D,r,x,y⟩;by_cases z:(0:Int)<=56 - 8*(a:Int)
  .refine aF (cd @r @x @y @z @iy @ba @bb) ?_;refine ai (mY o c b _ _ D ?_) ?_
   .simp;omega
   intro P S T;refine aF (bD @r @x @y @z @ba @bb) ?_;refine⟨⟨a+1,a9r,?_,a9t⟩,a9r⟩;have V:(cK k).take (a+1)=(cK k).take a++ [UInt8.ofNat (k>>>(56 - 8*(a:Int)).toNat)]:=by rcases(by omega:a=0\/a=1\/a=2\/a=3\/a=4\/a=5\/a=6\/a=7)with rfl|rfl|rfl|rfl|rfl|rfl|rfl|rfl<;>rfl
   grind
  .obtain rfl:a=8:=a9r;refine aF (bD @r @x @y @z @ba @bb) ?_;refine⟨c,U.a1,?_⟩;rw[hU,F];exact D
end Go.Proofs.YtlgnfcaolejgeaaGreat
namespace Go.bB
open Go
def CG (a:Bool) (c:R) (b:R->Prop):Prop:=
 match c with
 | .J xs d=>match d with
  | .nil=>b (.v (.bool (!a)))
  | .buf _ _=>b (.v (.bool a))
  | _=>(xs= []->b (.v (.bool (!a))))/\b (.v (.bool a))
 | .al _ _ _ _=>b (.v (.bool a))
 | _=>False
variable{s a7:R -> U -> Prop}{I:Bool}{K:Ctx}{j:Fr}{f t e7:U}{Z e9:Operand}
def o9:G K (.mB I Z) j f s=CG I (aj j Z) (c4 (λa=>s a f) ()):=rfl
variable{g A e1:List R}{N e5 h5:Own}
def oa {a:R->Prop}{d:cD a} (h:N= .nil->g= []) (b:g= []->a (.v (.bool (!I)))) (c:a (.v (.bool I))):CG I (.J g N) (c4 a d):=by
 cases N with
 |nil=>exact b (h rfl)
 |buf k o=>exact c
 |any=>exact⟨b,c⟩
 |zero=>exact⟨b,c⟩
end Go.bB
namespace Go.Proofs.YtlgnfcaolejgeaaGreat
open Go Go.bB
def xg (a:List UInt8) (d:Own) (b:U) (k:d= .nil->a= []) (D:a.length<=70368744177664):
  AC Tryz.prog 172 [.J (a.map ak) d] b λo p=> ∃h,bj b p 1 (a.map ak) h/\o= .J (a.map ak) h:=by
 refine bf hm On a9s ?_;simp -dsimp -implicitDefEqProofs (disch:=first|omega|assumption|(simp only[aE,Nat.reduceAdd];try omega)) only[go_sem,simprocAttr,ba,bb,↓o9];refine oa (λc=>by rw[k c];rfl) (λc=> ?_) ?_
 .have r:a= []:=by simpa using c
  subst r;refine aF (aI @a5y @ba @bb) ?_;exact⟨b,U.a1,.nil,bj.nil U.a1,rfl⟩
 .refine aF (c2 @ba @bb) ?_;refine cJ U.a1 (by simp[aN]) λE F x=> ?_;refine aF (c2 @ba @bb) ?_;refine mR (B:= []) x a9t λy z C=> ?_;refine aF (aI @a5d.{0} @ba @bb) ?_;exact⟨z,U.a1,y,by simpa using C,rfl⟩
def CH (k b:U) (d:Nat) (a:List UInt8) (c:cE k d a b) (o:a.length<=70368744177664):
  AC Tryz.prog 106 [.ptr d 0] b λp r=> ∃h,bj b r 1 (a.map ak) h/\p= .J (a.map ak) h:=by
 obtain⟨x,c⟩:=c;have y:=c.sub _ _ (U.ah _ _ _);refine bf hm Mn a9s ?_;refine aF (aI (U.af y) @ba @bb) ?_;refine ai (xg a x b (λz=> ?_) o) ?_
 .subst z;have:=c.2;simpa using this
 rintro _ C ⟨D,E,rfl⟩;refine aF (c2 @ba @bb) ?_;exact⟨C,U.a1,D,E,rfl⟩
end Go.Proofs.YtlgnfcaolejgeaaGreat
namespace Go.bB
open Go
end Go.bB
namespace Go.Proofs.YtlgnfcaolejgeaaGreat
open Go Go.bB
def xh (a:Int) (b c:List UInt8):List R:= .v (.int .i64 a)::(b.map ak++c.map ak)
def Xz (a:Int) (b c:List UInt8):R:= .agg (xh a b c)
def XA (a:Int) (b c:List UInt8):List UInt8:=preB 68 [hU a,b,c]
end Go.Proofs.YtlgnfcaolejgeaaGreat
namespace Go.bB
open Go
variable{f t e7:U}{g A e1:List R}{e i v M c0 j0:Nat}
def XB (a:g.length=e):s7 1 e (f.set i (.ro g)) (.ptr i 0)=some (.J g .any):=V4 (U.ah _ _ _) a
end Go.bB
namespace Go.Proofs.YtlgnfcaolejgeaaGreat
open Go Go.bB
structure iD where
 n:Int
 h:List UInt8
 d:List UInt8
 deriving DecidableEq
def iD.ok (a:iD):Prop:=a.h.length=32/\a.d.length=32
def iD.C (a:iD):List R:=xh a.n a.h a.d
def iD.V (a:iD):R:=Xz a.n a.h a.d
def iD.sum (a:iD):List UInt8:=fl (XA a.n a.h a.d)
def cE.mono {b c d:U}{h:Nat}{k:List UInt8} (a:cE b h k c) (o:c.sub d):cE b h k d:=by obtain⟨p,a⟩:=a;exact⟨p,a.mono o⟩
def cE.sub {a c:U}{d:Nat}{h:List UInt8} (b:cE a d h c) (k:a d=none):a.sub c:=by obtain⟨o,b⟩:=b;exact U.aq (U.ae U.a1 k) b.sub
theorem cE.base {b c d:U}{h:Nat}{k:List UInt8} (a:cE b h k d) (o:c.sub b):cE c h k d:=by obtain⟨p,a⟩:=a;exact⟨p,a.base (U.lh o)⟩
variable{f t e7:U}{B:List UInt8}{e i v M c0 j0:Nat}
def cE.cell (a:cE t e B f): ∃b,f e=some (ua B b):=by obtain⟨b,a⟩:=a;exact⟨b,a.sub _ _ (U.ah _ _ _)⟩
def cE.new {d h:U}{c a:Nat}{p:List UInt8}{ob:bq} (b:cE d c p h) (k:h a=none):a≠c/\d a=none/\cE (d.set a ob) c p (h.set a ob):=by
 obtain⟨r,x⟩:=b.cell;have o:a≠c:=by rintro rfl;rw[k]at x;cases x
 obtain⟨r,b⟩:=b;have y:=U.bG b.sub k;rw[U.an _ _ o]at y;refine⟨o,y,r,?_⟩;rw[U.eg _ o];exact b.new k
variable{Y:bq}
def cE.get (a:cE f i B t) (b:e≠i) (c:f e=some Y):t e=some Y:=by obtain⟨d,a⟩:=a;exact a.sub _ _ (by rw[U.an _ _ b];exact c)
def CI (d h:U) (a:Nat) (b c:List UInt8) (k:c.length=32) (o:cE d a b h) (y:b.length+32<=70368744177664):
  AC Tryz.prog 170 [.ptr a 0,cM c] h λ_ p=>cE d a (b++c) p:=by
 refine bf hm Oi a9s ?_;refine aF (aI @k @ba @bb) ?_;refine aP λz r=> ?_;refine aF (aM @k @XB @ba @bb) ?_;refine ai (ub d _ a b c .any (o.mono (U.ae U.a1 r)) a9r) ?_;intro C D x;refine aF (c2 @ba @bb) ?_;exact⟨_,U.a1,x⟩
def CJ (a:Int):(hU a).length=8:=rfl
end Go.Proofs.YtlgnfcaolejgeaaGreat
