import Derived.Test.YtcfpcblgmmeioaaGreatMB
set_option linter.all false
open Option renaming some->β,none->ε
open Go.Proofs.Tryz renaming prog->γ
open List renaming replicate->ζ,range->ψ,zipWith->Α,take_of_length_le->Θ,length->α
open Bool renaming true->η,false->ι
open Go.bt.U renaming aj->ν,al->ξ,set_set->σ
open BitVec renaming ofInt->π
open UInt8 renaming ofNat->ς
open Go.bt.R renaming cells->τ
namespace Go.bt
open Go
abbrev cy.{a}{b:Sort a}(_:b):Type:=Unit
variable{b0:Type}
def bT(a:b0->Prop)(_:cy a)(b:b0):Prop:=a b
def bX{a:Type}(b:b0->a->Prop)(_:cy b)(c:b0)(d:a):Prop:=b c d
def cj(a:Prop)(_:cy a):Prop:=a
def hd{a:b0->Prop}{c:cy a}{b:b0}:bT a c b=a b:=rfl
def R3{b:Type}{a:b0->b->Prop}{h:cy a}{c:b0}{d:b}:bX a h c d=a c d:=rfl
variable{Q b5 h3 j3 j9:Prop}
def Ar{a:cy Q}:cj Q a=Q:=rfl
def iq(b:U)(c:Nat->Prop):Prop:=∀a,b a=ε->c a
def gp(a b:Prop):Prop:=a/\b
def As{a:cy Q}(b:b5):gp b5 (cj Q a)=Q:=by simp[gp,cj,b]
def r9{a:cy Q}:gp True (cj Q a)=Q:=by simp[gp,cj]
variable{h6:dM}{e2:c4}{q b7:R}{s Z:R -> U -> Prop}{I:Bool}{K:Ctx}{e6:fH -> Fr -> U -> Prop}{j:Fr}{j5:Fr -> U -> Prop}{b4:FuncId}{f u e1:U}{b1:Int}{e0:IntKind}{g A c0:Χ}{j8:Υ}{e i v M b9 h9:Nat}{j2:Nat -> Prop}{X j6:bl}{Y e5:Operand}{O e4 h5:Own}{m:Program}{b2:TypeId}{e3:Value}
section
def R4:bP K .skip e6 j f=e6 .norm j f:=rfl
def R5:bP K .ret e6 j f=e6 .ret j f:=rfl
def R6:bP K (.exit e) e6 j f=e6 (.exit e) j f:=rfl
def R7{a:dM}:bP K (.seq h6 a) e6 j f=bP K h6 (eo (bP K a e6) e6) j f:=rfl
def R8:bP K (.block e h6) e6 j f=bP K h6 (kz e e6) j f:=rfl
def R9{a:List bW}:bP K (.plain a) e6 j f=ij K a (e6 .norm) j f:=rfl
def Ra{a:List bW}{b:List cU}:bP K (.draw a b) e6 j f=can K (nth a) (e6 .norm) b j f:=rfl
def jK(b:R)(c d:Prop):Prop:=
 match b with
 |.v (.bool a)=>(a=η->c)/\(a=ι->d)
 |_=>False
def vK{a:dM}:bP K (.cond Y h6 a) e6 j f=jK (ah j Y) (cj (bP K h6 e6 j f) ()) (cj (bP K a e6 j f) ()):=rfl
def Au{a:cy Q}:jK (.v (.bool η)) (cj Q a) b5=Q:=by simp[jK,cj]
def Av{a:cy Q}:jK (.v (.bool ι)) b5 (cj Q a)=Q:=by simp[jK,cj]
def Rb:bP K (.loop h6) e6 j f=cj (bP K (.loop h6) e6 j f) ():=rfl
def Rc:eo j5 e6 .norm j f=j5 j f:=rfl
def Re:eo j5 e6 .ret j f=e6 .ret j f:=rfl
def Rf:eo j5 e6 (.exit e) j f=e6 (.exit e) j f:=rfl
def Rg:kz e e6 .norm j f=e6 .norm j f:=rfl
def Rh:kz e e6 .ret j f=e6 .ret j f:=rfl
def Ri:kz i e6 (.exit e) j f=(if e=i then e6 .norm j f else e6 (.exit e) j f):=by simp only[kz];split<;>rfl
def Rj:kz e e6 (.exit e) j f=e6 .norm j f:=by simp[kz]
def Rk:ij K [] j5 j f=j5 j f:=rfl
def Rl{a:Option Nat}{b:List bW}:ij K (⟨a,e2,ε⟩::b) j5 j f=G K e2 j f (λc d=>ij K b j5 (cY j a c) d):=rfl
def hf(b:R)(c:Bool)(d a:Prop):Prop:=
 match b with
 |.v (.bool h)=>if h=c then d else a
 |.aF []=>a
 |_=>False
def Rm{a:Option Nat}{b:List bW}:
  ij K (⟨a,e2,β (e,I)⟩::b) j5 j f=hf (j e) I (cj (G K e2 j f (λc d=>ij K b j5 (cY j a c) d)) ()) (cj (ij K b j5 (cY j a (.aF [])) f) ()):=rfl
def Rn{a:cy Q}:hf (.v (.bool η)) η (cj Q a) b5=Q:=by simp[hf,cj]
def Ro{a:cy Q}:hf (.v (.bool ι)) ι (cj Q a) b5=Q:=by simp[hf,cj]
def Rp{a:cy Q}:hf (.v (.bool η)) ι b5 (cj Q a)=Q:=by simp[hf,cj]
def Rq{a:cy Q}:hf (.v (.bool ι)) η b5 (cj Q a)=Q:=by simp[hf,cj]
def Rr{a:cy Q}:hf (.aF []) I b5 (cj Q a)=Q:=rfl
def Rs{a:Bool}:hf (.v (.bool I)) a Q b5=((I=a->Q)/\(I=(!a)->b5)):=by cases I<;>cases a<;>simp[hf]
def Rt{a:Nat->bW}:can K a j5 [] j f=j5 j f:=rfl
def lA(a:bW)(b:bW->Prop):Prop:=b a
def Ru{a:Option Nat}{b:Option (Nat×Bool)}{c:bW->Prop}:lA ⟨a,e2,b⟩ c=c ⟨a,e2,b⟩:=rfl
def Rv{a:Nat->bW}{b:List cU}:can K a j5 (⟨e,[],[]⟩::b) j f=lA (a e) (bT (λc=>T K c (λd h=>can K a j5 b d h) j f) ()):=by simp only[can,a4r,false_implies,implies_true,true_and,lA,bT]
def Rw{a:Nat->bW}{b:Υ}{c:List cU}:can K a j5 (⟨e,i::j8,b⟩::c) j f=gp (lA (a i) (bT (λd=>Def K d j) ())) (cj (can K a j5 (⟨e,j8,b⟩::c) j f) ()):=by simp only[can,a3n,forall_eq_or_imp,gp,lA,bT,cj];exact propext and_assoc
def ra(c:Ctx)(a:bW)(b:Fr)(d:U):Prop:=
 match a.dst with
 |some h=>E c a b d λk _=>k=b h
 |none=>True
def nr(b:Ctx)(c:Nat->bW)(d:Fr)(h:U):Υ->Prop->Prop
 |[],a=>a
 |k::o,a=>gp (lA (c k) (bT (λp=>ra b p d h) ())) (cj (nr b c d h o a) ())
def Rx{a:Nat->bW}:nr K a j f [] Q=Q:=rfl
def Ry{a:Nat->bW}:nr K a j f (e::j8) Q=gp (lA (a e) (bT (λb=>ra K b j f) ())) (cj (nr K a j f j8 Q) ()):=rfl
theorem Aw{a:Nat->bW}{b:Prop}:∀c,nr K a j f c b=((∀d∈c,gO K a d j f)/\b)
 |[]=>by simp[nr]
 |d::h=>by simp only[nr,Aw h,gp,lA,bT,cj,a3n,forall_eq_or_imp,gO,ra];grind
def Rz{a:Nat->bW}{b:List cU}:can K a j5 (⟨e,[],i::j8⟩::b) j f=lA (a e) (bT (λh=>T K h (λc d=>nr K a c d (i::j8) (can K a j5 b c d)) j f) ()):=by simp only[can,a4r,false_implies,implies_true,true_and,lA,bT,Aw]
def RA{a:Option Nat}:Def K ⟨a,e2,ε⟩ j=G K e2 j U.emp (λ_ _=>True):=rfl
def RB:ra K ⟨β e,e2,ε⟩ j f=G K e2 j f (λa _=>a=j e):=rfl
def RC{a:cy (λ_:Nat=>True)}:iq f (bT (λ_=>True) a)=True:=by simp[iq,bT]
def RD{a:bW}{b:List bW}:nth (a::b) 0=a:=rfl
def RE{b:bW}{a:List bW}:nth (b::a) (e+1)=nth a e:=rfl
def RF{a:Option Nat}:T K ⟨a,e2,ε⟩ j5 j f=G K e2 j f (λb c=>j5 (cY j a b) c):=rfl
def RG{a:Option Nat}:T K ⟨a,e2,β (e,I)⟩ j5 j f=hf (j e) I (cj (G K e2 j f (λb c=>j5 (cY j a b) c)) ()) (cj (j5 (cY j a (.aF [])) f) ()):=rfl
def RH:cY j (β i) q e=if e=i then q else j e:=rfl
def RI:cY j ε q e=j e:=rfl
def dj(a:Option R)(b:R->Prop):Prop:=
 match a with
 |some a=>b a
 |none=>False
def hF[Decidable Q]{a:R->Prop}:dj (if Q then β q else ε) a=(Q/\a q):=by split<;>simp[dj, *]
def RJ{a:R->Prop}:dj (β q) a=a q:=rfl
def mv(a:R)(b:R->Prop):Prop:=b a
def RK{a:R->Prop}:mv q a=a q:=rfl
def oD(a:Option Χ)(b:Χ->Prop):Prop:=
 match a with
 |some a=>b a
 |none=>False
def RL{a:Χ->Prop}:oD (β g) a=a g:=rfl
section
def RM:G K (.eA Y) j f s=mv (ah j Y) (bT (λa=>s a f) ()):=rfl
def sR(a b c:R):Option R:=
 match a with
 |.v (.bool d)=>β (if d then b else c)
 |_=>ε
def RN:sR (.v (.bool η)) q b7=β q:=rfl
def RO:sR (.v (.bool ι)) b7 q=β q:=rfl
def RP{a:Operand}:G K (.pick e5 Y a) j f s=dj (sR (ah j e5) (ah j Y) (ah j a)) (bT (λb=>s b f) ()):=by simp only[G,sR];generalize ah j e5=Y;cases Y<;>first|rfl|(rename_i v;cases v<;>rfl)
def RQ:G K (.alloc b2 g) j f s=iq f (bT (λa=>s (.ptr a 0) (f.set a (.cells g))) ()):=rfl
def RR:G K (.box b2 Y) j f s=mv (ah j Y) (bT (λa=>gp (0<α a.cells) (cj (iq f (bT (λb=>s (.ptr b 0) (f.set b (.cells a.cells))) ())) ())) ()):=rfl
def RS:G K (.kp b2 Y) j f s=mv (ah j Y) (bT (λa=>gp (0<α a.cells) (cj (iq f (bT (λb=>s (.ptr b 0) (f.set b (.ro a.cells))) ())) ())) ()):=rfl
def cV(b:Bool)(a:Nat)(c:U)(d:R):Option R:=
 match d with
 |.ptr h off=>match c.read h with
  |some cs=>if off+a<=α cs then β (aP b a (cs.drop off))else ε
  |none=>ε
 |.bR cs=>if a<=α cs then β (aP b a cs)else ε
 |_=>ε
def pQ(d:Bool)(b c:Nat)(a:Option Χ):Option R:=
 match a with
 |some a=>if c+b<=α a then β (aP d b (a.drop c))else ε
 |none=>ε
def RT:cV I e f (.ptr i v)=pQ I e v (f.read i):=rfl
def Ax(a:i+e<=α g):pQ I e i (β g)=β (aP I e (g.drop i)):=by simp[pQ,a]
def RU(a:e<=α g):cV I e f (.bR g)=β (aP I e g):=by simp[cV,a]
def RV:G K (.load I e Y) j f s=dj (cV I e f (ah j Y)) (bT (λa=>s a f) ()):=by
 simp only[G,cV];generalize ah j Y=b;cases b<;>first
  |rfl
  |(simp only[hF,hd];done)
  |(rename_i c h;simp only[];generalize f.read c=d;cases d<;>first|rfl|(simp only[hF,hd]))
def dR(a:U)(b:Nat):Option Χ:=
 match a b with
 |some (.cells cs)=>β cs
 |_=>ε
def vL(a:U)(b:Nat)(k:R)(c:Χ)(o:U->Prop):Prop:=
 match k with
 |.ptr d off=>oD (dR a d) λh=>gp (α c=b/\off+b<=α h) (o (a.set d (.cells (putAt h off c))))
 |_=>False
def RW{a:U->Prop}:vL f e (.ptr i v) g a=oD (dR f i) (bT (λb=>gp (α g=e/\v+e<=α b) (cj (oD (β (putAt b v g)) (bT (λc=>a (f.set i (.cells c))) ())) ())) ()):=rfl
def RX:G K (.store e Y e5) j f s=vL f e (ah j Y) (ah j e5).cells (bT (λa=>s (.aF []) a) ()):=by
 simp only[G,vL];generalize ah j Y=b;cases b<;>first
  |rfl
  |(
    rename_i c h;simp only[dR];cases f c with
    |none=>rfl
    |some d=>cases d with
     |cells cs=>exact propext and_assoc.symm
     |_=>rfl)
def rb(a:R):Option R:=
 match a with
 |.ptr b off=>β (.ptr b off)
 |.bR cs=>β (.bR cs)
 |.bA c cF cs=>β (.bA c cF cs)
 |_=>ε
def RY:rb (.ptr e i)=β (.ptr e i):=rfl
def RZ:rb (.bR g)=β (.bR g):=rfl
def S0:G K (.pA Y) j f s=dj (rb (ah j Y)) (bT (λa=>s a f) ()):=by simp only[G,rb];generalize ah j Y=b;cases b<;>first|rfl|(rename_i v;cases v<;>rfl)
def re(a:Nat)(b:R):Option R:=
 match b with
 |.ptr c d=>β (.ptr c (d+a))
 |.bR cs=>β (.bR (cs.drop a))
 |_=>ε
def S1:re e (.ptr i v)=β (.ptr i (v+e)):=rfl
def S2:re e (.bR g)=β (.bR (g.drop e)):=rfl
def S3:G K (.kq e Y) j f s=dj (re e (ah j Y)) (bT (λa=>s a f) ()):=by simp only[G,re];generalize ah j Y=b;cases b<;>first|rfl|(rename_i v;cases v<;>rfl)
def lB(b c:Nat)(d h:R):Option R:=
 match d,h with
 |.ptr k o,.v (.int _ a)=>if 0<=a/\a<c then β (.ptr k (o+a.toNat*b))else ε
 |.bR cs,.v (.int _ a)=>if 0<=a/\a<c then β (.bR (cs.drop (a.toNat*b)))else ε
 |_,_=>ε
def rf(a:0<=b1)(b:b1<i):lB e i (.ptr v M) (.v (.int e0 b1))=β (.ptr v (M+b1.toNat*e)):=by simp[lB,a,b]
def S4(a:0<=b1)(b:b1<i):lB e i (.bR g) (.v (.int e0 b1))=β (.bR (g.drop (b1.toNat*e))):=by simp[lB,a,b]
def S5:G K (.pB e i Y e5) j f s=dj (lB e i (ah j Y) (ah j e5)) (bT (λa=>s a f) ()):=by
 simp only[G,lB];generalize ah j Y=b;generalize ah j e5=c;cases b<;>first
  |rfl
  |(cases c<;>first
    |rfl
    |(rename_i d;cases d<;>first
      |rfl
      |(simp only[hF,hd];exact propext and_assoc.symm)))
def eJ(b:Nat)(a:Option R):Option R:=
 match a with
 |some a=>if α a.cells=b then β (.bR a.cells)else ε
 |none=>ε
def kA(a:α q.cells=e):eJ e (β q)=β (.bR q.cells):=by simp[eJ,a]
def cJ(b:Nat)(h k:R):Option R:=
 match h,k with
 |.J xs _,.v (.int _ a)=>if 0<=a then eJ b xs[a.toNat]? else ε
 |.bB c off len _ d,.v (.int _ a)=>if d=b/\0<=a/\a<len then β (.ptr c (off+a.toNat*b))else ε
 |.aq c len _ d,.v (.int _ a)=>if d=b/\0<=a/\a<len then β (.ptr c (a.toNat*b))else ε
 |_,_=>ε
def fJ(a:0<=b1):cJ e (.J g O) (.v (.int e0 b1))=eJ e g[b1.toNat]? :=by simp[cJ,a]
theorem jL(a:0<=b1)(b:b1<v):cJ e (.aq i v M e) (.v (.int e0 b1))=β (.ptr i (b1.toNat*e)):=by simp[cJ,a,b]
theorem vM(a:0<=b1)(b:b1<M):cJ e (.bB i v M b9 e) (.v (.int e0 b1))=β (.ptr i (v+b1.toNat*e)):=by simp[cJ,a,b]
theorem S6:G K (.dB e Y e5) j f s=dj (cJ e (ah j Y) (ah j e5)) (bT (λc=>s c f) ()):=by
 simp only[G,cJ];generalize ah j Y=d;generalize ah j e5=h;cases d<;>first
  |rfl
  |(cases h<;>first
    |rfl
    |(rename_i k;cases k<;>first
      |rfl
      |(
        simp only[hF,hd];apply propext;constructor
        .rintro⟨o,p,r,x⟩;exact⟨⟨o,p,r⟩,x⟩
        simp_all)
      |(
        rename_i y C D a;by_cases b:0<=a
        .simp only[b,true_and,if_true,eJ];generalize y[a.toNat]?=z;cases z<;>first|rfl|(simp only[hF,hd])
        .simp[b,dj])))
def sS(c:Bool)(a b:Nat)(d:R):Option R:=
 match d with
 |.agg cs=>if a+b<=α cs then β (aP c b (cs.drop a))else ε
 |_=>ε
def S7(a:e+i<=α g):sS I e i (.agg g)=β (aP I i (g.drop e)):=by simp[sS,a]
def S8:G K (.ot I e i Y) j f s=dj (sS I e i (ah j Y)) (bT (λa=>s a f) ()):=by simp only[G,sS];generalize ah j Y=b;cases b<;>first|rfl|(simp only[hF,hd])
def sT(a:U)(b:R):Option R:=
 match b with
 |.ey c=>match a c with
  |some (.mp us _)=>β (.v (.int .i64 (α us)))
  |_=>ε
 |_=>ε
def S9{a:List (R×R×Nat)}(b:f e=β (.mp a i)):sT f (.ey e)=β (.v (.int .i64 (α a))):=by simp[sT,b]
def Sa:G K (.nj Y) j f s=dj (sT f (ah j Y)) (bT (λa=>s a f) ()):=by simp only[G,sT];generalize ah j Y=b;cases b<;>first|rfl|(rename_i c;simp only[];cases f c with|none=>rfl|some d=>cases d<;>rfl)
def sU(c:Bool)(a d:Nat)(h k:R):Option R:=
 match h,k with
 |.agg cs,.v (.int _ b)=>if 0<=b/\b<d/\b.toNat*a+a<=α cs then β (aP c a (cs.drop (b.toNat*a)))else ε
 |_,_=>ε
def Sb(a:0<=b1)(b:b1<i)(c:b1.toNat*e+e<=α g):sU I e i (.agg g) (.v (.int e0 b1))=β (aP I e (g.drop (b1.toNat*e))):=by simp[sU,a,b,c]
theorem Sc:G K (.oo I e i Y e5) j f s=dj (sU I e i (ah j Y) (ah j e5)) (bT (λa=>s a f) ()):=by
 simp only[G,sU];generalize ah j Y=b;generalize ah j e5=c;cases b<;>first
  |rfl
  |(cases c<;>first
    |rfl
    |(rename_i d;cases d<;>first
      |rfl
      |(simp only[hF,hd];grind)))
def oE(c:Fr)(a:Χ):List (Nat×Nat×Operand)->(Χ->Prop)->Prop
 |[],b=>b a
 |(off,cn,h)::k,b=>mv (ah c h) λd=>gp (α d.cells=cn/\off+cn<=α a) (oD (β (putAt a off d.cells)) λo=>oE c o k b)
def Sd{a:Χ->Prop}:oE j g [] a=a g:=rfl
def Se{a:List (Nat×Nat×Operand)}{b:Χ->Prop}:oE j g ((e,i,Y)::a) b=mv (ah j Y) (bT (λc=>gp (α c.cells=i/\e+i<=α g) (cj (oD (β (putAt g e c.cells)) (bT (λd=>oE j d a b) ())) ())) ()):=rfl
theorem Ay{b:Χ->Prop}:∀(c:List (Nat×Nat×Operand))(a:Χ),jH j a c b=oE j a c b
 |[],_=>rfl
 |(off,cn,h)::d,a=>by
  simp only[jH,oE,mv,gp,oD,Ay d];grind
def Sf{a:List (Nat×Nat×Operand)}:G K (.ll g a) j f s=oE j g a λb=>s (.agg b) f:=Ay a g
def fY(b:R):Option R:=
 match b with
 |.J xs _=>β (.v (.int .i64 (α xs)))
 |.bB _ _ a _ _=>β (.v (.int .i64 a))
 |.aq _ a _ _=>β (.v (.int .i64 a))
 |_=>ε
def Sg:fY (.aq i e v M)=β (.v (.int .i64 e)):=rfl
def Sh:fY (.J g O)=β (.v (.int .i64 (α g))):=rfl
def Si:fY (.bB i v e M b9)=β (.v (.int .i64 e)):=rfl
def Sj:G K (.len Y) j f s=dj (fY (ah j Y)) (bT (λa=>s a f) ()):=by simp only[G,fY];generalize ah j Y=b;cases b<;>rfl
def ir(c:BinOp)(a b:R):Option R:=
 match a,b with
 |.v a,.v b=>(br c a b).map .v
 |_,_=>ε
theorem rh{a:BinOp}{b:Value}:ir a (.v e3) (.v b)=(br a e3 b).map .v:=rfl
def Sk{a:BinOp}:G K (.bin a Y e5) j f s=dj (ir a (ah j Y) (ah j e5)) (bT (λb=>s b f) ()):=by
 simp only[G,ir];generalize ah j Y=c;generalize ah j e5=d;cases c<;>first
  |rfl
  |(cases d<;>first
    |rfl
    |(rename_i v h;simp only[];generalize br a v h=k;cases k<;>rfl))
def vN(b:UnOp)(a:R):Option R:=
 match a with
 |.v a=>(ni b a).map .v
 |_=>ε
def Sl{a:UnOp}:vN a (.v e3)=(ni a e3).map .v:=rfl
def Sm{a:UnOp}:G K (.un a Y) j f s=dj (vN a (ah j Y)) (bT (λb=>s b f) ()):=by simp only[G,vN];generalize ah j Y=c;cases c<;>first|rfl|(rename_i v;simp only[];generalize ni a v=d;cases d<;>rfl)
def vO(a:IntKind)(b:R):Option R:=
 match b with
 |.v (.int _ c)=>β (.v (.int a (a.wrap c)))
 |_=>ε
def Sn{a:IntKind}:vO e0 (.v (.int a b1))=β (.v (.int e0 (e0.wrap b1))):=rfl
def Sp:G K (.ib e0 Y) j f s=dj (vO e0 (ah j Y)) (bT (λa=>s a f) ()):=by simp only[G,vO];generalize ah j Y=b;cases b<;>first|rfl|(rename_i v;cases v<;>rfl)
def oF(a:Ctx)(b:FuncId)(c:Χ)(d:U)(h:R->U->Prop):Prop:=hb a.p b c d h (up a.k)
def Sq{a:List Operand}:G K (.fv b4 a) j f s=oF K b4 (a.map (ah j)) f (bX s ()):=rfl
def vP(a:Nat)(b:R):Option R:=
 match b with
 |.aF c=>c[a]?
 |_=>ε
def Sr:vP e (.aF g)=g[e]? :=rfl
def Ss:G K (.ext Y e) j f s=dj (vP e (ah j Y)) (bT (λa=>s a f) ()):=by simp only[G,vP];generalize ah j Y=b;cases b<;>first|rfl|(rename_i c;cases c[e]? <;>rfl)
def St(c:Bool)(a b:R):Option R:=
 match a,b with
 |.v (.bool a),.v (.bool b)=>β (.v (.bool (xor c (a==b))))
 |_,_=>ε
def Su{a b:Bool}:St I (.v (.bool a)) (.v (.bool b))=β (.v (.bool (xor I (a==b)))):=rfl
def ri(a:Bool)(b c:R):Option R:=
 match b,c with
 |.ptr _ _,.v (.pointer ε)=>β (.v (.bool a))
 |.bR _,.v (.pointer ε)=>β (.v (.bool a))
 |.v (.pointer ε),.v (.pointer ε)=>β (.v (.bool (!a)))
 |_,_=>ε
def Sv:ri I (.ptr e i) (.v (.pointer ε))=β (.v (.bool I)):=rfl
def Sw:ri I (.bR g) (.v (.pointer ε))=β (.v (.bool I)):=rfl
def Sx:ri I (.v (.pointer ε)) (.v (.pointer ε))=β (.v (.bool (!I))):=rfl
def Sy:G K (.pD I Y e5) j f s=dj (ri I (ah j Y) (ah j e5)) (bT (λd=>s d f) ()):=by
 simp only[G,ri];generalize ah j Y=h;generalize ah j e5=c;cases h<;>first
  |rfl
  |(rename_i v;cases v<;>first
    |rfl
    |(cases c<;>first|rfl|(rename_i b;cases b<;>first|rfl|(rename_i a;cases a<;>rfl)))
    |(rename_i a;cases a<;>first|rfl|(cases c<;>first|rfl|(rename_i b;cases b<;>first|rfl|(rename_i a;cases a<;>rfl)))))
  |(cases c<;>first|rfl|(rename_i b;cases b<;>first|rfl|(rename_i a;cases a<;>rfl))|(simp only[hF,hd];done))
def intOf(a:R):Option Int:=
 match a with
 |.v (.int _ b)=>β b
 |_=>ε
end
def pR(a:List (Nat×Option (Bool×Nat)))(b:R->U->Prop):fH->Fr->U->Prop:=pN ⟨0,0,.skip,a⟩ b
def aZ(c:m.follows .mixedOrders=η){a:List (Nat×Option (Bool×Nat))}(d:di m M i=β ⟨e,v,h6,a⟩)(h:α g<=e)
  (k:bP (Ctx.of m) h6 (pR a s) (ly g) f):AC m i g f s:=by
 refine I4 c d h ?_;have b:pN ⟨e,v,h6,a⟩ s=pR a s:=by funext b j f;rfl
 rw[b];exact k
def Sz:ly g e=g.getD e (.aF []):=rfl
theorem SA{c:ar}:pN c s .ret j f=dj (il j f c.results) λd=>∃b,b.sub f/\s d b:=by
 apply propext;simp only[pN];constructor
 .rintro⟨d,b,a,h,k⟩;rw[a];exact⟨b,h,k⟩
 .intro a;cases o:il j f c.results with
  |none=>rw[o]at a;exact a.elim
  |some d=>rw[o]at a;obtain⟨b,h,k⟩:=a;grind
def SB{a:List (Nat×Option (Bool×Nat))}:pR a s .ret j f=dj (il j f a) (bT (λc=>∃b,b.sub f/\s c b) ()):=SA
def SC{a:List (Nat×Option (Bool×Nat))}:pR a s .norm j f=pR a s .ret j f:=rfl
def SD:il j f []=β (.aF []):=rfl
def SE{a:Nat×Option (Bool×Nat)}:il j f [a]=fI j f a:=by simp only[il,eR];cases fI j f a<;>rfl
def SF:fI j f (e,ε)=β (j e):=rfl
def Az(a:Bool)(b:Nat)(c:U)(d:R):Option R:=
 match d with
 |.ptr h off=>pQ a b off (c.read h)
 |_=>ε
def SG:Az I e f (.ptr i v)=pQ I e v (f.read i):=rfl
def SH:fI j f (e,β (I,i))=Az I i f (j e):=by rfl
def U.sV:(f.set i X) e=if e=i then β X else f e:=rfl
def U.AA:(f.set e (.cells g)).read e=β g:=by simp[U.read,U.set]
def U.SI:(f.set e (.ro g)).read e=β g:=by simp[U.read,U.set]
def U.SJ(a:e≠i):(f.set i X).read e=f.read e:=by simp[U.read,U.set,a]
def U.SK:dR (f.set e (.cells g)) e=β g:=by simp[dR,U.set]
def U.SL(a:e≠i):dR (f.set i X) e=dR f e:=by simp[dR,U.set,a]
def U.af(a:f e=β (.cells g)):f.read e=β g:=by simp[U.read,a]
def U.aK(a:f e=β (.cells g)):dR f e=β g:=by simp[dR,a]
theorem U.gq(a:(f.set i X) e=ε):e≠i/\f e=none:=by grind[U.set]
def U.AB{a:bl}(b:i≠e):((f.set e a).set i j6).set e X=((f.set e X).set i j6):=by rw[U.dU _ b,σ]
def U.AD{b a:bl}(c:i≠e)(d:v≠e):(((f.set e b).set i j6).set v a).set e X=(((f.set e X).set i j6).set v a):=by rw[U.dU _ d,AB c]
def U.AE{c a b:bl}(d:i≠e)(h:v≠e)(k:M≠e):((((f.set e c).set i j6).set v a).set M b).set e X=((((f.set e X).set i j6).set v a).set M b):=by rw[U.dU _ k,AD d h]
def U.AF{d a b c:bl}(h:i≠e)(k:v≠e)(o:M≠e)(p:b9≠e):(((((f.set e d).set i j6).set v a).set M b).set b9 c).set e X=(((((f.set e X).set i j6).set v a).set M b).set b9 c):=by rw[U.dU _ p,AE h k o]
def U.AG{h a b c d:bl}(k:i≠e)(o:v≠e)(p:M≠e)(r:b9≠e)(x:h9≠e):((((((f.set e h).set i j6).set v a).set M b).set b9 c).set h9 d).set e X=((((((f.set e X).set i j6).set v a).set M b).set b9 c).set h9 d):=by rw[U.dU _ x,AF k o p r]
def U.AH{a:Nat}{o b c d h k:bl}(p:i≠e)(r:v≠e)(x:M≠e)(y:b9≠e)(z:h9≠e)(C:a≠e):(((((((f.set e o).set i j6).set v b).set M c).set b9 d).set h9 h).set a k).set e X=(((((((f.set e X).set i j6).set v b).set M c).set b9 d).set h9 h).set a k):=by rw[U.dU _ C,AG p r x y z]
def U.AI{a b:Nat}{r c d h k o p:bl}(x:i≠e)(y:v≠e)(z:M≠e)(C:b9≠e)(D:h9≠e)(E:a≠e)(F:b≠e):((((((((f.set e r).set i j6).set v c).set M d).set b9 h).set h9 k).set a o).set b p).set e X=((((((((f.set e X).set i j6).set v c).set M d).set b9 h).set h9 k).set a o).set b p):=by rw[U.dU _ F,AH x y z C D E]
def U.SM{a b c:Nat}{y d h k o p r x:bl}(z:i≠e)(C:v≠e)(D:M≠e)(E:b9≠e)(F:h9≠e)(G:a≠e)(L:b≠e)(P:c≠e):(((((((((f.set e y).set i j6).set v d).set M h).set b9 k).set h9 o).set a p).set b r).set c x).set e X=(((((((((f.set e X).set i j6).set v d).set M h).set b9 k).set h9 o).set a p).set b r).set c x):=by rw[U.dU _ P,AI z C D E F G L]
def aO{b:cy j2}(c:∀a,f a=ε->j2 a):iq f (bT j2 b):=c
def cz{h:cy (bP K (.loop h6) e6 j f)}(a:Fr->U->Prop)(b:Fr->U->Nat)(k:a j f)(o:∀j f,a j f->bP K h6 (eo (λc d=>a c d/\b c d<b j f) e6) j f):
  cj (bP K (.loop h6) e6 j f) h:=⟨a,b,k,o⟩
theorem ak{c:cy s}(d:AC K.p b4 g f Z)(h:∀a b,Z a b->s a b):oF K b4 g f (bX s c):=(d.mono h).p
theorem U.a6:f.sub f:=λ_ _ a=>a
theorem U.ag(a:u.sub f)(c:u e=ε):u.sub (f.set e X):=λd h b=>by
 rw[U.sV];split;simp_all
 .exact a _ _ b
theorem U.kB(b:u.sub f):(u.set e X).sub (f.set e X):=λd h a=>by
 rw[U.sV]at a|-;split;simp_all
 .rename_i c;rw[if_neg c]at a;exact b _ _ a
end
theorem wrap_i64(c: -9223372036854775808<=b1)(d:b1<9223372036854775808):IntKind.i64.wrap b1=b1:=by have a:((2:Int)^IntKind.i64.bits)=18446744073709551616:=rfl;have b:((2:Int)^(IntKind.i64.bits - 1))=9223372036854775808:=rfl;simp only[IntKind.wrap,a,b,IntKind.signed,a4q,decide_eq_true_eq];omega
theorem rj:IntKind.u64.wrap b1=b1%18446744073709551616:=by have a:((2:Int)^IntKind.u64.bits)=18446744073709551616:=rfl;rfl
def vQ:IntKind.u32.wrap b1=b1%4294967296:=by have a:((2:Int)^IntKind.u32.bits)=4294967296:=rfl;rfl
def sW:IntKind.u8.wrap b1=b1%256:=by have a:((2:Int)^IntKind.u8.bits)=256:=rfl;rfl
theorem wrap_u64(a:0<=b1)(b:b1<18446744073709551616):IntKind.u64.wrap b1=b1:=by rw[rj];omega
def wrap_u32(a:0<=b1)(b:b1<4294967296):IntKind.u32.wrap b1=b1:=by rw[vQ];omega
theorem wrap_u8(a:0<=b1)(b:b1<256):IntKind.u8.wrap b1=b1:=by rw[sW];omega
def SN(a:UInt8):IntKind.u32.wrap (a.toNat:Int)=(a.toUInt32.toNat:Int):=by have:=a.toNat_lt;rw[wrap_u32 δ δ];simp
def SO(a:UInt8):IntKind.u64.wrap (a.toNat:Int)=(a.toUInt64.toNat:Int):=by have:=a.toNat_lt;rw[wrap_u64 δ δ];simp
def SP(a:UInt32):IntKind.u8.wrap (a.toNat:Int)=(a.toUInt8.toNat:Int):=by rw[sW];simp
def SQ(a:UInt64):IntKind.u8.wrap (a.toNat:Int)=(a.toUInt8.toNat:Int):=by rw[sW];simp
section
variable(a b:Int)
def SR:br .add (.int .i64 a) (.int .i64 b)=β (.int .i64 (IntKind.i64.wrap (a+b))):=rfl
def SS:br .sub (.int .i64 a) (.int .i64 b)=β (.int .i64 (IntKind.i64.wrap (a - b))):=rfl
def SU:br .mul (.int .i64 a) (.int .i64 b)=β (.int .i64 (IntKind.i64.wrap (a*b))):=rfl
def SV(c:b≠0):br .quo (.int .i64 a) (.int .i64 b)=β (.int .i64 (IntKind.i64.wrap (a.tdiv b))):=by simp[br,fE,iO,c]
def SX(c:b≠0):br .rem (.int .i64 a) (.int .i64 b)=β (.int .i64 (a.tmod b)):=by simp[br,fE,iO,c]
variable(k:IntKind)
def SY:br .eql (.int k a) (.int k b)=β (.bool (decide (a=b))):=by simp[br,fE,iO]
def SZ:br .neq (.int k a) (.int k b)=β (.bool (decide (a≠b))):=by simp[br,fE,iO]
def T0:br .lss (.int k a) (.int k b)=β (.bool (decide (a<b))):=by simp[br,fE,iO]
def T1:br .leq (.int k a) (.int k b)=β (.bool (decide (a<=b))):=by simp[br,fE,iO]
def T2:br .gtr (.int k a) (.int k b)=β (.bool (decide (b<a))):=by simp[br,fE,iO]
def T3:br .geq (.int k a) (.int k b)=β (.bool (decide (b<=a))):=by simp[br,fE,iO]
def T4(c:Bool):ni .not (.bool c)=β (.bool !c):=rfl
end
def T5(a b:Int):br .add (.int .u64 a) (.int .u64 b)=β (.int .u64 (IntKind.u64.wrap (a+b))):=rfl
def T6(a b:Int):br .sub (.int .u64 a) (.int .u64 b)=β (.int .u64 (IntKind.u64.wrap (a - b))):=rfl
def T7(a b:Int):br .mul (.int .u64 a) (.int .u64 b)=β (.int .u64 (IntKind.u64.wrap (a*b))):=rfl
theorem rk(c:Nat)(d:IntKind)(b:Int)(k:0<=b)(o:b<64):br .shr (.int .u64 c) (.int d b)=β (.int .u64 (c>>>b.toNat:Nat)):=by
 obtain⟨a,rfl⟩:∃a:Nat,b=a:=⟨b.toNat,δ⟩;have h:min a IntKind.u64.bits=a:=by simp[IntKind.bits];omega
 have p:(2)^a=((2^a:Nat):Int):=ρ;simp only[br,fE,if_true,nh,if_neg (show¬(a:Int)<0 by omega),a3p,h,a4g];grind
def oG(a:Nat):IntKind.u8.wrap (a:Int)=((ς a).toNat:Int):=by rw[sW];simp
variable{B:Τ}
theorem T8(a:0<=b1)(b:b1.toNat<α B):cJ 1 (.J (B.map ao) O) (.v (.int e0 b1))=β (.bR [.v (.int .u8 (B.getD b1.toNat 0).toNat)]):=by
 rw[fJ a,a3u,Ν b];have:B.getD b1.toNat 0=B[b1.toNat]:=by simp_all
 rw[this];rfl
def T9(a:Decidable True):@decide True a=true:=ρ
def Ta(a:Decidable False):@decide False a=false:=ρ
def AJ:aP η e g=.agg (g.take e):=rfl
def AK:τ (.J g O)=[.J g O]:=rfl
def AL:τ (.v e3)=[.v e3]:=rfl
def AM:τ (.ptr e i)=[.ptr e i]:=rfl
def AN:τ (.bR g)=[.bR g]:=rfl
def AO:τ (.iface b2 q)=[.iface b2 q]:=rfl
def hg:τ (.agg g)=g:=rfl
theorem sX(a:α g=α A):putAt A 0 g=g:=by simp[putAt,a]
def Tb:aP ι 1 (q::g)=q:=rfl
section
variable(x y:UInt32)
def Tc:br .add (.int .u32 x.toNat) (.int .u32 y.toNat)=β (.int .u32 (x+y).toNat):=by rfl
def Td:br .sub (.int .u32 x.toNat) (.int .u32 y.toNat)=β (.int .u32 (x - y).toNat):=by have:=x.toNat_lt;have:=y.toNat_lt;simp only[br,fE,iO,vQ,UInt32.toNat_sub];simp;omega
def Te:br .mul (.int .u32 x.toNat) (.int .u32 y.toNat)=β (.int .u32 (x*y).toNat):=by rfl
def sY(a:Nat)(b:a<4294967296):IntKind.u32.wrap (a:Int)=a:=wrap_u32 δ δ
def ofInt_u32:π 32 (x.toNat:Int)=x.toBitVec:=by simp
def Tf:br .and (.int .u32 x.toNat) (.int .u32 y.toNat)=β (.int .u32 (x&&&y).toNat):=by have a:br .and (.int .u32 x.toNat) (.int .u32 y.toNat)=β (.int .u32 (IntKind.u32.wrap (π 32 (x.toNat)&&&π 32 (y.toNat)).toNat)):=rfl;rw[a,ofInt_u32,ofInt_u32,sY _ (a6M _)];rfl
def Tg:br .or (.int .u32 x.toNat) (.int .u32 y.toNat)=β (.int .u32 (x|||y).toNat):=by have a:br .or (.int .u32 x.toNat) (.int .u32 y.toNat)=β (.int .u32 (IntKind.u32.wrap (π 32 (x.toNat)|||π 32 (y.toNat)).toNat)):=rfl;rw[a,ofInt_u32,ofInt_u32,sY _ (a6M _)];rfl
def Th:br .xor (.int .u32 x.toNat) (.int .u32 y.toNat)=β (.int .u32 (x^^^y).toNat):=by have a:br .xor (.int .u32 x.toNat) (.int .u32 y.toNat)=β (.int .u32 (IntKind.u32.wrap (π 32 (x.toNat)^^^π 32 (y.toNat)).toNat)):=rfl;rw[a,ofInt_u32,ofInt_u32,sY _ (a6M _)];rfl
def Ti:ni .xor (.int .u32 x.toNat)=β (.int .u32 (~~~x).toNat):=by
 have a:ni .xor (.int .u32 x.toNat)=β (.int .u32 (IntKind.u32.wrap (π 32 4294967295^^^π 32 (x.toNat)).toNat)):=rfl;rw[a,ofInt_u32,sY _ (a6M _)];have:(π 32 4294967295^^^x.toBitVec)= ~~~x.toBitVec:=by rw[BitVec.not_def];rfl
 rw[this];rfl
theorem Tj(c:IntKind)(a:Int)(h:0<=a)(k:a<32):br .shl (.int .u32 x.toNat) (.int c a)=β (.int .u32 (x<<<UInt32.ofNat a.toNat).toNat):=by
 obtain⟨b,rfl⟩:∃b:Nat,a=b:=⟨a.toNat,δ⟩;have hm:b<32:=δ;have d:min b IntKind.u32.bits=b:=by simp[IntKind.bits];omega
 simp only[br,fE,if_true,nh,if_neg (show¬(b:Int)<0 by omega),a3p,d,vQ,UInt32.toNat_shiftLeft,UInt32.toNat_ofNat',a6w];grind
theorem Tk(c:IntKind)(a:Int)(h:0<=a)(k:a<32):br .shr (.int .u32 x.toNat) (.int c a)=β (.int .u32 (x>>>UInt32.ofNat a.toNat).toNat):=by
 obtain⟨b,rfl⟩:∃b:Nat,a=b:=⟨a.toNat,δ⟩;have hm:b<32:=δ;have d:min b IntKind.u32.bits=b:=by simp[IntKind.bits];omega
 simp only[br,fE,if_true,nh,if_neg (show¬(b:Int)<0 by omega),a3p,d,UInt32.toNat_shiftRight,UInt32.toNat_ofNat',a4g];grind
end
def bc(a:Nat)(b:Χ):Prop:=∀c∈b,α c.cells=a
def Tl:bc e []=True:=by simp[bc]
def AP:bc e (q::g)=(α q.cells=e/\bc e g):=by simp[bc]
theorem Tm:bc e (g++A)=(bc e g/\bc e A):=by grind[bc]
theorem sZ:bc 1 (B.map ao)=True:=by simp[bc,ao,τ]
def bj(a b:U)(h:Nat)(c:Χ)(k:Own):Prop:=
 a.sub b/\match k with
  |.buf d o=>a d=ε/\b d=β (.buf h (α c) o)
  |.any=>False
  |_=>c=[]
theorem U.au(c:f.sub u)(d:u.sub e1):f.sub e1:=λa b h=>d a b (c a b h)
def U.bH(b:f.sub u)(a:u e=ε):f e=none:=by
 cases bS:f e with
 |none=>rfl
 |some c=>rw[b e c bS]at a;cases a
theorem bj.nil(a:u.sub f){b:Nat}:bj u f b [] .nil:=⟨a,rfl⟩
def bj.zero(a:u.sub f){b:Nat}:bj u f b [] .zero:=⟨a,rfl⟩
def bj.sub{a:Nat}{b:Χ}{c:Own}(d:bj u f a b c):u.sub f:=d.1
theorem bj.base{o:Own}(b:bj u f e g o)(c:e1.sub u):bj e1 f e g o:=by
 refine⟨U.au c b.1,?_⟩;have a:=b.2;cases o with
 |buf d h=>exact⟨U.bH c a.1,a.2⟩
 |_=>exact a
def bj.mono(b:bj u f e g O)(c:f.sub e1):bj u e1 e g O:=by
 refine⟨U.au b.1 c,?_⟩;have a:=b.2;cases O with
 |buf d h=>exact⟨a.1,c _ _ a.2⟩
 |_=>exact a
theorem bj.set{c a:Nat}{d:Χ}{b:Own}{ob p:bl}(h:bj u f c d b)(k:u a=β p):bj (u.set a ob) (f.set a ob) c d b:=by
 refine⟨U.kB h.1,?_⟩;have o:=h.2;cases b with
 |buf r x=>
  have y:r≠a:=by rintro rfl;rw[o.1]at k;cases k
  grind[ξ]
 |_=>exact o
theorem bj.new{ob:bl}(a:bj u f i g O)(b:f e=ε):bj (u.set e ob) (f.set e ob) i g O:=by
 refine⟨U.kB a.1,?_⟩;have c:=a.2;cases O with
 |buf d h=>
  have k:d≠e:=by rintro rfl;rw[c.2]at b;cases b
  grind[ξ]
 |_=>exact c
def mw(d x:Nat)(c:U)(y z:R)(k:R->U->Prop):Prop:=
 match y,z with
 |.J xs r,.J a _=>(∀o∈xs,α o.cells=d)/\(∀o∈a,α o.cells=d)/\(α xs+α a)*x<=140737488355328/\α xs+α a<=9223372036854775807/\
   match r with
   |.buf p C=>c p=β (.buf d (α xs) C)/\∀b h,(b=p\/c b=ε)->k (.J (xs++a) (.buf b h)) ((c.del p).set b (.buf d (α xs+α a) h))
   |.any=>False
   |_=>xs=[]/\(if a=[]then k (.J [] r) c else∀b h,c b=ε->k (.J a (.buf b h)) (c.set b (.buf d (α a) h)))
 |_,_=>False
def Tn:G K (.app e i Y e5) j f s=mw e i f (ah j Y) (ah j e5) (bX s ()):=rfl
theorem ei{C:cy s}(a:bj u f e g O)(D:bc e g)(E:bc e A)(F:(α g+α A)*i<=140737488355328)(G:α g+α A<=9223372036854775807)
  (c:∀p r,bj u r e (g++A) p->s (.J (g++A) p) r):mw e i f (.J g O) (.J A e4) (bX s C):=by
 have d:=a.2;refine⟨D,E,F,G,?_⟩;cases O with
 |any=>trivial
 |nil=>
  obtain rfl:g=[]:=d;refine⟨rfl,?_⟩;split
  .rename_i h;subst h;exact c _ _ ⟨a.1,rfl⟩
  .intro k x b;refine c _ _ ⟨U.ag a.1 (U.bH a.1 b),U.bH a.1 b,?_⟩;rw[ν];simp
 |zero=>
  obtain rfl:g=[]:=d;refine⟨rfl,?_⟩;split
  .rename_i h;subst h;exact c _ _ ⟨a.1,rfl⟩
  .intro k x b;refine c _ _ ⟨U.ag a.1 (U.bH a.1 b),U.bH a.1 b,?_⟩;rw[ν];simp
 |buf L T=>
  refine⟨d.2,λk x b=>c _ _ ?_⟩;have y:u k=none:=by rcases b with rfl|b;exact d.1;exact U.bH a.1 b
  refine⟨U.ag (λz P o=>?_) y,y,?_⟩
  .have S:z≠L:=by rintro rfl;rw[d.1]at o;cases o
   rw[U.eg _ S];exact a.1 z P o
  .rw[ν,a2V]
def iU(d:Nat)(b:U)(a:Χ)(h:R->U->Prop):Prop:=
 (∀k∈a,α k.cells=d)/\(if α a=0 then h (.J [] .zero) b else∀c,b c=ε->h (.J a (.buf c (α a))) (b.set c (.buf d (α a) (α a))))
def To{a:List Operand}:G K (.jv e a) j f s=iU e f (a.map (ah j)) (bX s ()):=by simp only[G,iU,bX,a3k]
def eb{k:cy s}(a:u.sub f)(o:bc e g)(b:∀c d,bj u d e g c->s (.J g c) d):iU e f g (bX s k):=by
 refine⟨o,?_⟩;split
 .rename_i p;obtain rfl:=a2Y p;exact b _ _ ⟨a,rfl⟩
 .intro r h;exact b _ _ ⟨U.ag a (U.bH a h),U.bH a h,by rw[ν]⟩
def cA(a:Option R)(b:Nat):Option Int:=
 match a with
 |none=>β b
 |some c=>intOf c
def fc(a:Own)(b c:Option R):Own:=
 match b,c with
 |none,ε=>a
 |_,_=>.any
def dN(c:Nat)(a:R)(d h:Option R):Option R:=
 match a with
 |.J xs p=>match cA d 0,cA h (α xs) with
  |some a,β b=>if 0<=a/\a<=b/\b<=α xs/\xs.all (λr=>decide (α r.cells=c))then β (.J ((xs.take b.toNat).drop a.toNat) (fc p d h))else ε
  |_,_=>ε
 |.bB k off len cap o=>match cA d 0,cA h len with
  |some a,β b=>if o=c/\0<=a/\a<=b/\b<=len/\a<len then β (.bB k (off+a.toNat*c) (b.toNat - a.toNat) (cap - a.toNat) c)else ε
  |_,_=>ε
 |.aq k len cap o=>match cA d 0,cA h len with
  |some a,β b=>if o=c/\0<=a/\a<=b/\b<=len/\(d.isSome=η->a<len)then β (qR d.isSome k a.toNat b.toNat cap c)else ε
  |_,_=>ε
 |_=>ε
def vR(a:Option Operand)(b:Nat):dg j a b=cA (a.map (ah j)) b:=by
 cases a with
 |none=>rfl
 |some a=>simp only[dg,cA,a3P,intOf];rfl
def Tp(a b:Option Operand):uW O a b=fc O (a.map (ah j)) (b.map (ah j)):=by cases a<;>cases b<;>rfl
theorem Tq{a d:Option Operand}:G K (.oq e Y a d) j f s=dj (dN e (ah j Y) (a.map (ah j)) (d.map (ah j))) (bT (λo=>s o f) ()):=by
 have p:a.isSome=(a.map (ah j)).isSome:=ρ;simp only[G,dN,vR,Tp (j:=j) a d,p];generalize ah j Y=r;generalize a.map (ah j)=h;generalize d.map (ah j)=k;cases r<;>try rfl
 .rename_i x D;simp only[];generalize cA h 0=b;generalize cA k (α x)=c;cases b<;>cases c<;>try rfl
  simp only[hF,hd,a3h,decide_eq_true_eq];grind
 .rename_i y E len z C;simp only[];generalize cA h 0=b;generalize cA k len=c;cases b<;>cases c<;>try rfl
  simp only[hF,hd];grind
 .rename_i y len z C;simp only[];generalize cA h 0=b;generalize cA k len=c;cases b<;>cases c<;>try rfl
  simp only[hF,hd];grind
def Tr(a:0<=b1)(b:b1<=v):dN e (.aq i v M e) ε (β (.v (.int e0 b1)))=β (.aq i b1.toNat M e):=by simp[dN,cA,intOf,a,b,qR]
def Ts(a:bc e g):dN e (.J g O) ε ε=β (.J g O):=by
 have:(g.all λb=>decide (α b.cells=e))=true:=by simpa[bc] using a
 simp[dN,cA,fc,this]
theorem pS(a:0<=b1)(b:b1<=α g)(c:bc e g):dN e (.J g O) (β (.v (.int e0 b1))) ε=β (.J (g.drop b1.toNat) .any):=by
 have:(g.all λd=>decide (α d.cells=e))=true:=by simpa[bc] using c
 simp[dN,cA,fc,intOf,this,a,b]
theorem ns(a:0<=b1)(b:b1<=α g)(c:bc e g):dN e (.J g O) ε (β (.v (.int e0 b1)))=β (.J (g.take b1.toNat) .any):=by grind[decide,bc,dN,cA,fc,intOf]
theorem AQ{b:IntKind}{a:Int}(c:0<=b1)(d:b1<=a)(h:a<=α g)(k:bc e g):dN e (.J g O) (β (.v (.int e0 b1))) (β (.v (.int b a)))=β (.J ((g.take a.toNat).drop b1.toNat) .any):=by grind[decide,bc,dN,cA,fc,intOf]
def ta(b:Bool)(a:List (Nat×bZ))(c d:R)(h:R->Prop):Prop:=
 match c,d with
 |.agg cs,.agg cF=>db a cs/\db a cF/\h (.v (.bool (xor b (peq (.agg cs) (.agg cF)))))
 |_,_=>False
variable{j1:List (Nat × bZ)}
def Tt:G K (.eqv I j1 Y e5) j f s=ta I j1 (ah j Y) (ah j e5) (bT (λa=>s a f) ()):=rfl
theorem Tu{a:R->Prop}:ta I j1 (.agg g) (.agg A) a=gp (db j1 g/\db j1 A) (cj (a (.v (.bool (xor I (peq (.agg g) (.agg A)))))) ()):=by simp only[ta,gp,cj];grind
def Tv:(B.map ao).drop e=(B.drop e).map ao:=ρ
def Tw:(B.map ao).take e=(B.take e).map ao:=ρ
def bj.Tx(a:u.sub f):bj u f 1 (([]:Τ).map ao) .nil:=⟨a,rfl⟩
theorem mx{a:Τ}{d:cy s}(h:bj u f 1 (B.map ao) O)(k:α B+α a<=140737488355328)
  (o:∀b c,bj u c 1 ((B++a).map ao) b->s (.J ((B++a).map ao) b) c):mw 1 1 f (.J (B.map ao) O) (.J (a.map ao) e4) (bX s d):=by
 grind[ei,sZ]
def vS{a:UInt8}{d:cy s}(h:bj u f 1 (B.map ao) O)(k:α B+1<=140737488355328)
  (o:∀b c,bj u c 1 ((B++[a]).map ao) b->s (.J ((B++[a]).map ao) b) c):mw 1 1 f (.J (B.map ao) O) (.J [ao a] e4) (bX s d):=
 mx (a:=[a]) h k o
def rl{a:UInt8}{d:cy s}(h:u.sub f)(k:∀b c,bj u c 1 [ao a] b->s (.J [ao a] b) c):iU 1 f [.v (.int .u8 a.toNat)] (bX s d):=
 eb (g:=[a].map ao) h (by rw[sZ];trivial) k
def vT(a:e<α B):(B.map ao)[e]?=β (.v (.int .u8 (B.getD e 0).toNat)):=by
 rw[a3u,Ν a];have:B.getD e 0=B[e]:=by simp[a]
 rw[this];rfl
def AR{b c:Fr->U->Prop}(d:∀j f,b j f->c j f):∀(h:List bW)(j:Fr)(f:U),ij K h b j f->ij K h c j f
 |[],j,f,a=>d j f a
 |_::k,j,f,a=>r1 (λj f a=>AR d k j f a) a
def AS{b:Nat->bW}{c d:Fr->U->Prop}(h:∀j f,c j f->d j f):∀(k:List cU)(j:Fr)(f:U),can K b c k j f->can K b d k j f
 |[],j,f,a=>h j f a
 |_::o,j,f,a=>⟨a.1,r1 (λj f a=>⟨a.1,AS h o j f a.2⟩) a.2⟩
theorem iu:∀(o:dM) {h k:fH->Fr->U->Prop} (_:∀c j f,h c j f->k c j f) (j:Fr) (f:U),bP K o h j f->bP K o k j f
 |.skip,_,_,b,j,f,a=>b _ j f a
 |.ret,_,_,b,j,f,a=>b _ j f a
 |.exit _,_,_,b,j,f,a=>b _ j f a
 |.plain ops,_,_,b,j,f,a=>AR (b _) ops j f a
 |.draw _ y,_,_,b,j,f,a=>AS (b _) y j f a
 |.seq d p,h,k,b,j,f,a=>iu d (λc j f a=>by
   cases c with
   |norm=>exact iu p b j f a
   |exit x=>exact b _ j f a
   |ret=>exact b _ j f a) j f a
 |.block x d,h,k,b,j,f,a=>iu d (λc j f a=>by
   cases c with
   |norm=>exact b _ j f a
   |exit G=>simp only[kz]at a|-;grind
   |ret=>exact b _ j f a) j f a
 |.cond o d p,h,k,b,j,f,a=>by
   simp only[vK,Ar,jK]at a|-;split at a
   .exact⟨λr=>iu d b j f (a.1 r),λr=>iu p b j f (a.2 r)⟩
   .trivial
 |.loop d,h,k,b,j,f,a=>by
   obtain⟨z,C,D,E⟩:=a;exact⟨z,C,D,λj f F=>iu d (λc j f a=>by
    cases c with
    |norm=>exact a
    |exit x=>exact b _ j f a
    |ret=>exact b _ j f a) j f (E j f F)⟩
def rm{b c:dM}{k:cy (bP K b (eo (bP K h6 e6) e6) j f)}{o:cy (bP K c (eo (bP K h6 e6) e6) j f)}(d:Fr->U->Prop)
  (p:I=η->bP K b (eo d e6) j f) (r:I=ι->bP K c (eo d e6) j f) (x:∀j f,d j f->bP K h6 e6 j f):
  jK (.v (.bool I)) (cj (bP K b (eo (bP K h6 e6) e6) j f) k) (cj (bP K c (eo (bP K h6 e6) e6) j f) o):=by
 have hm:∀h j f,eo d e6 h j f->eo (bP K h6 e6) e6 h j f:=λh j f a=>by
  cases h with
  |norm=>exact x j f a
  |exit y=>exact a
  |ret=>exact a
 exact⟨λa=>iu b hm j f (p a),λa=>iu c hm j f (r a)⟩
def oH(b c:R):Option R:=
 match b,c with
 |.v (.string d),.v (.int _ a)=>if 0<=a then(match d.data[a.toNat]? with|some h=>β (.v (.int .u8 h.toNat))|none=>ε)else ε
 |_,_=>ε
def Ty:G K (.lk Y e5) j f s=dj (oH (ah j Y) (ah j e5)) (bT (λc=>s c f) ()):=by
 simp only[G,oH];generalize ah j Y=d;generalize ah j e5=h;cases d<;>first
  |rfl
  |(rename_i v;cases v<;>first
    |rfl
    |(cases h<;>first
      |rfl
      |(rename_i k o;cases o<;>first
        |rfl
        |(
          rename_i r a;simp only[];by_cases b:0<=a
          .simp only[b,true_and,if_true];generalize k.data[a.toNat]?=p;cases p<;>rfl
          .simp[b,dj]))))
def rn(a b:Nat)(c:U)(d:R):Option R:=
 match d with
 |.ptr h off=>match c h with
  |some (.ro cs)=>if off+b*a<=α cs then β (.J (ez a b (cs.drop off)) .any)else ε
  |_=>ε
 |_=>ε
def Tz:G K (.jw e i Y ε ε) j f s=dj (rn e i f (ah j Y)) (bT (λa=>s a f) ()):=by
 simp only[G,rn,dg];generalize ah j Y=b;cases b<;>first
  |rfl
  |(
    rename_i c k;simp only[];generalize f c=d;cases d with
    |none=>simp[dj]
    |some h=>cases h with
     |ro cs=>simp only[hF,hd];simp
     |_=>simp[dj])
def TA(a:f i=β (.ro g))(b:α g=e):rn 1 e f (.ptr i 0)=β (.J g .any):=by simp[rn,a,b,ez,a2U]
theorem vU(a:e<64):br .shl (.int .i64 b1) (.int e0 (e:Int))=β (.int .i64 (IntKind.i64.wrap (b1*2^e))):=by
 have b:min e IntKind.i64.bits=e:=by simp[IntKind.bits];omega
 simp_all [br,fE,nh]
def AT(a b:Option R):Option R:=
 match a,b with
 |some a,β b=>β (.aF [a,b])
 |_,_=>ε
def TB:AT (β q) (β b7)=β (.aF [q,b7]):=rfl
def TC{a b:Nat×Option (Bool×Nat)}:il j f [a,b]=AT (fI j f a) (fI j f b):=by simp only[il,eR];cases fI j f a<;>cases fI j f b<;>rfl
def AU(a b c:Option R):Option R:=
 match a,b,c with
 |some a,β b,β c=>β (.aF [a,b,c])
 |_,_,_=>ε
def TD{a:R}:AU (β q) (β b7) (β a)=β (.aF [q,b7,a]):=rfl
def TE{a b c:Nat×Option (Bool×Nat)}:il j f [a,b,c]=AU (fI j f a) (fI j f b) (fI j f c):=by simp only[il,eR];cases fI j f a<;>cases fI j f b<;>cases fI j f c<;>rfl
def TF:((0:Nat):Int)=0:=rfl
def TG:((1:Nat):Int)=1:=rfl
def TH:((e:Int).tmod (i:Int))=((e%i:Nat):Int):=rfl
def AV:((e:Int).tmod 64)=((e%64:Nat):Int):=TH (i:=64)
def iV:=
 υ @R4<|
 υ @R5<|
 υ @R6<|
 υ @R7<|
 υ @R8<|
 υ @R9<|
 υ @Ra<|
 υ @vK<|
 υ @Rb<|
 υ @hd<|
 υ @R3<|
 υ @Rc<|
 υ @Re<|
 υ @Rf<|
 υ @Rg<|
 υ @Rh<|
 υ @Rj<|
 υ @Ri<|
 υ @Rk<|
 υ @Rl<|
 υ @Rm<|
 υ @Rt<|
 υ @Rv<|
 υ @Rw<|
 υ @Rz<|
 υ @Rx<|
 υ @Ry<|
 υ @RA<|
 υ @RB<|
 υ @RF<|
 υ @RG<|
 υ @RD<|
 υ @RE<|
 υ @RM<|
 υ @RP<|
 υ @RQ<|
 υ @RR<|
 υ @RS<|
 υ @RV<|
 υ @RX<|
 υ @S0<|
 υ @S3<|
 υ @S5<|
 υ @S6<|
 υ @Sc<|
 υ @Sf<|
 υ @Sj<|
 υ @S8<|
 υ @Sa<|
 υ @Sk<|
 υ @Sm<|
 υ @Sp<|
 υ @Sq<|
 υ @Ss<|
 υ @Tn<|
 υ @To<|
 υ @Tq<|
 υ @Ty<|
 υ @Tz<|
 υ @Tt<|
 υ @Sy<|
 υ @RH<|
 υ @RI<|
 υ @Sz<|
 υ @Sd<|
 υ @Se<|
 υ @SB<|
 @SC
def iW:=
 υ @Au<|
 υ @Av<|
 υ @Rn<|
 υ @Ro<|
 υ @Rp<|
 υ @Rq<|
 υ @Rr<|
 υ @RC<|
 υ @eq_self.{1}<|
 υ @Ru<|
 υ @a3X.{0}<|
 υ @a4j.{0}<|
 υ @Tu<|
 υ @Option.map_none.{0,0}<|
 υ @Ts<|
 υ @pS<|
 υ @ns<|
 υ @AQ<|
 υ @Tv<|
 υ @Tw<|
 υ @RJ<|
 υ @RK<|
 υ @RL<|
 υ @r9<|
 υ @As<|
 υ @RN<|
 υ @RO<|
 υ @RT<|
 υ @RU<|
 υ @Ax<|
 υ @RW<|
 υ @RY<|
 υ @RZ<|
 υ @S1<|
 υ @S2<|
 υ @rf<|
 υ @S4<|
 υ @T8<|
 υ @vM<|
 υ @kA<|
 υ @Sb<|
 υ @Sh<|
 υ @S7<|
 υ @S9<|
 υ @Si<|
 υ @rh<|
 υ @Sl<|
 υ @Sn<|
 υ @Sr<|
 υ @Su<|
 υ @Sv<|
 υ @Sw<|
 υ @Sx<|
 υ @a3P.{0,0}<|
 υ @SE<|
 υ @SF<|
 υ @SD<|
 υ @SH<|
 υ @SG<|
 υ @sX<|
 υ @a3q.{0,0}<|
 υ @a4L.{0,0}<|
 υ @SR<|
 υ @SS<|
 υ @SU<|
 υ @SV<|
 υ @SX<|
 υ @SY<|
 υ @SZ<|
 υ @T0<|
 υ @T1<|
 υ @T2<|
 υ @T3<|
 υ @T4<|
 υ @Tc<|
 υ @Td<|
 υ @Te<|
 υ @Tf<|
 υ @Tg<|
 υ @Th<|
 υ @Ti<|
 υ @Tj<|
 υ @Tk<|
 υ @wrap_i64<|
 υ @SN<|
 υ @SO<|
 υ @SP<|
 υ @SQ<|
 υ @T5<|
 υ @T6<|
 υ @T7<|
 υ @rk<|
 υ @wrap_u64<|
 υ @Tb<|
 υ @AJ<|
 υ @a3k.{0,0}<|
 υ @a3e.{0}<|
 υ @a3a.{0}<|
 υ @U.AA<|
 υ @U.SI<|
 υ @U.SJ<|
 υ @U.SK<|
 υ @U.SL<|
 υ @σ<|
 υ @U.AB<|
 υ @U.AD<|
 υ @U.AE<|
 υ @U.AF<|
 υ @U.AG<|
 υ @U.AH<|
 υ @U.AI<|
 υ @U.SM<|
 υ @AK<|
 υ @AL<|
 υ @AM<|
 υ @AN<|
 υ @AO<|
 υ @hg<|
 υ @a4P.{0}<|
 υ @and_self<|
 υ @a3t<|
 υ @a3M<|
 υ @a5H<|
 υ @a3p<|
 υ @true_and<|
 υ @and_true<|
 υ @a4K<|
 υ @a3w<|
 υ @T9<|
 @Ta
def fe:=
 υ @TF<|
 υ @TG<|
 υ @TC<|
 υ @TB<|
 υ @TE<|
 @TD
def aR:=
 υ @a3e.{0}<|
 υ @a3a.{0}<|
 υ @a3k.{0,0}<|
 υ @a2V.{0}<|
 υ @a4E.{0}<|
 υ @List.length_range<|
 υ @a2X.{0}<|
 υ @a3i.{0}<|
 υ @AK<|
 υ @AL<|
 υ @AM<|
 υ @AN<|
 υ @AO<|
 υ @hg<|
 υ @sZ<|
 υ @Tl<|
 υ @AP<|
 υ @Tm<|
 υ @and_true<|
 υ @true_and<|
 υ @a3t<|
 υ @eq_self.{1}<|
 @and_self
def bo(a:Τ):R:=.v (.string ⟨a.toArray⟩)
theorem toList_mk(a:Τ):(⟨a.toArray⟩:ByteArray).toList=a:=ρ
theorem AW(a b:Τ):br .eql (.string ⟨a.toArray⟩) (.string ⟨b.toArray⟩)=β (.bool (decide (a=b))):=by grind[br,py,toList_mk]
theorem AX(a b:Τ):br .neq (.string ⟨a.toArray⟩) (.string ⟨b.toArray⟩)=β (.bool (decide (a≠b))):=by grind[br,py,toList_mk]
def nt(a:Τ):(⟨a.toArray⟩:ByteArray).size=α a:=by rfl
variable{t:bb}{l h7:World}
section
def TI:ra K ⟨β e,e2,β (i,I)⟩ j f=hf (j i) I (cj (G K e2 j f (λa _=>a=j e)) ()) (cj ((.aF []:R)=j e) ()):=rfl
def TJ{a:Option Nat}:Def K ⟨a,e2,β (e,I)⟩ j=hf (j e) I (cj (G K e2 j U.emp (λ_ _=>True)) ()) (cj True ()):=rfl
def my(a:R):Option R:=
 match a with
 |.J xs _=>match bytesOf xs with
  |some b=>β (.v (.string ⟨b.toArray⟩))
  |none=>ε
 |_=>ε
def AY:my (.J (B.map ao) O)=β (.v (.string ⟨B.toArray⟩)):=by simp[my,qQ]
def TK:G K (.pE Y) j f s=dj (my (ah j Y)) (bT (λa=>s a f) ()):=by simp only[G,my];generalize ah j Y=b;cases b<;>first|rfl|(rename_i c h;simp only[];generalize bytesOf c=d;cases d<;>rfl)
def pT(d:Bool)(a b:R):Option R:=
 match a,b with
 |.v (.int c a),.v (.int h b)=>if c=h then β (.v (.int c (if d then max a b else min a b)))else ε
 |_,_=>ε
def TL{a:Int}:pT η (.v (.int e0 b1)) (.v (.int e0 a))=β (.v (.int e0 (max b1 a))):=by simp[pT]
def TM{a:Int}:pT ι (.v (.int e0 b1)) (.v (.int e0 a))=β (.v (.int e0 (min b1 a))):=by simp[pT]
def TN:G K (.lo I e0 Y e5) j f s=dj (pT I (ah j Y) (ah j e5)) (bT (λa=>s a f) ()):=by
 simp only[G,pT];generalize ah j Y=b;generalize ah j e5=c;cases b<;>first
  |rfl
  |(rename_i v;cases v<;>first
    |rfl
    |(cases c<;>first
      |rfl
      |(rename_i d;cases d<;>first|rfl|(simp only[hF,hd]))))
def rp(a:R):Option R:=
 match a with
 |.v (.string b)=>β (.v (.int .i64 b.size))
 |_=>ε
def vV:rp (.v (.string ⟨B.toArray⟩))=β (.v (.int .i64 (α B))):=by rfl
def TO:G K (.pC Y) j f s=dj (rp (ah j Y)) (bT (λa=>s a f) ()):=by simp only[G,rp];generalize ah j Y=b;cases b<;>first|rfl|(rename_i v;cases v<;>rfl)
def pU(a:R)(d h:Option R):Option R:=
 match a with
 |.v (.string b)=>match cA d 0,cA h b.size with
  |some a,β c=>if 0<=a/\a<=c/\c<=b.size then β (.v (.string (b.extract a.toNat c.toNat)))else ε
  |_,_=>ε
 |_=>ε
def vW(a:Τ)(b c:Nat):(⟨a.toArray⟩:ByteArray).extract b c=⟨((a.take c).drop b).toArray⟩:=by apply ByteArray.ext;simp only[ByteArray.data_extract];simp[a4i]
def TP(a:0<=b1)(b:b1<=α B):pU (.v (.string ⟨B.toArray⟩)) (β (.v (.int e0 b1))) ε=β (.v (.string ⟨(B.drop b1.toNat).toArray⟩)):=by simp[pU,cA,intOf,nt,a,b,vW]
def TQ(a:0<=b1)(b:b1<=α B):pU (.v (.string ⟨B.toArray⟩)) ε (β (.v (.int e0 b1)))=β (.v (.string ⟨(B.take b1.toNat).toArray⟩)):=by simp[pU,cA,intOf,nt,a,b,vW]
def TR{b:IntKind}{a:Int}(c:0<=b1)(d:b1<=a)(h:a<=α B):pU (.v (.string ⟨B.toArray⟩)) (β (.v (.int e0 b1))) (β (.v (.int b a)))=β (.v (.string ⟨((B.take a.toNat).drop b1.toNat).toArray⟩)):=by simp[pU,cA,intOf,nt,c,d,h,vW]
theorem AZ(a:0<=b1)(b:b1<α B):oH (.v (.string ⟨B.toArray⟩)) (.v (.int e0 b1))=β (.v (.int .u8 (B.getD b1.toNat 0).toNat)):=by grind[List.getD,oH]
def B0(c:Nat)(h:U)(r x:R)(p:R->U->Prop):Prop:=
 match r,x with
 |.bB d off a _ k,.J b _=>k=c/\(∀o∈b,α o.cells=c)/\match h d with
  |some (.cells cs)=>off+a*c<=α cs/\p (.v (.int .i64 (min (α b) a))) (h.set d (.cells (putAt cs off (flat (b.take a)))))
  |_=>False
 |.aq d a _ k,.J b _=>k=c/\(∀o∈b,α o.cells=c)/\match h d with
  |some (.cells cs)=>a*c<=α cs/\p (.v (.int .i64 (min (α b) a))) (h.set d (.cells (putAt cs 0 (flat (b.take a)))))
  |_=>False
 |_,_=>False
def TS:G K (.mb e Y e5) j f s=B0 e f (ah j Y) (ah j e5) (bX s ()):=rfl
def B1{a:cy s}(b:bc e g)(c:f v=β (.cells A))(d:M+i*e<=α A)
  (h:s (.v (.int .i64 (min (α g) i))) (f.set v (.cells (putAt A M (flat (g.take i)))))):B0 e f (.bB v M i b9 e) (.J g O) (bX s a):=by
 refine⟨rfl,b,?_⟩;rw[c];trivial
def tb(c b:Nat)(k:U)(a:R)(o p:Option R):Option R:=
 match a with
 |.ptr h off=>match cA o 0,cA p b with
  |some a,β d=>match k.read h with
   |some cs=>if 0<=a/\a<=d/\d<=b/\off+b*c<=α cs/\a<b then β (.bB h (off+a.toNat*c) (d.toNat - a.toNat) (b - a.toNat) c)else ε
   |none=>ε
  |_,_=>ε
 |_=>ε
def vX(a:f.read v=β g)(b:M+e*i<=α g)(c:0<e):tb i e f (.ptr v M) ε ε=β (.bB v M e e i):=by simp[tb,cA,a,b,c]
theorem TT{a b:Option Operand}:G K (.kr i e Y a b ι) j f s=dj (tb i e f (ah j Y) (a.map (ah j)) (b.map (ah j))) (bT (λc=>s c f) ()):=by
 simp only[G,tb,vR];generalize ah j Y=d;generalize a.map (ah j)=h;generalize b.map (ah j)=k;cases d<;>try rfl
 rename_i o y;simp only[];generalize cA h 0=p;generalize cA k e=r;generalize f.read o=x;cases p<;>cases r<;>cases x<;>first
  |rfl
  |(simp[dj];done)
  |(
    simp only[hF,hd,a3R,if_false];grind)
def oI(d:Nat)(b:U)(a:Χ)(h:R->U->Prop):Prop:=
 (∀k∈a,α k.cells=d)/\(if α a=0 then h (.J [] .zero) b else∀c,b c=ε->h (.aq c (α a) (α a) d) (b.set c (.cells (flat a))))
def TU{a:List Operand}:G K (.jy e a) j f s=oI e f (a.map (ah j)) (bX s ()):=by simp only[G,oI,bX,a3k]
def rq{a:cy s}:oI e f [] (bX s a)=s (.J [] .zero) f:=by simp[oI,bX]
def iv{b:cy s}(c:bc e g)(d:g≠[])(h:∀a,f a=ε->s (.aq a (α g) (α g) e) (f.set a (.cells (flat g)))):oI e f g (bX s b):=by refine⟨c,?_⟩;rw[if_neg (λk=>d (a2Y k))];exact h
def B2(d h:Nat)(k:Χ)(c:U)(o p:R)(r:R->U->Prop):Prop:=
 match o,p with
 |.v (.int _ a),.v (.int _ x)=>a=x/\0<=a/\a<=9223372036854775807/\a*h<=281474976710656/\∀b,c b=ε->r (.aq b a.toNat a.toNat d) (c.set b (.cells (ζ a.toNat k).flatten))
 |_,_=>False
def TV:G K (.jx e i g Y e5) j f s=B2 e i g f (ah j Y) (ah j e5) (bX s ()):=rfl
theorem TW{b:IntKind}{c:cy s}(d:e*v<=281474976710656)(h:e<=9223372036854775807)(k:∀a,f a=ε->s (.aq a e e i) (f.set a (.cells (ζ e g).flatten))):
  B2 i v g f (.v (.int e0 (e:Int))) (.v (.int b (e:Int))) (bX s c):=⟨rfl,δ,δ,δ,λa o=>by
 grind[bX,Int.toNat_natCast]⟩
def lC(c z:Nat)(d:U)(E F:R)(x:R->U->Prop):Prop:=
  match mm d c F with
  |some (b,y)=>match E with
    |.J xs D=>xs=[]/\(D=.nil\/D=.zero)/\b*z<=140737488355328/\b<=9223372036854775807/\
      (if b=0 then x (.J [] D) d else∀h k p,d h=ε->b<=k->k<=maxLen->α p=(k - b)*c->x (.aq h b k c) (d.set h (.cells (y++p))))
    |.aq r a k C=>match d r with
      |some (.cells cs)=>C=c/\α cs=k*c/\(a+b)*z<=140737488355328/\a+b<=9223372036854775807/\
        (if a+b<=k then x (.aq r (a+b) k c) (d.set r (.cells (putAt cs (a*c) y)))
         else∀h o p,d h=ε->a+b<=o->o<=maxLen->α p=(o -(a+b))*c->x (.aq h (a+b) o c) (d.set h (.cells (cs.take (a*c)++y++p))))
      |some (.eZ cs)=>C=c/\α cs=k*c/\(a+b)*z<=140737488355328/\a+b<=9223372036854775807/\
        (if a+b<=k then x (.aq r (a+b) k c) (d.set r (.eZ (putAt cs (a*c) y)))
         else∀h o p,d h=ε->a+b<=o->o<=maxLen->α p=(o -(a+b))*c->x (.aq h (a+b) o c) (d.set h (.cells (cs.take (a*c)++y++p))))
      |_=>False
    |.bB r off a k C=>match d r with
      |some (.cells cs)=>C=c/\off+k*c<=α cs/\(a+b)*z<=140737488355328/\a+b<=9223372036854775807/\
        (if a+b<=k then x (.bB r off (a+b) k c) (d.set r (.cells (putAt cs (off+a*c) y)))
         else∀h o p,d h=ε->a+b<=o->o<=maxLen->α p=(o -(a+b))*c->x (.aq h (a+b) o c) (d.set h (.cells ((cs.drop off).take (a*c)++y++p))))
      |_=>False
    |_=>False
  |none=>False
def TX:G K (.lp e i Y e5) j f s=lC e i f (ah j Y) (ah j e5) (bX s ()):=rfl
def aw(p r:U)(a:Nat)(d:Χ)(h:R):Prop:=
 p.sub r/\((d=[]/\(h=.J [] .nil\/h=.J [] .zero))\/∃k b c o,h=.aq k b c a/\p k=ε/\r k=β (.cells o)/\α o=c*a/\o.take (b*a)=d/\α d=b*a/\b<=c/\c<=maxLen)
theorem aw.nil{a b:U}{c:Nat}(d:a.sub b):aw a b c [] (.J [] .nil):=⟨d,.inl ⟨rfl,.inl rfl⟩⟩
def aw.zero{a b:U}{c:Nat}(d:a.sub b):aw a b c [] (.J [] .zero):=⟨d,.inl ⟨rfl,.inr rfl⟩⟩
def aw.mono{a:R}(d:aw f u e g a)(c:u.sub e1):aw f e1 e g a:=by
 obtain⟨h,b⟩:=d;refine⟨U.au h c,?_⟩;rcases b with b|⟨k,o,p,r,x,y,z,C⟩
 .exact .inl b
 .exact .inr ⟨k,o,p,r,x,y,c _ _ z,C⟩
theorem aw.base(c:aw f e1 e g q)(b:u.sub f):aw u e1 e g q:=by
 obtain⟨d,a⟩:=c;refine⟨U.au b d,?_⟩;rcases a with a|⟨h,k,o,p,r,x,y⟩
 .exact .inl a
 .exact .inr ⟨h,k,o,p,r,U.bH b x,y⟩
def aw.new{ob:bl}(h:aw u f i g q)(k:f e=ε):aw (u.set e ob) (f.set e ob) i g q:=by
 obtain⟨o,a⟩:=h;refine⟨U.kB o,?_⟩;rcases a with a|⟨c,p,r,x,y,z,b,C⟩
 .exact .inl a
 .have d:c≠e:=by rintro rfl;rw[k]at b;cases b
  exact .inr ⟨c,p,r,x,y,by rw[ξ _ _ d];exact z,by rw[ξ _ _ d];exact b,C⟩
theorem aw.src(b:aw u f e g q):∃a,α g=a*e/\c8 f e q=β (a,g)/\fY q=β (.v (.int .i64 a)):=by
 obtain⟨h,c⟩:=b;rcases c with⟨rfl,rfl|rfl⟩|⟨k,a,o,p,rfl,r,x,y,z,d,C,D⟩
 .exact⟨0,ρ,rfl,rfl⟩
 .exact⟨0,ρ,rfl,rfl⟩
 .refine⟨a,d,?_,rfl⟩;simp_all [a3g,c8,U.af]
theorem fx{l:cy s}(m:aw u f e A q)(G:0<e)(n:c8 f e b7=β (i,g))(h:α g=i*e)(t:(α A+α g)*v<=140737488355328*e)(w:α A+α g<=9223372036854775807)
  (r:∀L P,aw u P e (A++g) L->s L P):lC e v f q b7 (bX s l):=by
 obtain⟨b,B⟩:=m;unfold lC;rw[uX n];simp only[bX];have dg:∀a,α A=a*e->(a+i)*v<=140737488355328/\a+i<=9223372036854775807:=by
  intro a H;have x:α A+α g=(a+i)*e:=by rw[H,h,a3U]
  rw[x]at t w;constructor
  .have:(a+i)*v*e<=140737488355328*e:=by grind
   exact Nat.le_of_mul_le_mul_right this G
  .have:(a+i)*1<=(a+i)*e:=a7f _ G;omega
 rcases B with⟨rfl,Y⟩|⟨I,a,c,y,rfl,S,K,z,T,V,Z,M⟩
 .obtain⟨C,W⟩:=dg 0 ρ;have k0:∀k,(k=.nil\/k=.zero)->(([]:Χ)=[]/\(k=.nil\/k=.zero)/\i*v<=140737488355328/\i<=9223372036854775807/\
   (if i=0 then s (.J [] k) f else∀d c o,f d=ε->i<=c->c<=maxLen->α o=(c - i)*e->s (.aq d i c e) (f.set d (.cells (g++o))))):=by
   intro k N;refine⟨rfl,N,by simpa using C,δ,?_⟩;split
   .rename_i hm;subst hm;have:g=[]:=a2Y (by simpa using h);subst this;refine r _ _ ⟨b,.inl ⟨rfl,?_⟩⟩;simp_all
   .intro d c o p D E F;refine r _ _ ⟨U.ag b (U.bH b p),.inr ⟨d,i,c,g++o,rfl,U.bH b p,ν _ _ _,?_,?_,by trivial,D,E⟩⟩
    .rw[a2V,h,F,<-a3U];congr 1;omega
    .rw[<-h,a5w];rfl
  grind
 .obtain⟨C,W⟩:=dg a V;simp only[K];refine⟨trivial,z,C,W,?_⟩;have O:(y.take (a*e)).length=a*e:=by rw[T,V]
  split
  .rename_i j;have Q:a*e+α g<=α y:=by rw[h,z,<-a3U];exact a3g _ j
   refine r _ _ ⟨U.ag b S,.inr ⟨I,a+i,c,_,rfl,S,ν _ _ _,?_,?_,by grind,j,M⟩⟩
   .rw[eh _ _ _ Q,z]
   .have x:(a+i)*e=(y.take (a*e)++g).length:=by grind
    rw[putAt,x,a5w,T]
  .intro d X o p D E F;refine r _ _ ⟨U.ag b (U.bH b p),.inr ⟨d,a+i,X,_,rfl,U.bH b p,ν _ _ _,?_,?_,by grind,D,E⟩⟩
   .rw[a2V,a2V,O,h,F,<-a3U,<-a3U];congr 1;omega
   .have x:(a+i)*e=(y.take (a*e)++g).length:=by grind
    grind
theorem TY:c8 f 1 (.J (B.map ao) O)=β (α B,B.map ao):=by grind[ao,decide,τ,c8,qU]
def vY(a:U)(b:R):Option R:=
 match c8 a 1 b with
 |some (_,xs)=>match bytesOf xs with
  |some c=>β (.v (.string ⟨c.toArray⟩))
  |none=>ε
 |none=>ε
def TZ(a:c8 f 1 q=β (e,B.map ao)):vY f q=β (.v (.string ⟨B.toArray⟩)):=by simp[vY,a,qQ]
def vZ(a:R):Option R:=
 match a with
 |.v (.string b)=>β (.J (b.data.toList.map ao) .any)
 |_=>ε
def U0:vZ (.v (.string ⟨B.toArray⟩))=β (.J (B.map ao) .any):=by rfl
def U1:G K (.ou Y) j f s=dj (vZ (ah j Y)) (bT (λa=>s a f) ()):=by simp only[G,vZ];generalize ah j Y=b;cases b<;>first|rfl|(rename_i v;cases v<;>rfl)
theorem aQ.frozen{v:Value}(h:Holds t f l)(k:f M=β (.ro g))(o:e*i<=α g)(p:aQ t v (.aq M e b9 i)):aQ t v (.J (ez i e g) .any):=by
 obtain⟨r,x,T,L,P,c,S⟩:=h.cM M _ k;have V:=c.1;cases p with
 |aq M e b9 i hk y=>
  obtain⟨z,C,d⟩:=vc hk o r;by_cases D:e=0
  .subst D;have:=a2Y d;rw[this];exact .cX _ _ _ (λE=>by cases E) trivial
  .refine .J M 0 e b9 i (λa=>x.getD a Go.undef) _ .any hk d.symm y z ?_ ?_ ?_ trivial;grind;grind
   .intro a F b;rw[C]at b;have G:a<e*i:=by grind
    rw[a3O G]at b;exact c.2 a F b
end
def B3:=
 υ @TU<|
 υ @TX<|
 υ @TV<|
 υ @U1<|
 υ @TK<|
 υ @TN<|
 υ @TO<|
 υ @TS<|
 υ @TT<|
 υ @TI<|
 @TJ
def B4:=
 υ @U0<|
 υ @jL<|
 υ @Sg<|
 υ @Tr<|
 υ @AY<|
 υ @TL<|
 υ @TM<|
 υ @vV<|
 υ @TP<|
 υ @TQ<|
 υ @TR<|
 υ @vX<|
 υ @AX<|
 υ @AW<|
 υ @AZ<|
 υ @ite_true.{1}<|
 υ @ite_false.{1}<|
 υ @a3H<|
 υ @a3E<|
 υ @a5x<|
 υ @Bool.true_xor<|
 υ @a4q<|
 υ @a5b<|
 υ @decide_true<|
 @decide_false
section
def U2{a b:List Operand}:G K (.bA b4 a b) j f s=mv (.bA b4 (a.map (ah j)) (b.map (ah j))) (bT (λc=>s c f) ()):=rfl
def w0(a:Ctx)(b:R)(c:Χ)(d:U)(h:R->U->Prop):Prop:=
 match b with
 |.bA fn cF cs=>fa a.p fn=η/\hb a.p fn (cF++c++cs) d h (up a.k)
 |_=>False
def U3{a:List Operand}:G K (.ic Y a) j f s=w0 K (ah j Y) (a.map (ah j)) f (bX s ()):=rfl
def eC{c:cy s}(d:fa K.p b4=η)(h:AC K.p b4 (g++c0++A) f Z)(k:∀a b,Z a b->s a b):w0 K (.bA b4 g A) c0 f (bX s c):=⟨d,(h.mono k).p⟩
def U4:G K (.pF b2 Y) j f s=mv (.iface b2 (ah j Y)) (bT (λa=>s a f) ()):=rfl
def oJ(d:TypeId)(a:Bool)(b:R)(h:R):Option R:=
 match h with
 |.iface k c=>if k=d then β (if a then .aF [c,.v (.bool η)]else c)else if a=η then β (.aF [b,.v (.bool ι)])else ε
 |.v .nilIface=>if a=η then β (.aF [b,.v (.bool ι)])else ε
 |_=>ε
def U5:oJ b2 η b7 (.iface b2 q)=β (.aF [q,.v (.bool η)]):=by simp[oJ]
def U6{a:TypeId}(b:a≠b2):oJ b2 η q (.iface a b7)=β (.aF [q,.v (.bool ι)]):=by simp[oJ,b]
def U7:oJ b2 η q (.v .nilIface)=β (.aF [q,.v (.bool ι)]):=by rfl
def U8:oJ b2 ι b7 (.iface b2 q)=β q:=by simp[oJ]
def B5(a:Bool)(b:R):Option R:=
 match b with
 |.iface _ _=>β (.v (.bool a))
 |.v .nilIface=>β (.v (.bool (!a)))
 |_=>ε
def U9:B5 I (.iface b2 q)=β (.v (.bool I)):=rfl
def Ua:B5 I (.v .nilIface)=β (.v (.bool (!I))):=rfl
def B6(a:Bool)(b:R):Option R:=
 match b with
 |.bA _ _ _=>β (.v (.bool a))
 |.v .nilFunc=>β (.v (.bool (!a)))
 |_=>ε
def Ub:B6 I (.bA e g A)=β (.v (.bool I)):=rfl
def Uc:B6 I (.v .nilFunc)=β (.v (.bool (!I))):=rfl
def Ud(a:Ctx)(b:R)(c:U):Prop:=
 match b with
 |.iface d h=>up a.k (.iface d h) c
 |_=>False
def Ue:G K (.me Y) j f s=Ud K (ah j Y) f:=rfl
def w1(b:R)(c:U)(d:Nat->ByteArray->Prop):Prop:=
 match b with
 |.v (.string h)=>∀a,c a=ε->d a h
 |_=>False
def Uf:G K (.jz Y) j f s=w1 (ah j Y) f (bX (λa b=>s (.ptr a 0) (f.set a (.it b 0))) ()):=rfl
def B7{a:Nat->ByteArray->Prop}{b:cy a}:w1 (.v (.string ⟨B.toArray⟩)) f (bX a b)=iq f (bT (λc=>a c ⟨B.toArray⟩) ()):=rfl
def w2(h:R)(b:U)(c:R->U->Prop):Prop:=
 match h with
 |.ptr d off=>off=0/\match b d with
  |some (.it a pos)=>if pos<a.size then c (.aF [.v (.bool η),.v (.int .i64 pos),.v (.int .i32 (Utf8.decode a pos).1)]) (b.set d (.it a (pos+(Utf8.decode a pos).2)))else c (.aF [.v (.bool ι)]) b
  |_=>False
 |_=>False
def Ug:G K (.mf Y) j f s=w2 (ah j Y) f (bX s ()):=rfl
def Uh{a:cy s}(b:f i=β (.it ⟨B.toArray⟩ e))(c:e<α B)
  (d:s (.aF [.v (.bool η),.v (.int .i64 e),.v (.int .i32 (Utf8.decode ⟨B.toArray⟩ e).1)]) (f.set i (.it ⟨B.toArray⟩ (e+(Utf8.decode ⟨B.toArray⟩ e).2)))):w2 (.ptr i 0) f (bX s a):=by
 refine⟨rfl,?_⟩;rw[b];simp only[nt,if_pos c];exact d
def Ui{a:cy s}(b:f e=β (.it ⟨B.toArray⟩ i))(c:¬i<α B)(d:s (.aF [.v (.bool ι)]) f):w2 (.ptr e 0) f (bX s a):=by refine⟨rfl,?_⟩;rw[b];simp only[nt,if_neg c];exact d
def w3(a:R):Option R:=
 match a with
 |.J [] .nil=>β (.v (.pointer ε))
 |.aq b _ cap _=>if 0<cap then β (.ptr b 0)else ε
 |_=>ε
def Uj:w3 (.J [] .nil)=β (.v (.pointer ε)):=rfl
def Uk(a:0<i):w3 (.aq e v i M)=β (.ptr e 0):=by simp[w3,a]
def Ul:bP K .refuse e6 j f=False:=rfl
def U.Um:(f.set e (.od b2 g)).read e=β g:=by simp[U.read,U.set]
def Un:(R.bA e g A).cells=[.bA e g A]:=rfl
def Uo:rb (.bA e g A)=β (.bA e g A):=rfl
def lD(a:Bool)(b:U)(h k:R):Option R:=
 match h,k with
  |.ptr _ _,.v (.pointer ε)=>β (.v (.bool a))
  |.v (.pointer ε),.ptr _ _=>β (.v (.bool a))
  |.v (.pointer ε),.v (.pointer ε)=>β (.v (.bool (!a)))
  |.ptr c o,.ptr d p=>if hD b c=η/\hD b d=η then β (.v (.bool (xor a (decide (c=d/\o=p)))))else ε
  |_,_=>ε
def Up:G K (.ln I Y e5) j f s=dj (lD I f (ah j Y) (ah j e5)) (bT (λd=>s d f) ()):=by
 simp only[G,lD];generalize ah j Y=h;generalize ah j e5=c;cases h<;>first
  |rfl
  |(rename_i v;cases v<;>first
    |rfl
    |(rename_i k;cases k<;>first|rfl|(cases c<;>first|rfl|(rename_i a;cases a<;>first|rfl|(rename_i b;cases b<;>rfl)))))
  |(cases c<;>first|rfl|(rename_i a;cases a<;>first|rfl|(rename_i b;cases b<;>rfl))|(simp only[hF,hd];done))
def B8(a:hD f e=η):lD I f (.ptr e i) (.ptr e i)=β (.v (.bool (!I))):=by simp[lD,a]
def Uq:lD I f (.ptr e i) (.v (.pointer ε))=β (.v (.bool I)):=rfl
def Ur:lD I f (.v (.pointer ε)) (.ptr e i)=β (.v (.bool I)):=rfl
def Us:lD I f (.v (.pointer ε)) (.v (.pointer ε))=β (.v (.bool (!I))):=rfl
end
def Ut:(η==η)=true:=rfl
def Uu:(η==ι)=false:=rfl
def Uv:(ι==η)=false:=rfl
def Uw:(ι==ι)=true:=rfl
def B9:=
 υ @U2<|
 υ @U3<|
 υ @U4<|
 υ @Ue<|
 υ @Uf<|
 υ @Ug<|
 υ @Up<|
 @Ul
def Ba:=
 υ @Ut<|
 υ @Uu<|
 υ @Uv<|
 υ @Uw<|
 υ @U5<|
 υ @U6<|
 υ @U7<|
 υ @U8<|
 υ @U9<|
 υ @Ua<|
 υ @Ub<|
 υ @Uc<|
 υ @B7<|
 υ @Uj<|
 υ @Uk<|
 υ @U.Um<|
 υ @Un<|
 υ @Uo<|
 υ @B8<|
 υ @Uq<|
 υ @Ur<|
 @Us
noncomputable def iw (b:R->Option R) (c v:R):R->Option R:=λa=>@ite _ (a=c) (Classical.propDecidable _) (β v) (b a)
def rr{a:R->Option R}{v:R}:iw a q v q=β v:=by simp[iw]
def oK{a:R->Option R}{v:R}(b:q≠b7):iw a b7 v q=a q:=by simp[iw,b]
def w4(b:R):∀(a:List (R×R×Nat))(c:Nat),dw a b c=(dw a b 0).map λd=>(d.1+c,d.2)
 |[],_=>rfl
 |h::a,c=>by
  unfold dw;split
  .simp
  .rw[w4 b a (c+1),w4 b a (0+1)];cases dw a b 0<;>simp[a7j,Nat.add_left_comm,a6o]
theorem kC(b:R×R×Nat)(d:List (R×R×Nat))(a:R):dw (b::d) a 0=@ite _ (a=b.1) (Classical.propDecidable _) (β (0,b.2.1)) ((dw d a 0).map λh=>(h.1+1,h.2)):=by
 conv=>lhs;unfold dw
 rw[w4 a d (0+1)];by_cases c:a=b.1
 .rw[if_pos ((pz _ _).2 c),if_pos c]
 .rw[if_neg (λk=>c ((pz _ _).1 k)),if_neg c]
theorem Bb(b v:R)(o:Nat)(a:R):∀c:List (R×R×Nat),dw c b 0=ε->(dw (c++[(b,v,o)]) a 0).map (·.2)=iw (λa=>(dw c a 0).map (·.2)) b v a
 |[],_=>by
  grind[kC,iw,dw]
 |p::c,h=>by
  rw[kC]at h;split at h
  .cases h
  .next r=>
   have x:dw c b 0=none:=by simp_all
   have ih:=Bb b v o a c x;rw[a4l,kC];by_cases d:a=p.1
   .have k:a≠b:=λy=>r (by rw[<-y];exact d);rw[if_pos d,oK k];rw[kC,if_pos d]
   .rw[if_neg d];by_cases k:a=b;simp_all [rr]
    .rw[oK k]at ih|-;rw[kC,if_neg d,a6k,a6k];exact ih
theorem Bc(c v k:R)(b:R):∀(d:List (R×R×Nat))(o:Nat),dw d c 0=β (o,v)->(dw (d.modify o λh=>(h.1,k,h.2.2)) b 0).map (·.2)=iw (λb=>(dw d b 0).map (·.2)) c k b
 |[],_,a=>by trivial
 |h::d,o,a=>by
  rw[kC]at a;split at a
  .next p=>
   simp only[a3c,a4h]at a;obtain⟨rfl,_⟩:=a;rw[a6R,kC];by_cases a:b=c
   .subst a;rw[rr];simp[p]
   simp_all [oK,kC]
  .next p=>
   cases r:dw d c 0 with
   |none=>rw[r]at a;cases a
   |some y=>
    rw[r]at a;simp only[a3P,a3c,a4h]at a;obtain⟨rfl,rfl⟩:=a;have ih:=Bc c y.2 k b d y.1 r;rw[a6S,kC];by_cases a:b=h.1
    .have x:b≠c:=λz=>p (by rw[<-z];exact a);rw[if_pos a,oK x];rw[kC,if_pos a]
    .rw[if_neg a];by_cases x:b=c;simp_all [rr]
     .rw[oK x]at ih|-;rw[kC,if_neg a,a6k,a6k];exact ih
structure jM(rs:List (Nat×bZ))(us:List (R×R×Nat))(a:Nat)(b:R->Option R):Prop where
 val:∀k,(dw us k 0).map (·.2)=b k
 keys:qP rs us
 born:(us.map (·.2.2)).Nodup
 lt:∀c∈us,c.2.2<a
def jM.new:jM j1 [] 0 λ_=>none:=⟨λ_=>rfl,λb a=>by simp at a,ρ,λb a=>by simp at a⟩
theorem Ux(a:List (R×R×Nat))(c:Nat)(v:R):(a.modify c λb=>(b.1,v,b.2.2)).map (·.2.2)=a.map (·.2.2):=by
 induction a generalizing c with
 |nil=>simp
 |cons b a ih=>grind
theorem mem_modify{b:List (R×R×Nat)}{v:R}{a:R×R×Nat}(d:a∈b.modify e λa=>(a.1,v,a.2.2)):∃c∈b,a.1=c.1/\a.2.2=c.2.2:=by
 induction b generalizing e with
 |nil=>simp at d
 |cons c b ih=>grind
theorem jM.set{a:List (R×R×Nat)}{p:R->Option R}(b:jM j1 a i p){v:R}(r:dw a q 0=β (e,v)):jM j1 (a.modify e λc=>(c.1,b7,c.2.2)) i (iw p q b7) where
 val:=λx=>by
  rw[Bc q v b7 x a e r];simp only[iw];rw[b.val]
 keys:=λc d=>by
  obtain⟨h,k,o,_⟩:=mem_modify d;rw[o];exact b.keys h k
 born:=by rw[Ux];exact b.born
 lt:=λc d=>by
  obtain⟨h,k,_,o⟩:=mem_modify d;rw[o];exact b.lt h k
theorem jM.push{d:List (R×R×Nat)}{h:R->Option R}(b:jM j1 d e h){v:R}(x:db j1 g)(o:dw d (.agg g) 0=ε):jM j1 (d++[(.agg g,v,e)]) (e+1) (iw h (.agg g) v) where
 val:=λp=>by
  rw[Bb _ v e p d o];simp only[iw];rw[b.val]
 keys:=λc a=>by
  rcases a3f.1 a with a|a
  .exact b.keys c a
  simp_all
 born:=by rw[a3V,List.nodup_append];refine⟨b.born,ρ,?_⟩;intro y r z k;obtain⟨c,a,rfl⟩:=a3m.1 r;simp at k;subst k;exact Nat.ne_of_lt (b.lt c a)
 lt:=λc a=>by
  rcases a3f.1 a with a|a
  .exact Nat.lt_succ_of_lt (b.lt c a)
  simp_all
def mz(c:U)(d:Nat)(h:List (Nat×bZ))(k:R->Option R):Prop:=∃a b,c d=β (.mp a b)/\jM h a b k
def a2z(h:U)(k:Nat)(o:List (Nat×bZ))(p:R->Option R)(r:R)(x:Nat):Prop:=
 ∃a b,h k=β (.mp a b)/\∀v,∃c,Gf a (x:Int)=β c/\jM o (a.modify c λd=>(d.1,v,d.2.2)) b (iw p r v)
section
def Uy:G K .jE j f s=iq f (bT (λa=>s (.ey a) (f.set a (.mp [] 0))) ()):=rfl
def tc(a:Bool)(b:List (Nat×bZ))(c:R)(h:U)(k o:R)(d:R->Prop):Prop:=
 match k,o with
 |.ey p,.agg cs=>match h p with
  |some (.mp us _)=>db b cs/\qP b us/\(match dw us (.agg cs) 0 with
   |some (_,v)=>d (if a then .aF [v,.v (.bool η)]else v)
   |none=>d (if a then .aF [c,.v (.bool ι)]else c))
  |_=>False
 |_,_=>False
def Uz:G K (.jG I j1 q Y e5) j f s=tc I j1 q f (ah j Y) (ah j e5) (bT (λa=>s a f) ()):=by simp only[G,tc];generalize ah j Y=b;generalize ah j e5=c;rfl
def td{c:R->Option R}{a:R->Prop}{k:cy a}(o:mz f e j1 c)(p:db j1 g)
  (r:∀v,c (.agg g)=β v->a (if I then .aF [v,.v (.bool η)]else v)) (x:c (.agg g)=ε->a (if I then .aF [q,.v (.bool ι)]else q)):tc I j1 q f (.ey e) (.agg g) (bT a k):=by
 obtain⟨y,C,z,d⟩:=o;simp only[tc,z];refine⟨p,d.keys,?_⟩;have b:=d.val (.agg g);cases h:dw y (.agg g) 0 with
 |none=>rw[h]at b;exact x b.symm
 |some D=>rw[h]at b;exact r _ b.symm
def te(a:List (Nat×bZ))(b:U)(d h v:R)(k:U->Prop):Prop:=
 match d,h with
 |.ey c,.agg cs=>match b c with
  |some (.mp us clock)=>db a cs/\qP a us/\k (b.set c (.mp (ko us (.agg cs) v clock).1 (ko us (.agg cs) v clock).2))
  |_=>False
 |_,_=>False
def UA{v:Operand}:G K (.ks j1 Y e5 v) j f s=te j1 f (ah j Y) (ah j e5) (ah j v) (bT (λa=>s (.aF []) a) ()):=by simp only[G,te];generalize ah j Y=b;generalize ah j e5=c;rfl
def Be{v:R}{c:R->Option R}{a:U->Prop}{o:cy a}(p:mz f e j1 c)(d:db j1 g)
  (r:∀h,mz (f.set e h) e j1 (iw c (.agg g) v)->a (f.set e h)):te j1 f (.ey e) (.agg g) v (bT a o):=by
 obtain⟨x,z,y,b⟩:=p;simp only[te,y];refine⟨d,b.keys,r _ ⟨_,_,ν _ _ _,?_⟩⟩;unfold ko;cases k:dw x (.agg g) 0 with
 |none=>exact b.push d k
 |some C=>exact b.set k
end
theorem Bf{a b:Τ}:ir .neq (bo a) (bo b)=β (.v (.bool (!decide (a=b)))):=by grind[bo,rh,AX]
def pV{a b:Τ}:ir .eql (bo a) (bo b)=β (.v (.bool (decide (a=b)))):=by simp only[bo,rh,AW a b];rfl
def UB:vY f (.J (B.map ao) O)=β (bo B):=TZ TY
def ru:my (.J (B.map ao) O)=β (bo B):=AY
def nu(k:(∀a,R.J a .nil∈g->a=[])->AC m b4 g f s):AC m b4 g f s:=λb o p c r=>by
 refine k (λa x=>?_) b o p c r;obtain⟨d,y,z⟩:=a3B x;have h:=c.2 d _ (by rw[Ν y,z]);generalize b.getD d undef=v at h;cases h with
 |cX=>rfl
 |J C off len cap D E a F hk hlen G L P hH S T=>trivial
def UC:=
 υ @Uy<|
 υ @Uz<|
 @UA
def UD:=
 υ @Bf<|
 υ @pV<|
 υ @UB<|
 @ru
def w5:=υ iV (υ B3 (υ B9 UC))
def UE:=υ iW<|υ fe<|υ B4<|υ Ba UD
attribute [go_sem ↓] w5
attribute [go_sem] UE a5o ne_eq not_true_eq_false not_false_eq_true a5s a5R ah ofConst cv
def ai(a:Q)(b:h3)(c:Q->b5=h3:=by intro d;simp -dsimp -implicitDefEqProofs (disch:=first|omega|assumption|(simp only[aR,Nat.reduceAdd];try omega)) only[go_sem,simprocAttr,-List.reduceReplicate,d];rfl):b5:=(c a).mpr b
def bJ(a:b5)(b:Q=b5:=by simp -dsimp -implicitDefEqProofs (disch:=first|omega|assumption|(simp only[aR,Nat.reduceAdd];try omega)) only[go_sem,simprocAttr,-List.reduceReplicate];rfl):Q:=b.mpr a
def aI(a:Q)(b:h3)(c:Q->b5=h3:=by intro d;simp -dsimp -implicitDefEqProofs (disch:=first|omega|assumption|(simp only[aR,Nat.reduceAdd];try omega)) only[go_sem,simprocAttr,d];rfl):b5:=(c a).mpr b
def dS(a:b5)(b:Q=b5:=by simp -dsimp -implicitDefEqProofs (disch:=first|omega|assumption|(simp only[aR,Nat.reduceAdd];try omega)) only[go_sem,simprocAttr];rfl):Q:=b.mpr a
def cn(a:Q)(b:Q->b5=True:=by intro c;simp -dsimp -implicitDefEqProofs (disch:=first|omega|assumption|(simp only[aR,Nat.reduceAdd];try omega)) only[go_sem,simprocAttr,-List.reduceReplicate,c]):b5:=of_eq_true (b a)
def jN(a:Q=True:=by simp -dsimp -implicitDefEqProofs (disch:=first|omega|assumption|(simp only[aR,Nat.reduceAdd];try omega)) only[go_sem,simprocAttr,-List.reduceReplicate]):Q:=of_eq_true a
def hh(a:Q)(b:Q->b5=True:=by intro c;simp -dsimp -implicitDefEqProofs (disch:=first|omega|assumption|(simp only[aR,Nat.reduceAdd];try omega)) only[go_sem,simprocAttr,c]):b5:=of_eq_true (b a)
def pW(a:Q=True:=by simp -dsimp -implicitDefEqProofs (disch:=first|omega|assumption|(simp only[aR,Nat.reduceAdd];try omega)) only[go_sem,simprocAttr]):Q:=of_eq_true a
def c2(a:Q)(b:b5):Q/\b5:=⟨a,b⟩
def aE(a:Q)(b:b5)(c:h3):Q/\b5/\h3:=⟨a,b,c⟩
def aL(a:Q)(b:b5)(c:h3)(d:j3):Q/\b5/\h3/\j3:=⟨a,b,c,d⟩
def ba(a:Q)(b:b5)(c:h3)(d:j3)(h:j9):Q/\b5/\h3/\j3/\j9:=⟨a,b,c,d,h⟩
def bx{a:Prop}(b:Q)(c:b5)(d:h3)(h:j3)(k:j9)(o:a):Q/\b5/\h3/\j3/\j9/\a:=⟨b,c,d,h,k,o⟩
def cd{a b:Prop}(c:Q)(d:b5)(h:h3)(k:j3)(o:j9)(p:a)(r:b):Q/\b5/\h3/\j3/\j9/\a/\b:=⟨c,d,h,k,o,p,r⟩
def bs{a b c:Prop}(d:Q)(h:b5)(k:h3)(o:j3)(p:j9)(r:a)(x:b)(y:c):Q/\b5/\h3/\j3/\j9/\a/\b/\c:=⟨d,h,k,o,p,r,x,y⟩
def cW{a b c d:Prop}(h:Q)(k:b5)(o:h3)(p:j3)(r:j9)(x:a)(y:b)(z:c)(C:d):Q/\b5/\h3/\j3/\j9/\a/\b/\c/\d:=⟨h,k,o,p,r,x,y,z,C⟩
def ck{a b c d h:Prop}(k:Q)(o:b5)(p:h3)(r:j3)(x:j9)(y:a)(z:b)(C:c)(D:d)(E:h):Q/\b5/\h3/\j3/\j9/\a/\b/\c/\d/\h:=⟨k,o,p,r,x,y,z,C,D,E⟩
def ff{a b c d h k:Prop}(o:Q)(p:b5)(r:h3)(x:j3)(y:j9)(z:a)(C:b)(D:c)(E:d)(F:h)(G:k):Q/\b5/\h3/\j3/\j9/\a/\b/\c/\d/\h/\k:=⟨o,p,r,x,y,z,C,D,E,F,G⟩
def fZ{a b c d h k o:Prop}(p:Q)(r:b5)(x:h3)(y:j3)(z:j9)(C:a)(D:b)(E:c)(F:d)(G:h)(L:k)(P:o):Q/\b5/\h3/\j3/\j9/\a/\b/\c/\d/\h/\k/\o:=⟨p,r,x,y,z,C,D,E,F,G,L,P⟩
def kD{a b c d h k o p:Prop}(r:Q)(x:b5)(y:h3)(z:j3)(C:j9)(D:a)(E:b)(F:c)(G:d)(L:h)(P:k)(S:o)(T:p):Q/\b5/\h3/\j3/\j9/\a/\b/\c/\d/\h/\k/\o/\p:=⟨r,x,y,z,C,D,E,F,G,L,P,S,T⟩
def ga{a b c d h k o p r:Prop}(x:Q)(y:b5)(z:h3)(C:j3)(D:j9)(E:a)(F:b)(G:c)(L:d)(P:h)(S:k)(T:o)(V:p)(W:r):Q/\b5/\h3/\j3/\j9/\a/\b/\c/\d/\h/\k/\o/\p/\r:=⟨x,y,z,C,D,E,F,G,L,P,S,T,V,W⟩
def Bg{a b c d h k o p r x:Prop}(y:Q)(z:b5)(C:h3)(D:j3)(E:j9)(F:a)(G:b)(L:c)(P:d)(S:h)(T:k)(V:o)(W:p)(e:r)(f:x):Q/\b5/\h3/\j3/\j9/\a/\b/\c/\d/\h/\k/\o/\p/\r/\x:=⟨y,z,C,D,E,F,G,L,P,S,T,V,W,e,f⟩
def nv{a b c d h k o p r x y:Prop}(z:Q)(C:b5)(D:h3)(E:j3)(F:j9)(G:a)(L:b)(P:c)(S:d)(T:h)(V:k)(W:o)(e:p)(f:r)(g:x)(i:y):Q/\b5/\h3/\j3/\j9/\a/\b/\c/\d/\h/\k/\o/\p/\r/\x/\y:=⟨z,C,D,E,F,G,L,P,S,T,V,W,e,f,g,i⟩
def nx{a b c d h k o p r x y z:Prop}(C:Q)(D:b5)(E:h3)(F:j3)(G:j9)(L:a)(P:b)(S:c)(T:d)(V:h)(W:k)(e:o)(f:p)(g:r)(i:x)(j:y)(l:z):Q/\b5/\h3/\j3/\j9/\a/\b/\c/\d/\h/\k/\o/\p/\r/\x/\y/\z:=⟨C,D,E,F,G,L,P,S,T,V,W,e,f,g,i,j,l⟩
def UF{a b c d h k o p r x y z C:Prop}(D:Q)(E:b5)(F:h3)(G:j3)(L:j9)(P:a)(S:b)(T:c)(V:d)(W:h)(e:k)(f:o)(g:p)(i:r)(j:x)(l:y)(m:z)(n:C):Q/\b5/\h3/\j3/\j9/\a/\b/\c/\d/\h/\k/\o/\p/\r/\x/\y/\z/\C:=⟨D,E,F,G,L,P,S,T,V,W,e,f,g,i,j,l,m,n⟩
section
def UG:G K (.mg Y) j f s=dj (qS (ah j Y)) (bT (λa=>s a f) ()):=by simp only[G];rfl
def UH:qS (.aq i v e M)=β (.v (.int .i64 e)):=rfl
def UI:qS (.J [] .nil)=β (.v (.int .i64 0)):=rfl
def c9(d:Nat)(x:R)(h k o:Option R):Option R:=
 match x with
 |.aq p len cap r=>match cA h 0,cA k len,cA o cap with
  |some a,β c,β b=>if r=d/\0<=a/\a<=c/\c<=b/\b<=cap then
    β (if h.isSome=η then(if a<b then .bB p (a.toNat*d) (c.toNat - a.toNat) (b.toNat - a.toNat) d else .J [] .zero)else .aq p c.toNat b.toNat d)
   else ε
  |_,_,_=>ε
 |.bB p off len cap r=>match cA h 0,cA k len,cA o cap with
  |some a,β c,β b=>if r=d/\0<=a/\a<=c/\c<=b/\b<=cap then
    β (if a<b then .bB p (off+a.toNat*d) (c.toNat - a.toNat) (b.toNat - a.toNat) d else .J [] .zero)
   else ε
  |_,_,_=>ε
 |.J [] .nil=>match cA h 0,cA k 0,cA o 0 with
  |some a,β c,β b=>if a=0/\c=0/\b=0 then β (.J [] .nil)else ε
  |_,_,_=>ε
 |.J [] .zero=>match cA h 0,cA k 0,cA o 0 with
  |some a,β c,β b=>if a=0/\c=0/\b=0 then β (.J [] .zero)else ε
  |_,_,_=>ε
 |_=>ε
def UJ{a b c:Option Operand}:qT j e q a b c=c9 e q (a.map (ah j)) (b.map (ah j)) (c.map (ah j)):=by simp only[qT,c9,vR,Option.isSome_map];rfl
def UK{a b c:Option Operand}:G K (.lq e Y a b c) j f s=dj (c9 e (ah j Y) (a.map (ah j)) (b.map (ah j)) (c.map (ah j))) (bT (λd=>s d f) ()):=by simp only[G,UJ];rfl
theorem hi(a:v<=i):c9 e (.aq M b9 i e) ε (β (.v (.int e0 (v:Int)))) ε=β (.aq M v i e):=by grind[c9,cA,intOf]
theorem fK(a:e<=v)(b:v<=M)(c:e<M):c9 i (.aq b9 v M i) (β (.v (.int e0 (e:Int)))) ε ε=β (.bB b9 (e*i) (v - e) (M - e) i):=by grind[c9,cA,intOf]
def tf(a:e=v):c9 i (.aq M e v i) (β (.v (.int e0 (e:Int)))) ε ε=β (.J [] .zero):=by subst a;simp[c9,cA,intOf]
theorem Bh{a:IntKind}(b:e<=M)(c:M<=v)(d:e<v):c9 i (.aq b9 h9 v i) (β (.v (.int e0 (e:Int)))) (β (.v (.int a (M:Int)))) ε=β (.bB b9 (e*i) (M - e) (v - e) i):=by grind[c9,cA,intOf]
def UL:c9 e (.J [] .zero) (β (.v (.int e0 0))) ε ε=β (.J [] .zero):=by rfl
def UM:c9 e (.J [] .nil) (β (.v (.int e0 0))) ε ε=β (.J [] .nil):=by rfl
def w6:c9 e (.J [] .nil) ε (β (.v (.int e0 0))) ε=β (.J [] .nil):=by rfl
def Bi(a:Option U)(b:U->Prop):Prop:=
 match a with
 |some c=>b c
 |none=>False
def UN{a:U->Prop}{b:cy a}:Bi (β f) (bT a b)=a f:=rfl
def Bj(a:Option (R×U))(b:R->U->Prop):Prop:=
 match a with
 |some (c,d)=>b c d
 |none=>False
def UO{a:cy s}:Bj (β (q,f)) (bX s a)=s q f:=rfl
def UP:G K (.mh e g Y) j f s=Bi (kt e g (ah j Y) f) (bT (λa=>s (.aF []) a) ()):=by simp only[G];rfl
def UQ:G K (.mi e Y e5) j f s=Bj (lr e (ah j Y) (ah j e5) f) (bX s ()):=by simp only[G];rfl
def UR:G K (.ml Y e5) j f s=dj (ku (ah j Y) (ah j e5) f) (bT (λa=>s a f) ()):=by simp only[G];rfl
def w7(a:f i=β (.cells g))(b:v+M*e<=α g):kt e A (.bB i v M b9 e) f=β (f.set i (.cells (putAt g v (ζ M A).flatten))):=by simp[kt,a,b]
def US:kt e g (.J [] O) f=β f:=rfl
def gP(a:c8 f e q=β (b9,A))(b:f v=β (.cells g))(c:M+i*e<=α g):lr e (.bB v M i h9 e) q f=β (.v (.int .i64 (min b9 i:Nat)),f.set v (.cells (putAt g M (A.take (i*e))))):=by simp[lr,a,b,c]
def w8(a:cG q=β e)(b:cG b7=β i)(c:e≠i)(d:jI f e=η)(h:jI f i=η):ku q b7 f=β (.v (.bool ι)):=by simp[ku,a,b,c,d,h]
def pX(a:f e=β (.cells g))(b:g≠[]):jI f e=true:=by
 cases g with
 |nil=>trivial
 |cons c g=>simp[jI,a]
def rv(c p:Nat)(r:Χ)(k:U)(y z:R)(x:R->U->Prop):Prop:=
 match y,z with
  |.aq C d cap D,.v (.int .i64 a)=>match k.read C with
   |some cs=>D=c/\α cs=cap*c/\0<=a/\cap<d+a.toNat/\(d+a.toNat)*p<=140737488355328/\d+a.toNat<=9223372036854775807/\
    ∀h b o,k h=ε->d+a.toNat<=b->b<=maxLen->α o=(b -(d+a.toNat))*c->x (.aq h (d+a.toNat) b c) (k.set h (.cells (cs.take (d*c)++(ζ a.toNat r).flatten++o)))
   |none=>False
  |.J xs E,.v (.int .i64 a)=>xs=[]/\E=.nil/\0<a/\a.toNat*p<=140737488355328/\a<=9223372036854775807/\
    ∀h b o,k h=ε->a.toNat<=b->b<=maxLen->α o=(b - a.toNat)*c->x (.aq h a.toNat b c) (k.set h (.cells ((ζ a.toNat r).flatten++o)))
  |_,_=>False
def UT:G K (.mj e i g Y e5) j f s=rv e i g f (ah j Y) (ah j e5) (bX s ()):=rfl
def w9{d:cy s}(h:f h9=β (.cells g))(k:α g=M*v)(o:M<e+i)(p:(e+i)*b9<=140737488355328)(r:e+i<=9223372036854775807)
  (x:∀b a c,f b=ε->e+i<=a->a<=maxLen->α c=(a -(e+i))*v->s (.aq b (e+i) a v) (f.set b (.cells (g.take (e*v)++(ζ i A).flatten++c)))):rv v b9 A f (.aq h9 e M v) (.v (.int .i64 (i:Int))) (bX s d):=by
 simp only[rv,U.af h,a3p];exact⟨trivial,k,δ,o,p,r,x⟩
def Bk{d:cy s}(o:0<e)(h:e*v<=140737488355328)(p:e<=9223372036854775807)
  (k:∀b a c,f b=ε->e<=a->a<=maxLen->α c=(a - e)*i->s (.aq b e a i) (f.set b (.cells ((ζ e g).flatten++c)))):rv i v g f (.J [] .nil) (.v (.int .i64 (e:Int))) (bX s d):=by
 simp only[rv,a3p];exact⟨trivial,trivial,δ,h,δ,k⟩
def View(c:U)(h:R)(k:U)(o:R):Prop:=∀(a:bb)(b:World)(v:Value),Holds a c b->aQ a v h->∃d,Step a c b d k b/\aQ d v o
def AC.view(k:AC m b4 g f s)(o:∀a b,s a b->∃c d,View b a d c/\Z c d):AC m b4 g f Z:=
 λp r x y z=>(k p r x y z).mono λ_ _ C=>by
  obtain⟨v,a,D,b,E,h,F,G⟩:=C;obtain⟨c,d,L,P⟩:=o a b G;obtain⟨S,T,V⟩:=L D _ v h.holds F;exact⟨v,c,S,d,E,h.trans T,V,P⟩
def View.refl{a:U}{b:R}:View a b a b:=λc k v d h=>⟨c,.refl d,h⟩
theorem View.J{s:U}{a:Χ}{o:Own}:View s (.J a o) s (.J a .any):=λb E v c d=>by
 refine⟨b,.refl c,?_⟩;cases d with
 |cX h cap dh bS k=>exact .cX h cap .any bS trivial
 |J p off len cap r x a dh hk hlen y z C hH D k=>exact .J p off len cap r x a .any hk hlen y z C hH D trivial
theorem View.aq{b:U}{c n cap k:Nat}{a:Χ}(h:b c=β (.cells a))(o:n*k<=α a):View b (.aq c n cap k) (b.set c (.ro a)) (.J (ez k n a) .any):=λy z v p r=>by
 obtain⟨x,d⟩:=Step.freeze p h;exact⟨x,d,aQ.frozen d.holds (ν _ _ _) o (r.mono d.le)⟩
theorem lE:ez 1 e g=g.take e:=by rfl
theorem UU(c:i<=v):ez e i (g.take (v*e))=ez e i g:=by
 unfold ez;by_cases hk:e=1;grind
 .simp only[hk,if_false];refine a4t λa b=>?_;have b:a<i:=by simpa using b
  have d:a*e+e<=v*e:=by have:(a+1)*e<=v*e:=a3g _ δ;grind
  rw[a4i,a4a,a4w δ]
theorem View.dC(o:aw u f e g q):∃a d,α g=a*e/\u.sub d/\View f q d (.J (ez e a g) .any):=by
 obtain⟨b,p⟩:=o;rcases p with⟨rfl,rfl|rfl⟩|⟨h,a,F,r,rfl,x,y,G,z,C,L,P⟩
 .refine⟨0,f,ρ,b,?_⟩;grind[ez,View.J]
 .refine⟨0,f,ρ,b,?_⟩;grind[ez,View.J]
 .refine⟨a,f.set h (.ro r),C,λk D c=>?_,?_⟩
  .have E:k≠h:=by rintro rfl;rw[x]at c;cases c
   rw[ξ _ _ E];exact b k D c
  .rw[<-z,UU (a3w a)];exact View.aq y (by grind)
theorem View.trans{a b c:U}{d h k:R}(r:View a d b h)(x:View b h c k):View a d c k:=λy o v z C=>by
 obtain⟨D,p,E⟩:=r y o v z C;obtain⟨F,G,L⟩:=x D o v p.holds E;exact⟨F,p.trans G,L⟩
theorem View.aF{c d:U}{b h:R}{a k:Χ}(x:View c b d h):View c (.aF (a++b::k)) d (.aF (a++h::k)):=λy z v C D=>by
 cases D with
 |aF E cs F o=>
  have G:=o (α a) b ρ;obtain⟨L,p,S⟩:=x y z _ C G;refine⟨L,p,.aF E _ (by simpa using F) λr P T=>?_⟩;by_cases V:r=α a;simp_all
  .refine(o r P ?_).mono p.le;grind
theorem View.agg{d h:U}{b c:R}{a k:Χ}(S:c.one=η)(x:View d b h c):View d (.agg (a++b::k)) h (.agg (a++c::k)):=λy z v C D=>by
 cases D with
 |agg E cs T F o=>
  have G:=o (α a) b ρ;obtain⟨L,p,V⟩:=x y z _ C G;refine⟨L,p,.agg E _ (λW e=>?_) (by simpa using F) λr P f=>?_⟩;grind;by_cases g:r=α a;simp_all
  .refine(o r P ?_).mono p.le;grind
end
def ep:=
 υ @UG<|
 υ @UK<|
 υ @UP<|
 υ @UQ<|
 υ @UR<|
 υ @UT<|
 υ @UN<|
 υ @UO<|
 υ @UH<|
 υ @UI<|
 @w6
def dt(a:Q)(b:h3)(c:Q->b5=h3:=by intro d;simp -dsimp -implicitDefEqProofs (disch:=first|omega|assumption|(simp only[aR,Nat.reduceAdd];try omega)) only[go_sem,simprocAttr,-List.reduceReplicate,↓ep,d];rfl):b5:=(c a).mpr b
def Bl(a:b5)(b:Q=b5:=by simp -dsimp -implicitDefEqProofs (disch:=first|omega|assumption|(simp only[aR,Nat.reduceAdd];try omega)) only[go_sem,simprocAttr,-List.reduceReplicate,↓ep];rfl):Q:=b.mpr a
def wr:dM->Υ
 |.plain ops|.draw ops _=>ops.filterMap (·.dst)
 |.seq a b|.cond _ a b=>wr a++wr b
 |.block _ a|.loop a=>wr a
 |_=>[]
def gQ(b:Υ)(c d:Fr):Prop:=∀a,a∉b->d a=c a
theorem gQ.trans{a:Υ}{b c d:Fr}(o:gQ a b c)(p:gQ a c d):gQ a b d:=λh k=>(p h k).trans (o h k)
def gQ.put{b:Option Nat}(c:∀a,b=β a->a∈j8):gQ j8 j (cY j b q):=λa d=>sL j b q a λh=>d (c a h)
section
def Bm{a:Υ}{k:Fr->U->Prop}{o:Fr}:∀(b:List bW),(∀c∈b,∀p,c.dst=β p->p∈a)->∀(j:Fr)(f:U),gQ a o j->ij K b k j f->ij K b (λr d=>k r d/\gQ a o r) j f
 |[],_,j,f,cf,h=>⟨h,cf⟩
 |c::y,x,j,f,cf,h=>mq (λE d z=>Bm y (λC D=>x C (a4y _ D)) _ d (cf.trans (gQ.put (x c (a4H ..)))) z) h
def Bn{b:Υ}{c:Nat->bW}{h:Fr->U->Prop}{k:Fr}(o:∀z p,(c z).dst=β p->p∈b):∀(r:List cU)(j:Fr)(f:U),gQ b k j->can K c h r j f->can K c (λx d=>h x d/\gQ b k x) r j f
 |[],j,f,cf,a=>⟨a,cf⟩
 |C::D,j,f,cf,a=>⟨a.1,mq (λE d y=>⟨y.1,Bn o D _ d (cf.trans (gQ.put (o C.i))) y.2⟩) a.2⟩
theorem ny{r:Υ}:∀(x:dM),(∀b∈wr x,b∈r)->∀ {o:fH->Fr->U->Prop}{d:Fr} (j:Fr) (f:U),gQ r d j->bP K x o j f->bP K x (λh C E=>o h C E/\gQ r d C) j f
 |.skip,_,_,_,j,f,cf,a=>⟨a,cf⟩
 |.ret,_,_,_,j,f,cf,a=>⟨a,cf⟩
 |.exit _,_,_,_,j,f,cf,a=>⟨a,cf⟩
 |.plain ops,hw,_,_,j,f,cf,a=>Bm ops (λF G b p=>hw b (a6m.2 ⟨F,G,p⟩)) j f cf a
 |.draw ops L,hw,_,_,j,f,cf,a=>Bn (λy b p=>by
   refine hw b (a6m.2 ?_);grind[nth,List.mem_of_getElem?]) L j f cf a
 |.seq c z,hw,o,d,j,f,cf,a=>iu c (λh j f a=>by
   cases h with
   |norm=>exact ny z (λb k=>hw b (a4R _ k)) j f a.2 a.1
   |exit y=>exact a
   |ret=>exact a) j f (ny c (λb k=>hw b (a4W _ k)) j f cf a)
 |.block y c,hw,o,d,j,f,cf,a=>iu c (λh j f a=>by
   cases h with
   |norm=>exact a
   |exit e=>obtain⟨P,g⟩:=a;simp only[kz]at P|-;split<;>(simp_all)
   |ret=>exact a) j f (ny c hw j f cf a)
 |.cond x c z,hw,o,d,j,f,cf,a=>by
   simp only[vK,Ar,jK]at a|-;split at a
   .exact⟨λp=>ny c (λb k=>hw b (a4W _ k)) j f cf (a.1 p),λp=>ny z (λb k=>hw b (a4R _ k)) j f cf (a.2 p)⟩
   .trivial
 |.loop c,hw,o,d,j,f,cf,a=>by
   obtain⟨S,T,V,W⟩:=a;refine⟨λj f=>S j f/\gQ r d j,T,⟨V,cf⟩,λj f D=>iu c (λh j f a=>?_) j f (ny c hw j f D.2 (W j f D.1))⟩;cases h with
   |norm=>exact⟨⟨a.1.1,a.2⟩,a.1.2⟩
   |exit y=>exact a
   |ret=>exact a
def gb(a:Fr):List (Nat×R)->Prop
 |[]=>True
 |b::c=>a b.1=b.2/\gb a c
def UW:gb j []=True:=rfl
def UX{v:R}:gb j [(e,v)]=(j e=v):=by simp[gb]
def UY{v:R}{a:Nat×R}{b:List (Nat×R)}:gb j ((e,v)::a::b)=(j e=v/\gb j (a::b)):=rfl
def gr(a:Fr):List (Nat×R)->Fr
 |[]=>a
 |b::c=>cY (gr a c) (β b.1) b.2
def UZ:gr j []=j:=rfl
def V0{v:R}{a:List (Nat×R)}:gr j ((e,v)::a)=cY (gr j a) (β e) v:=rfl
theorem ry{a:Fr}:∀ {b:List (Nat×R)},gb a b->gr a b=a
 |[],_=>rfl
 |d::o,c=>by
  rw[gr,ry c.2];funext h;by_cases k:h=d.1
  .subst k;rw[<-c.1];simp[cY,lj]
  grind[sL,Option.some.inj]
def keeps(a:Fr):Υ->List (Nat×R)
 |[]=>[]
 |b::c=>(b,a b)::keeps a c
def V1:keeps j []=[]:=rfl
def V2:keeps j (e::j8)=(e,j e)::keeps j j8:=rfl
def wa{b c:Fr}:∀ {d:Υ},(∀a∈d,c a=b a)->gb c (keeps b d)
 |[],_=>trivial
 |a::p,h=>⟨h a (a4H ..),wa λk o=>h k (a4y _ o)⟩
theorem Bo:∀ {a:Nat},j2 a->∃a,j2 a/\∀b,j2 b->a<=b:=by
 intro a
 induction a using Nat.strongRecOn with
 |ind a ih=>grind
theorem cQ(D:Υ)(y:b0->List (Nat×R))(E:b0->U->Prop)(h:b0->Nat)(L:b0)
  (m:E L f/\gb j (y L)) (P:∀x c,E x c->∀d,bP K h6 (eo (λn q=>∃a,E a q/\gb n (y a)/\h a<h x) e6) (gr (gr d (keeps j D)) (y x)) c)
  (I:D.all (λS=> !(wr h6).contains S)=true:=by kernel_rfl):cj (bP K (.loop h6) e6 j f) ():=by
 classical
 let p:=λ(d) (c) (a)=>E a c/\gb d (y a)
 let z:=λ(d) (c)=>if C:∃k,(∃a,p d c a/\h a=k)/\∀o,(∃a,p d c a/\h a=o)->k<=o then C.choose else 0;refine⟨λd c=>(∃a,p d c a)/\gQ (wr h6) j d,z,⟨⟨L,m⟩,λ_ _=>rfl⟩,λb r T=>?_⟩;have C:∃k,(∃a,p b r a/\h a=k)/\∀o,(∃a,p b r a/\h a=o)->k<=o:=by obtain⟨a,s⟩:=T.1;exact Bo ⟨a,s,rfl⟩
 obtain⟨⟨x,i,hm⟩,M⟩:=C.choose_spec;have t:gb b (keeps j D):=wa λS N=>T.2 S λO=>by
  simp_all
 have u:gr (gr b (keeps j D)) (y x)=b:=by rw[ry t,ry i.2]
 have l:=P x r i.1 b;rw[u]at l;refine iu h6 (λv F G V=>?_) b r (ny h6 (λ_ P=>P) b r T.2 l);cases v with
 |norm=>obtain⟨⟨a,W,e,w⟩,A⟩:=V;refine⟨⟨⟨a,W,e⟩,A⟩,?_⟩;have g:∃k,(∃a,p F G a/\h a=k)/\∀o,(∃a,p F G a/\h a=o)->k<=o:=Bo ⟨a,⟨W,e⟩,rfl⟩;show z F G<z b r;have B:z F G=g.choose:=dif_pos g;have H:z b r=C.choose:=dif_pos C;rw[B,H];exact Nat.lt_of_le_of_lt (g.choose_spec.2 _ ⟨a,⟨W,e⟩,rfl⟩) (by rw[<-hm];exact w)
 |exit Q=>exact V.1
 |ret=>exact V.1
end
theorem hj(d:Υ)(b:b0->List (Nat×R))(c:b0->Prop)(h:b0->Nat)(k:b0)
  (x:c k) (y:gb j (b k)) (z:∀a,c a->∀o,bP K h6 (eo (λC D=>∃p,D=f/\c p/\gb C (b p)/\h p<h a) e6) (gr (gr o (keeps j d)) (b a)) f)
  (E:d.all (λF=> !(wr h6).contains F)=true:=by kernel_rfl):cj (bP K (.loop h6) e6 j f) ():=
 cQ d b (λa r=>r=f/\c a) h k ⟨⟨rfl,x⟩,y⟩ (λa r G o=>by
  obtain⟨rfl,L⟩:=G;refine iu h6 (λP S T V=>?_) _ _ (z a L o);grind) E
def wb:=
 υ @UW<|
 υ @UX<|
 υ @UY<|
 υ @UZ<|
 υ @V0<|
 υ @V1<|
 @V2
def U.wc(a:f e=ε)(b:u.sub f):u e=none:=U.bH b a
def U.V3(c:f e=ε):f.sub (u.set e X)=f.sub u:=propext ⟨λa d h b=>by
 have k:d≠e:=by rintro rfl;rw[c]at b;cases b
 have:=a d h b;rwa[ξ _ _ k]at this,λa=>U.ag a c⟩
def U.sub_self:f.sub f=True:=eq_true U.a6
def V4:(∃b,b.sub u/\f.sub b)=f.sub u:=propext ⟨λ⟨_,a,h⟩ c d k=>a c d (h c d k),λa=>⟨f,a,U.a6⟩⟩
def V5:(∃b,b.sub u/\b=f)=f.sub u:=propext ⟨λ⟨_,a,c⟩=>by subst c;exact a,λa=>⟨f,a,rfl⟩⟩
def V6:rp (bo B)=β (.v (.int .i64 (α B))):=vV
def V7(a:e<α B):oH (bo B) (.v (.int e0 (e:Int)))=β (.v (.int .u8 (B.getD e 0).toNat)):=by have:=AZ (B:=B) (e0:=e0) (b1:=(e)) δ δ;trivial
def pY:cJ e (.J g O) (.v (.int e0 (i:Int)))=eJ e g[i]? :=by rfl
def V8:eJ 1 (β (.v e3))=β (.bR [.v e3]):=rfl
def V9:eJ 1 (β (bo B))=β (.bR [bo B]):=rfl
def Va:eJ 1 (β (.J g O))=β (.bR [.J g O]):=rfl
def Vb:eJ 1 (β (.ptr e i))=β (.bR [.ptr e i]):=rfl
def Vc[Decidable Q]:(!decide Q)=decide (¬Q):=decide_not.symm
def Vd:(xor ι I)=I:=a5x I
def Ve:(∃b,b.sub u/\f.sub b/\Q)=(f.sub u/\Q):=propext ⟨λ⟨_,a,h,k⟩=>⟨λc d o=>a c d (h c d o),k⟩,λa=>⟨f,a.1,U.a6,a.2⟩⟩
def Vf:(∃b,b.sub u/\b=f/\Q)=(f.sub u/\Q):=propext ⟨λ⟨_,a,c,d⟩=>by subst c;trivial,λa=>⟨f,a.1,rfl,a.2⟩⟩
def Vg{a:b0}{b:List b0}:List.take (e+1) (a::b)=a::List.take e b:=rfl
def Vh{a:List b0}:List.take 0 a=[]:=rfl
def Vi:List.take e ([]:List b0)=[]:=List.take_nil
def Vj{a:List b0}:List.drop 0 a=a:=rfl
def Vk:putAt (b7::g) 0 (q::A)=q::putAt g 0 A:=by rfl
def Vl:putAt g 0 []=g:=by rfl
def Vm:putAt (q::g) (e+1) A=q::putAt g e A:=by simp[putAt,Nat.add_right_comm]
def Vn{b:b0}{a:List b0}:(b::a).length=α a+1:=rfl
def Vo:([]:List b0).length=0:=rfl
def Vp:(bo B).cells=[bo B]:=rfl
def Vq:(R.J g O).cells=[.J g O]:=rfl
def Vr:(R.ptr e i).cells=[.ptr e i]:=rfl
def Vs{v:Value}:(R.v v).cells=[.v v]:=rfl
theorem oL(a:e<=α g)(b:bc i g):dN i (.J g O) (β (.v (.int e0 (e:Int)))) ε=β (.J (g.drop e) .any):=by grind[pS,Int.toNat_natCast]
def Vt(a:e<α g)(b:bc i g):dN i (.J g O) (β (.v (.int e0 ((e:Int)+1)))) ε=β (.J (g.drop (e+1)) .any):=oL (e:=e+1) a b
theorem Vu(a:e<=α g)(b:bc i g):dN i (.J g O) ε (β (.v (.int e0 (e:Int))))=β (.J (g.take e) .any):=by grind[ns,Int.toNat_natCast]
theorem Vv{a:IntKind}(b:i<=e)(c:e<=α g)(d:bc v g):dN v (.J g O) (β (.v (.int e0 (i:Int)))) (β (.v (.int a (e:Int))))=β (.J ((g.take e).drop i) .any):=by grind[AQ,Int.toNat_natCast]
def Vw:(∃ _:Unit,True)=True:=eq_true ⟨(),trivial⟩
def Vx{a:cy s}:iU e f [] (bX s a)=s (.J [] .zero) f:=by simp[iU,bX]
def Vy:cJ e (.J g O) (.v (.int e0 0))=eJ e g[0]? :=pY (i:=0)
def Vz:cJ e (.J g O) (.v (.int e0 1))=eJ e g[1]? :=pY (i:=1)
def we:=
 υ @Vy<|
 υ @Vz<|
 υ @Vw<|
 υ @oL<|
 υ @Vt<|
 υ @Vu<|
 υ @Vv<|
 υ @Vp<|
 υ @Vq<|
 υ @Vr<|
 υ @Vs<|
 υ @ν<|
 υ @ξ<|
 υ @Vk<|
 υ @Vl<|
 υ @Vm<|
 υ @Vn<|
 υ @Vo<|
 υ @Vg<|
 υ @Vh<|
 υ @Vi<|
 υ @Vj<|
 υ @U.V3<|
 υ @U.sub_self<|
 υ @V4<|
 υ @V5<|
 υ @Ve<|
 υ @Vf<|
 υ @true_and<|
 υ @and_true<|
 υ @V6<|
 υ @V7<|
 υ @pY<|
 υ @V8<|
 υ @V9<|
 υ @Va<|
 υ @Vb<|
 υ @hg<|
 υ @hg<|
 υ @AJ<|
 υ @decide_true<|
 υ @decide_false<|
 υ @a3E<|
 υ @a3H<|
 υ @a4q<|
 υ @a5b<|
 υ @a7c<|
 υ @Bool.and_false<|
 υ @Vd<|
 υ @Bool.true_xor<|
 υ @Vc<|
 @Decidable.not_not
theorem tg{a:Nat->Bool}(b:e<i)(c:a e=ι):(ψ i).all a=false:=List.all_eq_false.2 ⟨e,a4b.2 b,by simp[c]⟩
theorem th{a:Nat->Bool}(b:∀c<e,a c=η):(ψ e).all a=true:=a3h.2 λd h=>b d (a4b.1 h)
def upto(b:∀a<e,j2 a)(c:j2 e):∀a<e+1,j2 a:=λa d=>(Nat.lt_or_eq_of_le (Nat.le_of_lt_succ d)).elim (b a) λh=>h▸c
def VA:R.v (.int e0 ((e:Int)+1))=.v (.int e0 ((e+1:Nat):Int)):=rfl
theorem pZ{a:Bool}(b:(I=η)=(a=η):=by apply propext;(try dsimp only);(try simp (disch:=omega) only[if_pos,if_neg,Ξ,a4x,a4p,Bool.not_eq_eq_eq_not,a3E,a3H,decide_eq_true_eq,decide_eq_false_iff_not,a3R,false_iff,iff_false,true_iff,iff_true,true_and,and_true,false_and,and_false,false_or,or_false,true_or,or_true,iff_self, *])<;>omega):I=a:=by simp_all
theorem bf{a:Bool}(b:I=a:=by exact pZ):R.v (.bool I)=.v (.bool a):=b▸rfl
theorem aX{a:Bool}(b:I=a):R.v (.bool I)=.v (.bool a):=by rw[b]
def U.ti(a:f.sub u)(b:f e=β X):u e=β X:=a _ _ b
def U.tj(a:bj f u i g O)(b:f e=β X):u e=β X:=a.sub _ _ b
def ix(c d:U):Prop:=∀a b,c a=β (.cells b)->d a=β (.cells b)
def U.rz(a:f.sub u):ix f u:=λc d b=>a _ _ b
theorem ix.trans(a:ix f u)(b:ix u e1):ix f e1:=λd h c=>b _ _ (a _ _ c)
def U.tk(a:ix f u)(b:f e=β (.cells g)):u e=β (.cells g):=a _ _ b
def U.tl(a:f e=β X)(b:f i=ε):(f.set i j6) e=β X:=U.ag U.a6 b _ _ a
def U.gu(b:f i=ε)(a:f e=β X):e≠i:=by rintro rfl;rw[b]at a;cases a
def a0(a:f e=β X:=by first|assumption|exact ν _ _ _):f e=β X:=a
def a3(a:f e=β X:=by first|exact a0|exact U.tl a2 a7s|exact U.ti a7s a2|exact U.tj a7s a2|exact U.wg a7s a2|exact U.tk a7s a2):f e=β X:=a
def a4(a:f e=β X:=by first|exact a0|exact U.tl a3 a7s|exact U.ti a7s a3|exact U.tj a7s a3|exact U.wg a7s a3|exact U.tk a7s a3):f e=β X:=a
def a5(a:f e=β X:=by first|exact a0|exact U.tl a4 a7s|exact U.ti a7s a4|exact U.tj a7s a4|exact U.wg a7s a4|exact U.tk a7s a4):f e=β X:=a
def du(a:f e=β X:=by first|exact a0|exact U.tl a5 a7s|exact U.ti a7s a5|exact U.tj a7s a5|exact U.wg a7s a5|exact U.tk a7s a5):f e=β X:=a
def eZ(c:∀a b,f a=β (.cells b)->u a=β (.cells b):=by intro _ _ _;exact du):ix f u:=c
def q0(c:∀a b,f a=β b->u a=β b:=by intro _ _ _;exact du):f.sub u:=c
section
def eD(a:Q=b5:=by simp -dsimp -implicitDefEqProofs (disch:=first|omega|assumption|exact U.wc a7s a7s|(simp only[aR,Nat.reduceAdd];try omega)) only[go_sem,simprocAttr,-List.reduceReplicate,↓ep,we,wb, *]<;>rfl):Q=b5:=a
def hl(a:Q=b5:=by first|exact eD|rfl):Q=b5:=a
def aa(a:b5)(b:Q=b5:=by exact hl):Q:=b.mpr a
def aV(a:Q=True:=by simp -dsimp -implicitDefEqProofs (disch:=first|omega|assumption|exact U.wc a7s a7s|(simp only[aR,Nat.reduceAdd];try omega)) only[go_sem,simprocAttr,-List.reduceReplicate,↓ep,we,wb, *]):Q:=of_eq_true a
def aM(b:m.follows .mixedOrders=η){a:List (Nat×Option (Bool×Nat))}(c:di m v e=β ⟨i,M,h6,a⟩)(d:Q)(h:α g<=i:=by simp)
  (k:bP (Ctx.of m) h6 (pR a s) (ly g) f=Q:=by exact eD):AC m e g f s:=aZ b c h (k.mpr d)
def bp{c:Nat->Prop}(d:∀a,f a=ε->c a)(h:∀a,f a=ε->j2 a=c a:=by intro a b;exact eD):iq f (bT j2 ()):=λa b=>(h a b).mpr (d a b)
def U.set_nil(a:(f.set i X) e=ε):f e=ε/\e≠i/\i≠e:=⟨(U.gq a).2,(U.gq a).1,(U.gq a).1.symm⟩
def dk{d:Nat->Prop}(o:∀a,f a=ε->a≠e->e≠a->d a)(h:∀a,f a=ε->a≠e->e≠a->j2 a=d a:=by intro a b c h;exact eD):iq (f.set e X) (bT j2 ()):=λa b=>by
 obtain⟨b,c,k⟩:=U.set_nil b;exact(h a b c k).mpr (o a b c k)
def hG{k:Nat->Prop}(r:∀a,f a=ε->a≠e->e≠a->a≠i->i≠a->k a)(o:∀a,f a=ε->a≠e->e≠a->a≠i->i≠a->j2 a=k a:=by intro a b c o d h;exact eD):iq ((f.set e X).set i j6) (bT j2 ()):=λa b=>by
 obtain⟨b,d,h⟩:=U.set_nil b;obtain⟨b,c,p⟩:=U.set_nil b;exact(o a b c p d h).mpr (r a b c p d h)
def cl(c:AC m b4 g f Z)(d:∀a b,Z a b->s a b)(h:Q=oF K b4 g f (bX s ()):=by exact hl)(k:K.p=m:=by rfl):Q:=by subst k;exact h.mpr (ak c d)
def bd(a:AC K.p b4 g f λb c=>c=f/\b=q)(d:Q)(h:s q f=Q:=by exact eD):oF K b4 g f (bX s ()):=ak a λ_ _ a=>by rw[a.1,a.2];exact h.mpr d
theorem mA(c:AC m b4 g f λa b=>b=f/\a=q)(d:b5)(h:Q=oF K b4 g f (bX s ()):=by exact hl)(k:s q f=b5:=by exact hl)(o:K.p=m:=by rfl):Q:=by grind[ak]
theorem gs{c:U->Prop}(b:AC K.p b4 g f λd a=>f.sub a/\d=q)(h:∀a,f.sub a->c a)(k:∀a,f.sub a->s q a=c a:=by intro a b;exact eD):oF K b4 g f (bX s ()):=ak b λ_ a b=>by simp_all
def q1(a:Q=b5:=by first|(simp only[decide_eq_true_eq,decide_eq_false_iff_not,a4p,Bool.not_eq_false',a3E,a3H,Decidable.not_not]<;>rfl)|rfl):Q=b5:=a
def VB{c:Prop}(k:(I=η)=Q:=by exact q1)(o:(I=ι)=b5:=by exact q1)(d:Q->h3=j9:=by intro;first|exact eD|rfl)(h:b5->j3=c:=by intro;first|exact eD|rfl):jK (.v (.bool I)) (cj h3 ()) (cj j3 ())=((Q->j9)/\(b5->c)):=by subst k o;exact propext ⟨λb=>⟨λa=>(d a).mp (b.1 a),λa=>(h a).mp (b.2 a)⟩,λb=>⟨λa=>(d a).mpr (b.1 a),λa=>(h a).mpr (b.2 a)⟩⟩
def VC{c:Bool}{d:Prop}(o:(I=c)=Q:=by exact q1)(p:(I= !c)=b5:=by exact q1)(h:Q->h3=j9:=by intro;first|exact eD|rfl)(k:b5->j3=d:=by intro;first|exact eD|rfl):hf (.v (.bool I)) c (cj h3 ()) (cj j3 ())=((Q->j9)/\(b5->d)):=by rw[Rs];subst o p;exact propext ⟨λb=>⟨λa=>(h a).mp (b.1 a),λa=>(k a).mp (b.2 a)⟩,λb=>⟨λa=>(h a).mpr (b.1 a),λa=>(k a).mpr (b.2 a)⟩⟩
def aH(a:j3->b5)(b:j9->h3)(c:Q=((j3->b5)/\(j9->h3)):=by first|exact VB|exact VC):Q:=c.mpr ⟨a,b⟩
def Bp(a:Q:=by first|assumption|(simp only[decide_eq_true_eq,decide_eq_false_iff_not,a4p,Bool.not_eq_false',Decidable.not_not]<;>omega)):Q:=a
def VD(a:I=true:=by exact Bp)(b:Q=b5:=by exact eD):jK (.v (.bool I)) (cj Q ()) (cj h3 ())=b5:=by subst a;exact Au.trans b
def VE(a:I=false:=by exact Bp)(b:Q=b5:=by exact eD):jK (.v (.bool I)) (cj h3 ()) (cj Q ())=b5:=by subst a;exact Av.trans b
def q2(a:b5)(b:Q=b5:=by first|exact VD|exact VE|exact a2A|exact a2B):Q:=b.mpr a
end
theorem iy{a:List b0}{b:b0}(c:e<α a):a.take (e+1)=a.take e++[a.getD e b]:=by simp_all
abbrev MB(a b:U)(c:Τ)(d:R):Prop:=aw a b 1 (c.map ao) d
def wh(b:U)(c:R)(a:Τ):Prop:=c8 b 1 c=β (α a,a.map ao)
section
def Bq{d:R->U->Prop}(c:AC K.p b4 g f s)(h:∀a b,s a b->d a b)(k:∀a b,s a b->Z a b=d a b:=by intro a f c;exact eD):oF K b4 g f (bX Z ()):=ak c λa b c=>(k a b c).mpr (h a b c)
end
section
def wi{c:Nat->Prop}{x:bl}(y:∀a,f a=ε->a≠e->e≠a->a≠i->i≠a->a≠v->v≠a->c a)(z:∀a,f a=ε->a≠e->e≠a->a≠i->i≠a->a≠v->v≠a->j2 a=c a:=by intros;exact eD):iq (((f.set e X).set i j6).set v x) (bT j2 ()):=λa b=>by
 obtain⟨b,d,h⟩:=U.set_nil b;obtain⟨b,k,o⟩:=U.set_nil b;obtain⟨b,p,r⟩:=U.set_nil b;exact(z a b p r k o d h).mpr (y a b p r k o d h)
def VF{c:Nat->Prop}{z C:bl}(D:∀a,f a=ε->a≠e->e≠a->a≠i->i≠a->a≠v->v≠a->a≠M->M≠a->c a)(E:∀a,f a=ε->a≠e->e≠a->a≠i->i≠a->a≠v->v≠a->a≠M->M≠a->j2 a=c a:=by intros;exact eD):iq ((((f.set e X).set i j6).set v z).set M C) (bT j2 ()):=λa b=>by
 obtain⟨b,d,h⟩:=U.set_nil b;obtain⟨b,k,o⟩:=U.set_nil b;obtain⟨b,p,r⟩:=U.set_nil b;obtain⟨b,x,y⟩:=U.set_nil b;exact(E a b x y p r k o d h).mpr (D a b x y p r k o d h)
def mB{v:R}(c:∀a,f a=ε->j2 a)(d:bc e (v::g):=by simp[bc,τ, *])(h:∀a,f a=ε->s (.J (v::g) (.buf a (v::g).length)) (f.set a (.buf e (v::g).length (v::g).length))=j2 a:=by intros;exact eD):iU e f (v::g) (bX s ()):=by refine⟨d,?_⟩;rw[if_neg ρ];intro a b;exact(h a b).mpr (c a b)
def VG{v:R}(h:∀a,f a=ε->a≠e->e≠a->j2 a)(k:bc i (v::g):=by simp[bc,τ, *])(o:∀a,f a=ε->a≠e->e≠a->s (.J (v::g) (.buf a (v::g).length)) ((f.set e X).set a (.buf i (v::g).length (v::g).length))=j2 a:=by intros;exact eD):iU i (f.set e X) (v::g) (bX s ()):=by refine⟨k,?_⟩;rw[if_neg ρ];intro a b;obtain⟨b,c,d⟩:=U.set_nil b;exact(o a b c d).mpr (h a b c d)
def tm{v:R}(o:∀a,f a=ε->a≠e->e≠a->a≠i->i≠a->j2 a)(p:bc M (v::g):=by simp[bc,τ, *])(r:∀a,f a=ε->a≠e->e≠a->a≠i->i≠a->s (.J (v::g) (.buf a (v::g).length)) (((f.set e X).set i j6).set a (.buf M (v::g).length (v::g).length))=j2 a:=by intros;exact eD):iU M ((f.set e X).set i j6) (v::g) (bX s ()):=by refine⟨p,?_⟩;rw[if_neg ρ];intro a b;obtain⟨b,c,d⟩:=U.set_nil b;obtain⟨b,h,k⟩:=U.set_nil b;exact(r a b h k c d).mpr (o a b h k c d)
def VH{c:Nat}{v:R}{d h k:bl}(G:∀a,f a=ε->a≠e->e≠a->a≠i->i≠a->a≠M->M≠a->a≠b9->b9≠a->a≠h9->h9≠a->j2 a)(L:bc c (v::g):=by simp[bc,τ, *])(P:∀a,f a=ε->a≠e->e≠a->a≠i->i≠a->a≠M->M≠a->a≠b9->b9≠a->a≠h9->h9≠a->s (.J (v::g) (.buf a (v::g).length)) ((((((f.set e X).set i j6).set M d).set b9 h).set h9 k).set a (.buf c (v::g).length (v::g).length))=j2 a:=by intros;exact eD):iU c (((((f.set e X).set i j6).set M d).set b9 h).set h9 k) (v::g) (bX s ()):=by refine⟨L,?_⟩;rw[if_neg ρ];intro a b;obtain⟨b,o,p⟩:=U.set_nil b;obtain⟨b,r,x⟩:=U.set_nil b;obtain⟨b,y,z⟩:=U.set_nil b;obtain⟨b,C,D⟩:=U.set_nil b;obtain⟨b,E,F⟩:=U.set_nil b;exact(P a b E F C D y z r x o p).mpr (G a b E F C D y z r x o p)
def VI{d:Nat}{v:R}{c:Nat}{h k o p:bl}(T:∀a,f a=ε->a≠e->e≠a->a≠i->i≠a->a≠M->M≠a->a≠b9->b9≠a->a≠h9->h9≠a->a≠c->c≠a->j2 a)(V:bc d (v::g):=by simp[bc,τ, *])(W:∀a,f a=ε->a≠e->e≠a->a≠i->i≠a->a≠M->M≠a->a≠b9->b9≠a->a≠h9->h9≠a->a≠c->c≠a->s (.J (v::g) (.buf a (v::g).length)) (((((((f.set e X).set i j6).set M h).set b9 k).set h9 o).set c p).set a (.buf d (v::g).length (v::g).length))=j2 a:=by intros;exact eD):iU d ((((((f.set e X).set i j6).set M h).set b9 k).set h9 o).set c p) (v::g) (bX s ()):=by refine⟨V,?_⟩;rw[if_neg ρ];intro a b;obtain⟨b,r,x⟩:=U.set_nil b;obtain⟨b,y,z⟩:=U.set_nil b;obtain⟨b,C,D⟩:=U.set_nil b;obtain⟨b,E,F⟩:=U.set_nil b;obtain⟨b,G,L⟩:=U.set_nil b;obtain⟨b,P,S⟩:=U.set_nil b;exact(W a b P S G L E F C D y z r x).mpr (T a b P S G L E F C D y z r x)
def oM(a:AC K.p b4 (g++c0++A) f λb c=>c=f/\b=q)(d:Q)(h:fa K.p b4=true:=by kernel_rfl)(k:s q f=Q:=by exact eD):w0 K (.bA b4 g A) c0 f (bX s ()):=
 eC h a λ_ _ a=>by rw[a.1,a.2];exact k.mpr d
end
section
theorem wj{p:dM}{h:Fr}{r:b0->List (Nat×R)}{x:b0->U->Prop}(y:∀c∈wr h6,c∈j8)(C:gQ j8 h j)(k:Υ)(T:k.all (λc=> !j8.contains c)=η)
  (D:bP K h6 (eo (λa b=>∃z,x z b/\gb a (r z)) e6) j f) (E:∀d b,x d b->∀a,bP K p e6 (gr (gr a (keeps h k)) (r d)) b):bP K h6 (eo (bP K p e6) e6) j f:=by
 refine iu h6 (λF a b o=>?_) j f (ny h6 y j f C D);cases F with
 |norm=>
  obtain⟨⟨d,G,L⟩,P⟩:=o;have S:gb a (keeps h k):=wa λc V=>P c λy=>by
   simp_all
  have:=E d b G a;rw[ry S,ry L]at this;exact this
 |exit W=>exact o.1
 |ret=>exact o.1
def nz{h:dM}(b:Υ)(k:b0->List (Nat×R))(o:b0->U->Prop)
  (x:bP K h6 (eo (λc a=>∃p,o p a/\gb c (k p)) e6) j f) (d:∀r a,o r a->∀c,bP K h e6 (gr (gr c (keeps j b)) (k r)) a) (y:b.all (λz=> !(wr h6).contains z)=true:=by kernel_rfl):bP K (.seq h6 h) e6 j f:=
 wj (j8:=wr h6) (λ_ d=>d) (λ_ _=>rfl) b y x d
def nA{h k:dM}{z:cy (bP K h (eo (bP K h6 e6) e6) j f)}{C:cy (bP K k (eo (bP K h6 e6) e6) j f)}(o:Υ)(p:b0->List (Nat×R))(r:b0->U->Prop)
  (D:I=η->bP K h (eo (λc a=>∃d,r d a/\gb c (p d)) e6) j f) (E:I=ι->bP K k (eo (λc a=>∃d,r d a/\gb c (p d)) e6) j f) (b:∀x a,r x a->∀c,bP K h6 e6 (gr (gr c (keeps j o)) (p x)) a) (y:o.all (λI=> !(wr h++wr k).contains I)=true:=by kernel_rfl):
  jK (.v (.bool I)) (cj (bP K h (eo (bP K h6 e6) e6) j f) z) (cj (bP K k (eo (bP K h6 e6) e6) j f) C):=
 ⟨λh6=>wj (λ_ b=>a4W _ b) (λ_ _=>rfl) o y (D h6) b,λh6=>wj (λ_ b=>a4R _ b) (λ_ _=>rfl) o y (E h6) b⟩
end
def Br(a:Q=b5:=by first|(simp -dsimp -implicitDefEqProofs (disch:=first|omega|assumption|exact U.wc a7s a7s|(simp only[aR,Nat.reduceAdd];try omega)) only[Vx,rq,go_sem,simprocAttr,-List.reduceReplicate,↓ep,we,wb, *]<;>rfl)|rfl):Q=b5:=a
def oN(a:e<=i:=by first|omega|((try simp only[a2V,a3e,a3a,a3k,a2X,a3i, *])<;>omega)):e<=i:=a
def rd(a:f.sub u)(b:f e=β (.cells g)):u.read e=β g:=U.af (a _ _ b)
theorem Bs{v:R}(b:bc e g)(h:α v.cells=e):bc e (g++[v]):=λc d=>by
 rcases a3f.1 d with a|a
 .exact b c a
 grind
def Bt:bc e []:=λ_ a=>by cases a
theorem bj.nB(r:bj u f e g O):∃d:U,bj d f e g O/\d.sub f/\u.sub d/\∀a,(∀b o,O=.buf b o->b≠a)->d a=f a:=by
 obtain⟨k,h⟩:=r;cases O with
 |buf b o=>
  have p:(f.del b).sub f:=λa O c=>by
   grind[U.hC,U.eg]
  refine⟨f.del b,⟨p,U.hC _ _,h.2⟩,p,λa O c=>?_,λa c=>U.eg _ (Ζ (c _ _ rfl))⟩;have x:a≠b:=by rintro rfl;rw[h.1]at c;cases c
  rw[U.eg _ x];exact k _ _ c
 |any=>trivial
 |nil=>exact⟨f,⟨U.a6,h⟩,U.a6,k,λ_ _=>rfl⟩
 |zero=>exact⟨f,⟨U.a6,h⟩,U.a6,k,λ_ _=>rfl⟩
def wk{k:cy s}(d:bj u f e g O)(o:bc e g)(p:bc e A)(r:(α g+α A)*i<=140737488355328)(x:α g+α A<=9223372036854775807)
  (y:∀b a,bj u a e (g++A) b->ix f a->s (.J (g++A) b) a):mw e i f (.J g O) (.J A e4) (bX s k):=by
 obtain⟨G,z,L,C,D⟩:=d.nB;refine ei z o p r x λb a h=>y b a (h.base C) λE P c=>h.sub _ _ ?_;rw[D E (λS T F=>by subst F;rintro rfl;rw[d.2.2]at c;cases c)];exact c
section
def gR{v:R}{k:Nat->R->U->Prop}{o:Nat->Own->U->Prop}(p:bj u f e g O)(y:bc e g)(z:∀a c b,bj u b e (g++[v]) c->ix f b->o a c b)
  (C:Q=iU e f [v] (bX s ()):=by exact hl)
  (D:∀a,f a=ε->s (.J [v] (.buf a 1)) (f.set a (.buf e 1 1))=mw e i (f.set a (.buf e 1 1)) (.J g O) (.J [v] (.buf a 1)) (bX (k a) ()):=by intro a d;exact eD)
  (E:∀a c b,bj u b e (g++[v]) c->k a (.J (g++[v]) c) b=o a c b:=by intro a c b p;exact hl)
  (r:α v.cells=e:=by first|rfl|assumption|simp[τ, *]) (P:α g<=1000000000:=by exact oN) (F:i<=10000:=by decide):Q:=by
 rw[C];refine⟨λG h=>by rw[a3s.1 h];exact r,?_⟩;rw[if_neg ρ];intro a d;refine(D a d).mpr (wk (p.mono (U.ag U.a6 d)) y (λG h=>by rw[a3s.1 h];exact r) ?_ ?_ λc b x L=>(E a c b x).mpr (z a c b x ((U.rz (U.ag U.a6 d)).trans L)))
 .exact a4f (a6l (show α g+1<=1000000001 by omega) F) Λ
 .simp;omega
def VJ:bc 1 (B.map ao):=λb a=>by obtain⟨_,_,rfl⟩:=a3m.1 a;rfl
def VK{d:UInt8}{k:Nat->R->U->Prop}{o:Nat->Own->U->Prop}(p:bj u f 1 (B.map ao) O)(x:∀a c b,bj u b 1 ((B++[d]).map ao) c->ix f b->o a c b)
  (y:Q=iU 1 f [ao d] (bX s ()):=by exact hl)
  (z:∀a,f a=ε->s (.J [ao d] (.buf a 1)) (f.set a (.buf 1 1 1))=mw 1 e (f.set a (.buf 1 1 1)) (.J (B.map ao) O) (.J [ao d] (.buf a 1)) (bX (k a) ()):=by intro a G;exact eD)
  (C:∀a c b,bj u b 1 ((B++[d]).map ao) c->k a (.J ((B++[d]).map ao) c) b=o a c b:=by intro a c b p;exact hl)
  (D:α B<=1000000000:=by exact oN) (E:e<=10000:=by decide):Q:=by
 have r:B.map ao++[ao d]=(B++[d]).map ao:=by rw[a3V];rfl
 refine gR p VJ (λa c b h F=>x a c b (r▸h) F) y z (λa c b h=>?_) rfl (by rw[a3k];exact D) E;rw[r]at h|-;exact C a c b h
def jO{c:Own->U->Prop}(d:bj u f e g O)(k:bc e g)(o:bc e A)(p:∀b a,bj u a e (g++A) b->ix f a->c b a)
  (r:Q=mw e i f (.J g O) (.J A e4) (bX s ()):=by exact hl) (x:∀b a,bj u a e (g++A) b->s (.J (g++A) b) a=c b a:=by intro b a d;exact hl)
  (y:α g+α A<=1000000000:=by exact oN) (z:i<=10000:=by decide):Q:=by
 rw[r];refine wk d k o (a4f (a6l y z) Λ) δ λb a h C=>(x b a h).mpr (p b a h C)
def rA{c:Own->U->Prop}(h:bc e g)(k:∀a b,bj f b e g a->c a b)
  (o:Q=mw e i f (.J [] O) (.J g e4) (bX s ()):=by exact Br) (p:O=.nil\/O=.zero:=by first|exact .inl rfl|exact .inr rfl) (r:∀a b,bj f b e g a->s (.J g a) b=c a b:=by intro a b d;exact hl)
  (x:α g<=1000000000:=by exact oN) (y:i<=10000:=by decide):Q:=
 jO (u:=f) (c:=c) (by rcases p with rfl|rfl;exact bj.nil U.a6;exact bj.zero U.a6) Bt h (λa b d _=>k a b d) o r (by simpa using x) y
def q3(c:aw u f e A q)(k:c8 f e b7=β (v,g))(o:∀a b,aw u b e (A++g) a->Z a b)
  (p:Q=lC e i f q b7 (bX s ()):=by exact hl) (r:∀a b,aw u b e (A++g) a->s a b=Z a b:=by intro a b c;exact hl)
  (d:0<e:=by decide) (x:α g=v*e:=by first|rfl|omega|simp) (y:α A+α g<=1000000000:=by exact oN) (z:i<=10000:=by decide):Q:=by
 rw[p];refine fx c d k x (a4f (a6l y z) (a4f Λ (a6C _ d))) δ λa b h=>(r a b h).mpr (o a b h)
def tn(c:c8 f e q=β (v,g))(d:∀a b,aw f b e g a->Z a b)
  (h:Q=lC e i f (.J [] O) q (bX s ()):=by exact Br) (k:O=.nil\/O=.zero:=by first|exact .inl rfl|exact .inr rfl) (o:∀a b,aw f b e g a->s a b=Z a b:=by intro a b z;exact hl)
  (p:0<e:=by decide) (r:α g=v*e:=by first|rfl|omega|simp) (x:α g<=1000000000:=by exact oN) (y:i<=10000:=by decide):Q:=
 q3 (A:=[]) (u:=f) (by rcases k with rfl|rfl;exact aw.nil U.a6;exact aw.zero U.a6) c d h o p r (by simpa using x) y
def VL{v:R}{h k:Nat->R->U->Prop}(o:aw u f 1 g q)(r:∀a b c,aw u c 1 (g++[v]) b->h a b c)(x:Q=oI 1 f [v] (bX s ()):=by exact hl)
  (y:∀a,f a=ε->s (.aq a 1 1 1) (f.set a (.cells [v]))=lC 1 e (f.set a (.cells [v])) q (.aq a 1 1 1) (bX (k a) ()):=by intro a d;exact eD)
  (z:∀a b c,aw u c 1 (g++[v]) b->k a b c=h a b c:=by intro a b c o;exact hl) (p:v.cells=[v]:=by first|rfl|assumption) (C:α g+1<=1000000000:=by exact oN) (D:e<=10000:=by decide):Q:=by
 have E:flat [v]=[v]:=by simp[flat,p]
 rw[x];refine iv (λG F=>by rw[a3s.1 F,p];rfl) ρ λa d=>?_;rw[E];refine(y a d).mpr (q3 (o.mono (U.ag U.a6 d)) ?_ (r a) rfl (z a) Λ rfl C D);simp[c8,U.read,U.set]
end
end Go.bt
set_option maxRecDepth 100000
namespace Go.Proofs.YtcfpcblgmmeioaaGreat
open Go Go.bt
def rotl(a:UInt32)(b:Nat):UInt32:=a<<<UInt32.ofNat b|||a>>>UInt32.ofNat (32 - b)
def VM(a:Nat)(b:0<a/\a<32):br .and (.int .u64 (IntKind.u64.wrap (-((32 - a:Nat):Int)))) (.int .u64 31)=β (.int .u64 a):=by have c:∀a:Fin 32,0<a.val->IntKind.u64.wrap (π IntKind.u64.bits (IntKind.u64.wrap (-((32 - a.val:Nat))))&&&π IntKind.u64.bits 31).toNat=(a.val):=Λ;have:=c ⟨a,b.2⟩ b.1;simp only[br,fE,iO,this];rfl
theorem VN(c:UInt32)(a:Nat)(d:0<a/\a<32)(b:U):AC γ 250 [.v (.int .u32 c.toNat),.v (.int .i64 (-((32 - a:Nat):Int)))] b λh k=>k=b/\h=.v (.int .u32 (rotl c a).toNat):=by refine aZ hm Pa ρ ?_;refine aI (VM a d) ?_;refine⟨b,U.a6,rfl,?_⟩;grind[rotl]
def lF(b:UInt32)(d:Int)(a:Nat)(h:0<a/\a<32)(k:d= -((32 - a:Nat):Int))(c:U):AC γ 250 [.v (.int .u32 b.toNat),.v (.int .i64 d)] c λo p=>p=c/\o=.v (.int .u32 (rotl b a).toNat):=by subst k;exact VN b a h c
def word(a:Τ)(b:Nat):UInt32:=(a.getD (4*b) 0).toUInt32<<<24|||(a.getD (4*b+1) 0).toUInt32<<<16|||(a.getD (4*b+2) 0).toUInt32<<<8|||(a.getD (4*b+3) 0).toUInt32
def VO(a:UInt32):UInt32:=rotl a 25^^^rotl a 14^^^a>>>3
def VP(a:UInt32):UInt32:=rotl a 15^^^rotl a 13^^^a>>>10
def more(a:Φ):Φ:=a++[a.getD (α a - 16) 0+VO (a.getD (α a - 15) 0)+a.getD (α a - 7) 0+VP (a.getD (α a - 2) 0)]
def first(a:Τ)(b:Nat):Φ:=(ψ b).map (word a)
def grow:Nat->Φ->Φ
 |0,a=>a
 |b+1,a=>grow b (more a)
def sched(a:Τ):Φ:=grow 48 (first a 16)
def hI(a:Φ):Χ:=a.map (λb=>.v (.int .u32 b.toNat))++ζ (64 - α a) (.v (.int .u32 0))
def VQ:hI []=ζ 64 (.v (.int .u32 0)):=by rfl
def wm{a:Φ}(b:α a<=64):(hI a).length=64:=by simp[hI];omega
variable{e i v M b9 h9:Nat}
theorem Bu{a:Φ}(b:UInt32)(c:e=α a)(h:α a<64):putAt (hI a) e [.v (.int .u32 b.toNat)]=hI (a++[b]):=by subst c;have d:64 - α a=(64 -(α a+1))+1:=δ;simp only[putAt,hI,d,a5n];grind
theorem rB{a:Φ}(b:e<α a):aP ι 1 ((hI a).drop e)=.v (.int .u32 (a.getD e 0).toNat):=by grind[aP,hI,List.map_drop,List.drop_eq_getElem_cons,List.getD]
theorem VR(c:Τ)(V:Own)(i:α c=64)(D:U):AC γ 248 [.J (c.map ao) V] D λj r=>r=D/\j=.agg ((sched c).map λP=>.v (.int .u32 P.toNat)):=by
 refine aZ hm P6 ρ ?_;refine dS ?_;refine aO λF l=>?_;refine dS ?_;refine aO λG S=>?_;obtain⟨s,S⟩:=U.gq S;refine dS ?_;refine cz (λb r=>∃a:Nat,a<=16/\b 0=.J (c.map ao) V/\b 2=.ptr F 0/\b 3=.ptr G 0/\b 10=.v (.int .i64 a)/\r=(D.set F (.cells (ζ 64 (.v (.int .u32 0))))).set G (.cells (hI (first c a))))
  (λb _=>match b 10 with|.v (.int _ T)=>(16 - T).toNat|_=>0) ⟨0,δ,?_⟩ ?_
 .simp -dsimp -implicitDefEqProofs (disch:=first|omega|assumption|(simp only[aR,Nat.reduceAdd];try omega)) only[go_sem,↓reduceIte,Nat.reduceEqDiff,Nat.reduceAdd,Nat.reduceSub,Nat.reduceMul,Nat.reduceLeDiff,Nat.reduceLT,Int.reduceNeg,Int.reduceToNat,Int.reduceAdd,Int.reduceSub,Int.reduceMul,Int.reduceLT,Int.reduceLE,Int.reduceEq,Int.reduceNe,first,List.range_zero,VQ]
  all_goals (simp)
 .rintro b r⟨a,m,W,d,h,e,rfl⟩;have f:(first c a).length=a:=by simp[first]
  by_cases k:(a:Int)<16
  .have o:(hI (first c a)).length=64:=wm δ;have n:(4*(a:Int)).toNat=4*a:=δ;have x:(4*(a:Int)+1).toNat=4*a+1:=δ;have y:(4*(a:Int)+2).toNat=4*a+2:=δ;have z:(4*(a:Int)+3).toNat=4*a+3:=δ;have t:(a:Int).toNat+1<=64:=δ;refine aI (ff @W @d @h @e @k @o @i @n @x @y @z) ?_;rw[Bu _ f.symm δ];refine⟨⟨a+1,δ,ρ,?_⟩,δ⟩;simp only[first,List.range_succ,a3V,a3q,a4L];rfl
  .obtain rfl:a=16:=δ;refine aI (ba @W @d @h @e @k) ?_;refine cz (λb r=>∃(p:Φ)(a:Nat),a<=48/\α p=16+a/\grow (48 - a) p=sched c/\b 2=.ptr F 0/\b 3=.ptr G 0/\b 5=.v (.int .i64 ((16+a:Nat)))/\r=(D.set F (.cells (ζ 64 (.v (.int .u32 0))))).set G (.cells (hI p)))
    (λb _=>match b 5 with|.v (.int _ T)=>(64 - T).toNat|_=>0) ⟨first c 16,0,δ,f,rfl,?_⟩ ?_
   .simp -dsimp -implicitDefEqProofs (disch:=first|omega|assumption|(simp only[aR,Nat.reduceAdd];try omega)) only[go_sem,↓reduceIte,Nat.reduceEqDiff,Nat.reduceAdd,Nat.reduceSub,Nat.reduceMul,Nat.reduceLeDiff,Nat.reduceLT,Int.reduceNeg,Int.reduceToNat,Int.reduceAdd,Int.reduceSub,Int.reduceMul,Int.reduceLT,Int.reduceLE,Int.reduceEq,Int.reduceNe,d,h,grow];rfl
   .rintro b r⟨p,a,m,L,g,d,h,C,rfl⟩;by_cases k:((16+a:Nat):Int)<64
    .have o:(hI p).length=64:=wm δ;have x:(((16+a:Nat):Int) - 15).toNat=a+1:=δ;have y:(((16+a:Nat):Int) - 2).toNat=a+14:=δ;have z:(((16+a:Nat):Int) - 16).toNat=a:=δ;have E:(((16+a:Nat):Int) - 7).toNat=a+9:=δ;refine aI (ck @d @h @C @k @x @y @z @E @o @rB) ?_;refine ak (lF _ _ 25 Λ Λ _) ?_;rintro _ _⟨rfl,rfl⟩;refine aI (ck @d @h @C @k @x @y @z @E @o @rB) ?_;refine ak (lF _ _ 14 Λ Λ _) ?_;rintro _ _⟨rfl,rfl⟩;refine aI (ck @d @h @C @k @x @y @z @E @o @rB) ?_;refine ak (lF _ _ 15 Λ Λ _) ?_;rintro _ _⟨rfl,rfl⟩;refine aI (ck @d @h @C @k @x @y @z @E @o @rB) ?_;refine ak (lF _ _ 13 Λ Λ _) ?_;rintro _ _⟨rfl,rfl⟩;refine aI (ck @d @h @C @k @x @y @z @E @o @rB) ?_;rw[Bu _ L.symm δ];refine⟨⟨_,a+1,δ,by simp[L];omega,?_,?_,rfl⟩,δ⟩
     .rw[<-g,show 48 - a=(48 -(a+1))+1 by omega,grow,more,L];rw[show 16+a - 16=a by omega,show 16+a - 15=a+1 by omega,show 16+a - 7=a+9 by omega,show 16+a - 2=a+14 by omega];rfl
     .simp;omega
    .obtain rfl:a=48:=δ;have o:(hI p).length=64:=wm δ;have q:(hI p).take 64=p.map λP=>.v (.int .u32 P.toNat):=by grind[hI,Θ]
     have u:p=sched c:=g;refine aI (cd @d @h @C @k @o @q @L) ?_;exact⟨D,U.ag (U.ag U.a6 l) S,rfl,by grind⟩
def wl(a:Φ):Χ:=a.map λb=>.v (.int .u32 b.toNat)
theorem gv{a:Φ}:(wl a).length=α a:=by simp[wl]
theorem lG{a:Φ}(b:e<α a):aP ι 1 ((wl a).drop e)=.v (.int .u32 (a.getD e 0).toNat):=by simp only[aP,wl];simp_all
def oO{a:Φ}(b:0<α a):aP ι 1 (wl a)=.v (.int .u32 (a.getD 0 0).toNat):=lG (e:=0) b
def VS{a:Φ}(b:UInt32)(c:e<α a):putAt (wl a) e [.v (.int .u32 b.toNat)]=wl (a.set e b):=by simp only[putAt,wl,a3e,a3a,<-a6p,<-a5T];rw[a4e,if_pos c];simp
def wo:Φ:=[
 0x428a2f98,0x71374491,0xb5c0fbcf,0xe9b5dba5,0x3956c25b,0x59f111f1,0x923f82a4,0xab1c5ed5,
 0xd807aa98,0x12835b01,0x243185be,0x550c7dc3,0x72be5d74,0x80deb1fe,0x9bdc06a7,0xc19bf174,
 0xe49b69c1,0xefbe4786,0x0fc19dc6,0x240ca1cc,0x2de92c6f,0x4a7484aa,0x5cb0a9dc,0x76f988da,
 0x983e5152,0xa831c66d,0xb00327c8,0xbf597fc7,0xc6e00bf3,0xd5a79147,0x06ca6351,0x14292967,
 0x27b70a85,0x2e1b2138,0x4d2c6dfc,0x53380d13,0x650a7354,0x766a0abb,0x81c2c92e,0x92722c85,
 0xa2bfe8a1,0xa81a664b,0xc24b8b70,0xc76c51a3,0xd192e819,0xd6990624,0xf40e3585,0x106aa070,
 0x19a4c116,0x1e376c08,0x2748774c,0x34b0bcb5,0x391c0cb3,0x4ed8aa4a,0x5b9cca4f,0x682e6ff3,
 0x748f82ee,0x78a5636f,0x84c87814,0x8cc70208,0x90befffa,0xa4506ceb,0xbef9a3f7,0xc67178f2]
def jP:Φ:=[0x6a09e667,0xbb67ae85,0x3c6ef372,0xa54ff53a,0x510e527f,0x9b05688c,0x1f83d9ab,0x5be0cd19]
def wq(a:U):AC γ 194 [] a λb c=>c=a/\b=.agg (wl jP):=by refine aZ hm NJ ρ ?_;refine dS ?_;refine aO λh d=>?_;simp -dsimp -implicitDefEqProofs (disch:=first|omega|assumption|(simp only[aR,Nat.reduceAdd];try omega)) only[go_sem,simprocAttr,putAt,List.take,List.drop,ζ,a4l,a3l];exact⟨a,U.ag U.a6 d,rfl,rfl⟩
def VT(a:U):AC γ 249 [] a λb c=>c=a/\b=.agg (wl wo):=by refine aZ hm P8 ρ ?_;refine dS ?_;refine aO λh d=>?_;simp -dsimp -implicitDefEqProofs (disch:=first|omega|assumption|(simp only[aR,Nat.reduceAdd];try omega)) only[go_sem,simprocAttr,putAt,List.take,List.drop,ζ,a4l,a3l];exact⟨a,U.ag U.a6 d,rfl,rfl⟩
def tp(p r:UInt32):Φ->Φ
 |[a,c,d,x,b,h,k,y]=>
  let o:=y+(rotl b 26^^^rotl b 21^^^rotl b 7)+(b&&&h^^^ ~~~b&&&k)+p+r
  let z:=(rotl a 30^^^rotl a 19^^^rotl a 10)+(a&&&c^^^a&&&d^^^c&&&d)
  [o+z,a,c,d,x+o,b,h,k]
 |C=>C
def kE:Φ->Φ->Φ->Φ
 |a::bw,b::ws,v=>kE bw ws (tp a b v)
 |_,_,v=>v
def comp(a:Φ)(b:Τ):Φ:=Α (·+ ·) (kE wo (sched b) a) a
def nC(a:Nat)(v b:Φ):Φ:=Α (·+ ·) (v.take a) (b.take a)++v.drop a
def Bv:∀(a:Nat)(b:Φ),(grow a b).length=α b+a
 |0,b=>rfl
 |a+1,b=>by rw[grow,Bv a,more];simp;omega
def VU(a:Τ):(sched a).length=64:=by simp[sched,Bv,first]
def VV(a:Τ)(c:Own)(d:α a=64)(b:U):AC γ 248 [.J (a.map ao) c] b λh k=>k=b/\h=.agg (wl (sched a)):=VR a c d b
def VW(v b:Φ)(c:α v=8)(d:α b=8)(a:Nat)(h:a<8):
  (nC a v b).length=8/\(nC a v b).set a ((nC a v b).getD a 0+b.getD a 0)=nC (a+1) v b:=by
 match v,c,b,d with
 |[k,o,p,r,x,y,z,C],_,[D,E,F,G,L,P,S,T],_=>rcases(by omega:a=0\/a=1\/a=2\/a=3\/a=4\/a=5\/a=6\/a=7)with rfl|rfl|rfl|rfl|rfl|rfl|rfl|rfl<;>exact⟨rfl,rfl⟩
def VX(a b:UInt32)(v:Φ)(c:α v=8):(tp a b v).length=8:=by
 match v,c with
 |[d,h,k,o,p,r,x,a],_=>rfl
def Bw:∀(a b v:Φ),α v=8->(kE a b v).length=8
 |[],_,v,c=>by trivial
 |_:: _,[],v,c=>by trivial
 |d::a,h::b,v,c=>by rw[kE];exact Bw a b _ (VX d h v c)
theorem VY(b c v:Φ)(a:Nat)(d:a<α b)(h:a<α c):kE (b.drop a) (c.drop a) v=kE (b.drop (a+1)) (c.drop (a+1)) (tp (b.getD a 0) (c.getD a 0) v):=by grind[List.drop_eq_getElem_cons,kE,List.getD]
theorem VZ(c x y:Φ)(I:Τ)(K:Own)(t:α c=8)(N:α x=64)(O:α y=64)
  (Q:∀o,AC γ 249 [] o λT p=>p=o/\T=.agg (wl x))
  (X:∀o,AC γ 248 [.J (I.map ao) K] o λT p=>p=o/\T=.agg (wl y)) (o:U):
  AC γ 195 [.agg (wl c),.J (I.map ao) K] o λT p=>p=o/\T=.agg (wl (Α (·+ ·) (kE x y c) c)):=by
 refine aZ hm NL ρ ?_;have z:(wl c).length=8:=by rw[gv,t]
 have C:(wl x).length=64:=by rw[gv,N]
 have D:(wl y).length=64:=by rw[gv,O]
 refine aI @z ?_;refine aO λW Y=>?_;refine aI @z ?_;refine aO λe u=>?_;obtain⟨k8,u⟩:=U.gq u;refine aI @z ?_;refine ak (X _) ?_;rintro _ _⟨rfl,rfl⟩;refine aI @z ?_;refine ak (Q _) ?_;rintro _ _⟨rfl,rfl⟩;refine aI @z ?_;refine aO λw V=>?_;obtain⟨k9,V⟩:=U.gq V;obtain⟨l0,V⟩:=U.gq V;refine aI @z ?_;refine aO λA S=>?_;obtain⟨l1,S⟩:=U.gq S;obtain⟨l2,S⟩:=U.gq S;obtain⟨l3,S⟩:=U.gq S;refine aI @z ?_;refine aO λf E=>?_;obtain⟨l4,E⟩:=U.gq E;obtain⟨l5,E⟩:=U.gq E;obtain⟨l6,E⟩:=U.gq E;obtain⟨l7,E⟩:=U.gq E;refine aI (aL @z @C @D @a2U.{0}) ?_;refine cz (λb p=>∃(a:Nat)(v:Φ),a<=64/\α v=8/\kE (x.drop a) (y.drop a) v=kE x y c/\b 2=.ptr W 0/\b 4=.ptr e 0/\b 5=.ptr w 0/\b 6=.ptr A 0/\b 7=.ptr f 0/\b 18=.v (.int .i64 a)/\
   p=(((((o.set W (.cells (wl c))).set e (.cells (ζ 8 (.v (.int .u32 0))))).set w (.cells (wl y))).set A (.cells (wl x))).set f (.cells (wl v))))
  (λb _=>match b 18 with|.v (.int _ B)=>(64 - B).toNat|_=>0) ⟨0,c,δ,t,rfl,?_⟩ ?_
 .exact pW
  all_goals (trivial)
 .rintro b p⟨a,v,Z,H,k0,d,h,F,G,k,L,rfl⟩;have P:(wl v).length=8:=by rw[gv,H]
  by_cases r:(a:Int)<64
  .obtain⟨g,i,j,l,m,n,q,s,rfl⟩:∃g i j l m n q s,v=[g,i,j,l,m,n,q,s]:=by
    match v,H with
    |[g,i,j,l,m,n,q,s],_=>simp
   refine aI (ga @d @h @F @G @k @L @r @P @C @D @lG @oO @a3X.{0} @a4j.{0}) ?_;refine ak (lF _ _ 26 Λ Λ _) ?_;rintro _ _⟨rfl,rfl⟩;refine aI (ga @d @h @F @G @k @L @r @P @C @D @lG @oO @a3X.{0} @a4j.{0}) ?_;refine ak (lF _ _ 21 Λ Λ _) ?_;rintro _ _⟨rfl,rfl⟩;refine aI (ga @d @h @F @G @k @L @r @P @C @D @lG @oO @a3X.{0} @a4j.{0}) ?_;refine ak (lF _ _ 7 Λ Λ _) ?_;rintro _ _⟨rfl,rfl⟩;refine aI (ga @d @h @F @G @k @L @r @P @C @D @lG @oO @a3X.{0} @a4j.{0}) ?_;refine ak (lF _ _ 30 Λ Λ _) ?_;rintro _ _⟨rfl,rfl⟩;refine aI (ga @d @h @F @G @k @L @r @P @C @D @lG @oO @a3X.{0} @a4j.{0}) ?_;refine ak (lF _ _ 19 Λ Λ _) ?_;rintro _ _⟨rfl,rfl⟩;refine aI (ga @d @h @F @G @k @L @r @P @C @D @lG @oO @a3X.{0} @a4j.{0}) ?_;refine ak (lF _ _ 10 Λ Λ _) ?_;rintro _ _⟨rfl,rfl⟩;simp -dsimp -implicitDefEqProofs (disch:=first|omega|assumption|(simp only[aR,Nat.reduceAdd];try omega)) only[go_sem,↓reduceIte,Nat.reduceEqDiff,Nat.reduceAdd,Nat.reduceSub,Nat.reduceMul,Nat.reduceLeDiff,Nat.reduceLT,Int.reduceNeg,Int.reduceToNat,Int.reduceAdd,Int.reduceSub,Int.reduceMul,Int.reduceLT,Int.reduceLE,Int.reduceEq,Int.reduceNe,d,h,F,G,k,L,r,P,C,D,lG,oO,a3X,a4j,putAt,List.take,List.drop,ζ,a4l,a3l];refine⟨⟨a+1,tp (x.getD a 0) (y.getD a 0) [g,i,j,l,m,n,q,s],δ,rfl,?_,ρ,rfl⟩,δ⟩;grind[VY]
  .obtain rfl:a=64:=δ;have k2:kE x y c=v:=by rw[<-k0,a4B δ];rfl
   refine aI (ck @d @h @F @G @k @L @r @P @C @D) ?_;refine cz (λb p=>∃a:Nat,a<=8/\b 2=.ptr W 0/\b 4=.ptr e 0/\b 7=.ptr f 0/\b 108=.v (.int .i64 a)/\
     p=(((((o.set W (.cells (wl c))).set e (.cells (ζ 8 (.v (.int .u32 0))))).set w (.cells (wl y))).set A (.cells (wl x))).set f (.cells (wl (nC a v c)))))
    (λb _=>match b 108 with|.v (.int _ B)=>(8 - B).toNat|_=>0) ⟨0,δ,?_⟩ ?_
   .refine aI (aE @d @h @k) ?_;rfl
   .rintro b p⟨a,Z,d,h,k,M,rfl⟩;by_cases r:(a:Int)<8
    .obtain⟨k3,k4⟩:=VW v c H t a δ;have k5:(wl (nC a v c)).length=8:=by rw[gv,k3]
     refine aI (ck @d @h @k @M @r @z @k5 @lG @VS @k4) ?_;grind
    .obtain rfl:a=8:=δ;have k6:nC 8 v c=Α (·+ ·) v c:=by grind[nC,Θ,List.drop_of_length_le]
     have k7:(wl (Α (·+ ·) v c)).length=8:=by rw[gv];simp;omega
     rw[k6];refine aI (cd @d @h @k @M @r @k7 @a2U.{0}) ?_;refine⟨o,?_,rfl,by rw[k2]⟩;exact U.ag (U.ag (U.ag (U.ag (U.ag U.a6 Y) u) V) S) E
def Bx(b:Φ)(a:Τ)(c:Own)(h:α b=8)(k:α a=64)(d:U):
  AC γ 195 [.agg (wl b),.J (a.map ao) c] d λo p=>p=d/\o=.agg (wl (comp b a)):=
 VZ b wo (sched a) a c h rfl (VU a) VT (VV a c k) d
def wu(a:Φ)(c:Τ)(b:α a=8):(comp a c).length=8:=by simp[comp,Bw _ _ _ b,b]
def bytes(a:Τ)(b:Own):R:=.J (a.map ao) b
def ej(a:Nat):Τ:=[ς (a>>>56),ς (a>>>48),ς (a>>>40),ς (a>>>32),ς (a>>>24),ς (a>>>16),ς (a>>>8),ς (a>>>0)]
theorem Bz(b:Nat)(x:U):AC γ 196 [.v (.int .u64 b)] x λC h=>∃c,bj x h 1 ((ej b).map ao) c/\C=.J ((ej b).map ao) c:=by
 refine aZ hm NN ρ ?_;refine dS ?_;refine cz (λd h=>∃(a:Nat)(c:Own),a<=8/\bj x h 1 (((ej b).take a).map ao) c/\d 0=.v (.int .u64 b)/\d 3=.J (((ej b).take a).map ao) c/\d 4=.v (.int .i64 (56 - 8*(a))))
  (λd _=>match d 4 with|.v (.int _ b)=>(b+8).toNat|_=>0) ⟨0,.nil,δ,bj.Tx U.a6,?_⟩ ?_
 .refine dS ?_;rfl
 .rintro d h⟨a,c,G,y,k,o,p⟩;by_cases r:(0)<=56 - 8*(a:Int)
  .refine aI (ba @k @o @p @r @oG) ?_;refine rl U.a6 λL P D=>?_;refine aI (aL @k @o @p @r) ?_;refine vS (y.mono D.sub) (by simp[ej];omega) λE S F=>?_;refine aI (aL @k @o @p @r) ?_;refine⟨⟨a+1,E,δ,?_,?_⟩,δ⟩
   .have z:(ej b).take (a+1)=(ej b).take a++[ς (b>>>(56 - 8*(a:Int)).toNat)]:=by rcases(by omega:a=0\/a=1\/a=2\/a=3\/a=4\/a=5\/a=6\/a=7)with rfl|rfl|rfl|rfl|rfl|rfl|rfl|rfl<;>rfl
    rw[z];exact F
   .have z:(ej b).take (a+1)=(ej b).take a++[ς (b>>>(56 - 8*(a:Int)).toNat)]:=by rcases(by omega:a=0\/a=1\/a=2\/a=3\/a=4\/a=5\/a=6\/a=7)with rfl|rfl|rfl|rfl|rfl|rfl|rfl|rfl<;>rfl
    grind
  .obtain rfl:a=8:=δ;refine aI (aL @k @o @p @r) ?_;exact⟨h,U.a6,c,y,rfl⟩
def oP(b:List (Τ×Own)):Χ:=b.map λa=>.J (a.1.map ao) a.2
def chunk(a:Τ):Τ:=ej (α a)++a
def preB(a:UInt8)(b:List Τ):Τ:=a::b.flatMap chunk
def BA(a:UInt8):∀b:List Τ,α b<(preB a b).length
 |[]=>by simp[preB]
 |d::c=>by
  have:=BA a c;simp only[preB,a3e,a3A,a2V,chunk,ej,a3a]at this|-;omega
def W0(b:UInt8)(c:List (Τ×Own))(p:Own)(S:(preB b (c.map (·.1))).length<=70368744177664)(G:U):
  AC γ 141 [.v (.int .u8 b.toNat),.J (oP c) p] G λT r=>∃p,bj G r 1 ((preB b (c.map (·.1))).map ao) p/\T=.J ((preB b (c.map (·.1))).map ao) p:=by
 refine aZ hm Mq ρ ?_;refine dS ?_;refine rl U.a6 λV n W=>?_;refine dS ?_;refine cz (λh r=>∃(a k:List (Τ×Own))(E:Own),c=a++k/\bj G r 1 ((preB b (a.map (·.1))).map ao) E/\h 5=.J ((preB b (a.map (·.1))).map ao) E/\h 10=.J (oP c) p/\h 11=.v (.int .i64 (α c))/\h 12=.v (.int .i64 (α a)))
  (λh _=>match h 12 with|.v (.int _ e)=>(α c - e).toNat|_=>0) ⟨[],c,V,rfl,W,?_⟩ ?_
 .refine dS ?_;exact⟨rfl,by simp[oP]⟩
 .rintro h r⟨a,k,E,rfl,L,x,y,z,C⟩;cases k with
  |nil=>have o:¬(α a:Int)<((a++[]).length):=ρ;refine aI (ba @x @y @z @C @o) ?_;simp only[a3Y]at*;exact⟨r,U.a6,E,L,rfl⟩
  |cons f k=>
   obtain⟨d,D⟩:=f;have o:(α a:Int)<((a++(d,D)::k).length):=Κ;have F:(oP (a++(d,D)::k))[α a]?=β (.J (d.map ao) D):=by simp[oP]
   have q:(preB b (a.map (·.1))).length+8+α d<=70368744177664:=by refine a4f ?_ S;simp[preB,chunk,ej];omega
   have g:=BA b (a.map (·.1));rw[a3k]at g;refine aI (cd @x @y @z @C @o @F @fJ) ?_;refine ak (Bz (α d) _) ?_;rintro _ s⟨t,i,rfl⟩;refine aI (cd @x @y @z @C @o @F @fJ) ?_;refine mx (L.mono i.sub) ?_ λu v j=>?_
   .simp only[ej,a3e,a3a];omega
   refine aI (cd @x @y @z @C @o @F @fJ) ?_;refine mx j ?_ λl w P=>?_
   .simp only[ej,a2V,a3e,a3a];omega
   refine aI (cd @x @y @z @C @o @F @fJ) ?_;have m:preB b (a.map (·.1))++ej (α d)++d=preB b ((a++[(d,D)]).map (·.1)):=by simp[preB,chunk]
   rw[m]at P|-;refine⟨⟨a++[(d,D)],k,l,ρ,P,rfl,?_⟩,?_⟩
   .simp
   omega
def blocks:Nat->Φ->Τ->Φ
 |0,a,_=>a
 |b+1,a,aX=>blocks b (comp a (aX.take 64)) (aX.drop 64)
def q4:∀(b:Nat)(a:Φ)(aX:Τ),α a=8->(blocks b a aX).length=8
 |0,_,_,c=>c
 |b+1,a,aX,c=>by rw[blocks];exact q4 b _ _ (wu a _ c)
theorem wv:∀(a:Nat)(b:Φ)(aX:Τ),blocks (a+1) b aX=comp (blocks a b aX) ((aX.drop (64*a)).take 64)
 |0,b,aX=>by rfl
 |a+1,b,aX=>by
  rw[blocks,wv a,blocks,a3G];grind
variable{q b7:R}
section
variable{h:Φ}(hh:α h=8)
include hh
def lH:(wl h++[q,b7]).length=10:=by simp[wl,hh]
def q5:(wl h++[q,b7]).drop 9=[b7]:=by rw[show(9)=(wl h).length+1 by rw[gv,hh],<-a3G,a5y];rfl
theorem q6:(wl h++[q,b7]).drop 8=[q,b7]:=by grind[wl,gv,List.drop_left]
theorem q7:(wl h++[q,b7]).take 8=wl h:=by grind[wl,gv,List.take_left]
theorem wx{a:R} :putAt (wl h++[q,b7]) 9 [a]=wl h++[q,a]:=by simp_all [gv,putAt,a5U,a2U]
theorem tq{a:R} :putAt (wl h++[q,b7]) 8 [a]=wl h++[a,b7]:=by simp_all [gv,putAt,a4z]
theorem wy{a:Φ}(b:α a=8):putAt (wl h++[q,b7]) 0 (wl a)=wl a++[q,b7]:=by grind[wl,gv,putAt,List.take_append,List.drop_append,List.drop_of_length_le]
end
variable{f u e1:U}{X j6:bl}
theorem U.q8(a:f e=β X):f.set e X=f:=by grind[U.set]
theorem U.BB(c:(f.set e j6).sub u):(f.set e X).sub (u.set e X):=λd h a=>by
 rw[U.sV]at a|-;split;simp_all
 .rename_i b;rw[if_neg b]at a;exact c d h (by rw[U.sV,if_neg b];exact a)
theorem W1(h:Φ)(a:α h=8)(T:∀o,AC γ 194 [] o λV p=>p=o/\V=.agg (wl h))(b:Τ)(W:Own)(s:α b<=70368744177664)(o:U)(k:Nat)(e:o k=β (.cells (wl h++[.J [] .nil,.v (.int .u64 0)]))):
  AC γ 139 [.ptr k 0,.J (b.map ao) W] o λ_ p=>∃r,p=o.set k (.cells (wl (blocks (α b/64) h b)++[.J ((b.drop (64*(α b/64))).map ao) r,.v (.int .u64 (α b))])):=by
 refine aZ hm Mm ρ ?_;have E:(wl h).length=8:=by rw[gv,a]
 rw[<-U.q8 e];simp -dsimp -implicitDefEqProofs (disch:=first|omega|assumption|(simp only[aR,Nat.reduceAdd];try omega)) only[go_sem,simprocAttr,lH a,q5 a,q6 a,q7 a,wx a,tq a];refine ak (T _) ?_;rintro _ _⟨rfl,rfl⟩;simp -dsimp -implicitDefEqProofs (disch:=first|omega|assumption|(simp only[aR,Nat.reduceAdd];try omega)) only[go_sem,simprocAttr,lH a,q5 a,q6 a,q7 a,wx a,tq a,wy a a,E];refine eb U.a6 (by simp[bc]) λt u F=>?_;have G:=F.sub k _ (ν _ _ _);simp -dsimp -implicitDefEqProofs (disch:=first|omega|assumption|(simp only[aR,Nat.reduceAdd];try omega)) only[go_sem,simprocAttr,U.aK G,U.af G,lH a,q5 a,q6 a,q7 a,wx a,tq a,wy a a,E];refine ei F (by simp[bc]) (by simp[bc]) ρ ρ λv w f=>?_;refine dS ?_;refine mx (B:=[]) f Κ λg i L=>?_;have j:=L.sub k _ (ν _ _ _);rw[<-U.q8 j];simp -dsimp -implicitDefEqProofs (disch:=first|omega|assumption|(simp only[aR,Nat.reduceAdd];try omega)) only[go_sem,simprocAttr,a6x,a3l];refine cz (λx p=>∃(c:Nat)(r:Own),64*c<=α b/\x 0=.ptr k 0/\x 4=.J ((b.drop (64*c)).map ao) r/\p=i.set k (.cells (wl (blocks c h b)++[.J [] .nil,.v (.int .u64 (α b))])))
  (λx _=>match x 4 with|.J xs _=>α xs|_=>0) ⟨0,g,δ,?_⟩ ?_
 .simp -dsimp -implicitDefEqProofs (disch:=first|omega|assumption|(simp only[aR,Nat.reduceAdd];try omega)) only[go_sem,simprocAttr,a6x];rfl
 .rintro x p⟨c,r,A,C,D,rfl⟩;have d:=q4 c h b a;generalize P:blocks c h b=z at*;have B:(wl z).length=8:=by rw[gv,d]
  by_cases y:(64)<=((b.drop (64*c)).length:Int)
  .have l:=y;rw[a3i]at l;simp -dsimp -implicitDefEqProofs (disch:=first|omega|assumption|(simp only[aR,Nat.reduceAdd];try omega)) only[go_sem,simprocAttr,C,D,y,lH d,q7 d];have m:((b.drop (64*c)).take (64:Int).toNat).length=64:=Κ;refine ak (Bx z _ _ d m _) ?_;rintro _ _⟨rfl,rfl⟩;have S:=wu z ((b.drop (64*c)).take 64) d;have n:(wl (comp z ((b.drop (64*c)).take 64))).length=8:=by rw[gv,S]
   simp -dsimp -implicitDefEqProofs (disch:=first|omega|assumption|(simp only[aR,Nat.reduceAdd];try omega)) only[go_sem,simprocAttr,C,D,y,lH d,wy d S,n];refine⟨⟨c+1,.any,δ,?_,?_⟩,by simp only[a3i];omega⟩;grind[List.drop_drop]
   .rw[wv,P]
  .simp -dsimp -implicitDefEqProofs (disch:=first|omega|assumption|(simp only[aR,Nat.reduceAdd];try omega)) only[go_sem,simprocAttr,C,D,y,lH d,tq d];rw[a3i]at y;have q:α b/64=c:=δ;refine⟨o.set k _,U.BB L.sub,r,?_⟩;rw[q,P]
def W2(a:Τ)(d:Own)(h:α a<=70368744177664)(b:U)(c:Nat)(k:b c=β (.cells (wl jP++[.J [] .nil,.v (.int .u64 0)]))):
  AC γ 139 [.ptr c 0,.J (a.map ao) d] b λ_ o=>∃p,o=b.set c (.cells (wl (blocks (α a/64) jP a)++[.J ((a.drop (64*(α a/64))).map ao) p,.v (.int .u64 (α a))])):=
 W1 jP rfl wq a d h b c k
def jQ(a:Nat):Nat:=(55+64 - a%64)%64
def jR(a:Nat)(b:Τ):Τ:=b++128::ζ (jQ a) 0++ej (8*a)
def wz(a:UInt32):Τ:=[(a>>>24).toUInt8,(a>>>16).toUInt8,(a>>>8).toUInt8,a.toUInt8]
def hJ(a:Φ):Τ:=a.flatMap wz
def c3(a:Τ):R:=.agg (a.map ao)
def jS(a:Τ):Χ:=a.map ao++ζ (32 - α a) (.v (.int .u8 0))
variable{B:Τ}
def wA(a:α B<=32):(jS B).length=32:=by simp[jS];omega
def BC(a:UInt8)(b:e=α B)(d:α B<32):putAt (jS B) e [.v (.int .u8 a.toNat)]=jS (B++[a]):=by subst b;have c:32 - α B=(32 -(α B+1))+1:=δ;simp only[putAt,jS,c,a5n];simp[a4z,ao]
def wB:∀a:Φ,(hJ a).length=4*α a
 |[]=>rfl
 |c::b=>by simp only[hJ,a3A,a2V]at*;have:=wB b;simp only[hJ]at this;rw[this];simp[wz];omega
theorem W3(m:Φ)(a10:α m=8)(k6:∀F,AC γ 194 [] F λn p=>p=F/\n=.agg (wl m))(r:Φ)(x:α r=8)(a:Nat)(k:Τ)(H:Own)(a11:a<=70368744177664)(I:α k=a%64)(k7:a=0->r=m)
  (F:U) (S:Nat) (T:F S=β (.cells (wl r++[.J (k.map ao) H,.v (.int .u64 a)]))):
  AC γ 140 [.ptr S 0] F λn p=>p=F/\n=c3 (hJ (blocks ((jR a k).length/64) r (jR a k))):=by
 refine aZ hm Mo ρ ?_;have K:(wl r).length=8:=by rw[gv,x]
 refine dS ?_;refine aO λG q=>?_;have k8:S≠G:=by rintro rfl;rw[q]at T;cases T
 simp -dsimp -implicitDefEqProofs (disch:=first|omega|assumption|(simp only[aR,Nat.reduceAdd];try omega)) only[go_sem,↓reduceIte,Nat.reduceEqDiff,Nat.reduceAdd,Nat.reduceSub,Nat.reduceMul,Nat.reduceLeDiff,Nat.reduceLT,Int.reduceNeg,Int.reduceToNat,Int.reduceAdd,Int.reduceSub,Int.reduceMul,Int.reduceLT,Int.reduceLE,Int.reduceEq,Int.reduceNe,U.af T,lH x,q5 x,q6 x,q7 x];refine aO λL f=>?_;obtain⟨M,f⟩:=U.gq f;have k9:S≠L:=by rintro rfl;rw[f]at T;cases T
 simp -dsimp -implicitDefEqProofs (disch:=first|omega|assumption|(simp only[aR,Nat.reduceAdd];try omega)) only[go_sem,↓reduceIte,Nat.reduceEqDiff,Nat.reduceAdd,Nat.reduceSub,Nat.reduceMul,Nat.reduceLeDiff,Nat.reduceLT,Int.reduceNeg,Int.reduceToNat,Int.reduceAdd,Int.reduceSub,Int.reduceMul,Int.reduceLT,Int.reduceLE,Int.reduceEq,Int.reduceNe,U.af T,lH x,q5 x,q6 x,q7 x,K];refine rm (λb p=>b 0=.ptr S 0/\b 2=.ptr G 0/\b 3=.ptr L 0/\p=(F.set G (.cells (ζ 32 (.v (.int .u8 0))))).set L (.cells (wl r))) ?_ ?_ ?_
 .intro N;have l0:a=0:=by simpa using N
  have l1:=k7 l0;subst l1;refine dS ?_;refine ak (k6 _) ?_;rintro _ _⟨rfl,rfl⟩;exact hh @K
 .intro _;exact pW
 .rintro b p⟨z,c,d,rfl⟩;have O:((F.set G (.cells (ζ 32 (.v (.int .u8 0))))).set L (.cells (wl r))) S=β (.cells (wl r++[.J (k.map ao) H,.v (.int .u64 a)])):=by rw[ξ _ _ k9,ξ _ _ k8];exact T
  generalize s:((F.set G (.cells (ζ 32 (.v (.int .u8 0))))).set L (.cells (wl r)))=l2 at*;refine aI (aE @z @c @d) ?_;refine eb U.a6 (by simp[bc]) λa13 a14 Q=>?_;have l3:=Q.sub _ _ O;simp -dsimp -implicitDefEqProofs (disch:=first|omega|assumption|(simp only[aR,Nat.reduceAdd];try omega)) only[go_sem,↓reduceIte,Nat.reduceEqDiff,Nat.reduceAdd,Nat.reduceSub,Nat.reduceMul,Nat.reduceLeDiff,Nat.reduceLT,Int.reduceNeg,Int.reduceToNat,Int.reduceAdd,Int.reduceSub,Int.reduceMul,Int.reduceLT,Int.reduceLE,Int.reduceEq,Int.reduceNe,z,c,d,U.af l3,lH x,q6 x];refine mx (B:=[]) Q Κ λa15 a16 l4=>?_;refine aI (aE @z @c @d) ?_;refine rl (a:=128) U.a6 λa18 a19 l5=>?_;refine aI (aE @z @c @d) ?_;refine vS (l4.mono l5.sub) Κ λl6 a27 a29=>?_;refine aI (aL @z @c @d @a3l.{0}) ?_;refine cz (λb p=>∃(E:Nat)(V:Own),E<=jQ a/\b 0=.ptr S 0/\b 2=.ptr G 0/\b 3=.ptr L 0/\b 4=.J ((k++128::ζ E 0).map ao) V/\bj l2 p 1 ((k++128::ζ E 0).map ao) V)
   (λb _=>match b 4 with|.J xs _=>200 - α xs|_=>0) ⟨0,l6,δ,?_⟩ ?_
  .simp -dsimp -implicitDefEqProofs (disch:=first|omega|assumption|(simp only[aR,Nat.reduceAdd];try omega)) only[go_sem,↓reduceIte,Nat.reduceEqDiff,Nat.reduceAdd,Nat.reduceSub,Nat.reduceMul,Nat.reduceLeDiff,Nat.reduceLT,Int.reduceNeg,Int.reduceToNat,Int.reduceAdd,Int.reduceSub,Int.reduceMul,Int.reduceLT,Int.reduceLE,Int.reduceEq,Int.reduceNe,z,c,d];trivial
  .rintro b p⟨E,V,a30,z,c,d,C,t⟩;have N:jQ a<=63:=by unfold jQ;omega
   have X:(k++128::ζ E 0).length=a%64+1+E:=by simp[I];omega
   by_cases P:E<jQ a
   .have l7:¬(((a%64+1+E)%64:Nat):Int)=56:=by unfold jQ at P;omega
    refine aI (cd @z @c @d @C @X @AV @l7) ?_;refine rl (a:=0) U.a6 λl8 l9 u=>?_;refine aI (aL @z @c @d @C) ?_;refine vS (t.mono u.sub) δ λY v i=>?_;have a34:k++128::ζ E 0++[0]=k++128::ζ (E+1) 0:=by simp[List.replicate_succ']
    refine aI (aL @z @c @d @C) ?_;grind
   .obtain rfl:E=jQ a:=δ;have n0:(((a%64+1+jQ a)%64:Nat):Int)=56:=by unfold jQ;omega
    have n1:=t.sub _ _ O;simp -dsimp -implicitDefEqProofs (disch:=first|omega|assumption|(simp only[aR,Nat.reduceAdd];try omega)) only[go_sem,↓reduceIte,Nat.reduceEqDiff,Nat.reduceAdd,Nat.reduceSub,Nat.reduceMul,Nat.reduceLeDiff,Nat.reduceLT,Int.reduceNeg,Int.reduceToNat,Int.reduceAdd,Int.reduceSub,Int.reduceMul,Int.reduceLT,Int.reduceLE,Int.reduceEq,Int.reduceNe,z,c,d,C,X,AV,n0,ne_eq,not_true_eq_false,U.af n1,lH x,q5 x];have W:(8)*(a)=((8*a:Nat):Int):=ρ;rw[W];refine ak (Bz (8*a) _) ?_;rintro _ l9⟨l8,u,rfl⟩;refine aI (aL @z @c @d @C) ?_;refine mx (t.mono u.sub) (by simp[ej];omega) λY v i=>?_;refine aI (aL @z @c @d @C) ?_;have n2:=i.sub _ _ (by rw[<-s];exact ν _ _ _);have Z:=i.sub _ _ (by rw[<-s,ξ _ _ (Ζ M)];exact ν _ _ _);have k0:=U.au (by rw[<-s];exact U.ag (U.ag U.a6 q) f) i.sub;rw[<-U.q8 n2];have n3:k++128::ζ (jQ a) 0++ej (8*a)=jR a k:=rfl;have a36:(jR a k).length=64*((jR a k).length/64):=by
     have:(jR a k).length=a%64+1+jQ a+8:=by simp[jR,I,ej];omega
     rw[this];unfold jQ;omega
    rw[n3];generalize jR a k=y at*;refine cz (λb p=>∃(o:Nat)(V:Own),64*o<=α y/\b 2=.ptr G 0/\b 3=.ptr L 0/\b 4=.J ((y.drop (64*o)).map ao) V/\p=v.set L (.cells (wl (blocks o r y))))
     (λb _=>match b 4 with|.J xs _=>α xs|_=>0) ⟨0,Y,δ,?_⟩ ?_
    .refine aI (c2 @c @d) ?_;rfl
    .rintro b p⟨o,V,a38,c,d,C,rfl⟩;have w:=q4 o r y x;have j:(wl (blocks o r y)).length=8:=by rw[gv,w]
     by_cases P:(0)<((y.drop (64*o)).length:Int)
     .have n4:=P;rw[a3i]at n4;have a42:64<=(y.drop (64*o)).length:=by rw[a3i];omega
      refine aI (bx @c @d @C @P @j @a2U.{0}) ?_;have n5:((y.drop (64*o)).take 64).length=64:=Κ;refine ak (Bx _ _ _ w n5 _) ?_;rintro _ _⟨rfl,rfl⟩;have n9:=wu (blocks o r y) ((y.drop (64*o)).take 64) w;have a00:(wl (comp (blocks o r y) ((y.drop (64*o)).take 64))).length=8:=by rw[gv,n9]
      refine aI (ba @c @d @C @j @a00) ?_;refine⟨⟨o+1,.any,δ,?_,?_⟩,by simp only[a3i];omega⟩;grind[List.drop_drop]
      .rw[wv]
     .rw[a3i]at P;have a01:o=α y/64:=δ;refine aI (ba @c @d @C @a3i.{0} @P) ?_;rw[<-a01];generalize a43:blocks o r y=D at*;refine aO λA B=>?_;obtain⟨a47,B⟩:=U.gq B;have k2:A≠G:=by grind
      refine aI (ba @c @d @C @j @a2U.{0}) ?_;refine cz (λb p=>∃h:Nat,h<=8/\b 2=.ptr G 0/\b 5=.ptr A 0/\b 50=.agg (wl D)/\b 51=.v (.int .i64 h)/\p=(v.set L (.cells (wl D))).set A (.cells (jS (hJ (D.take h)))))
       (λb _=>match b 51 with|.v (.int _ a)=>(8 - a).toNat|_=>0) ⟨0,δ,?_⟩ ?_
      .refine aI (aE @c @d @C) ?_;rfl
      .rintro b p⟨h,a48,c,k3,k4,k5,rfl⟩;have e:(hJ (D.take h)).length=4*h:=by rw[wB];simp;omega
       by_cases P:(h:Int)<8
       .have a02:(jS (hJ (D.take h))).length=32:=wA δ;have a03:(4*(h:Int)).toNat=4*h:=δ;have a04:(4*(h:Int)+1).toNat=4*h+1:=δ;have a05:(4*(h:Int)+2).toNat=4*h+2:=δ;have a06:(4*(h:Int)+3).toNat=4*h+3:=δ;have a52:∀(g)(l),α g<32->putAt (jS g) (α g) [.v (.int .u8 l.toNat)]=jS (g++[l]):=λg l a07=>BC l rfl a07;simp -dsimp -implicitDefEqProofs (disch:=first|omega|assumption|(simp only[aR,Nat.reduceAdd];try omega)) only[go_sem,↓reduceIte,Nat.reduceEqDiff,Nat.reduceAdd,Nat.reduceSub,Nat.reduceMul,Nat.reduceLeDiff,Nat.reduceLT,Int.reduceNeg,Int.reduceToNat,Int.reduceAdd,Int.reduceSub,Int.reduceMul,Int.reduceLT,Int.reduceLE,Int.reduceEq,Int.reduceNe,c,k3,k4,k5,P,j,lG,a03,a04,a05,a06,BC,wA];refine⟨⟨h+1,δ,ρ,?_⟩,δ⟩;grind[hJ,wz,List.getD,List.take_succ_eq_append_getElem]
       .obtain rfl:h=8:=δ;have a02:(jS (hJ (D.take 8))).length=32:=wA δ;have W:D.take 8=D:=a2U δ;have a08:jS (hJ D)=(hJ D).map ao:=by rw[W]at e;simp[jS,e]
        have a09:((hJ D).map ao).length=32:=by rw[W]at e;simp[e]
        have a56:(hJ D).length=32:=by rw[W]at e;exact e
        rw[W,a08];refine aI (kD @c @k3 @k4 @k5 @P @a09 @a2U.{0} (U.aK Z) (U.af Z) @k2 (Ζ k2) (Ζ M) @sX) ?_;refine⟨F,?_,rfl,rfl⟩;exact U.ag (U.ag (U.ag k0 f) (U.bH k0 B)) q
def W4(b:U):AC γ 138 [] b λc d=>∃a,b a=ε/\c=.ptr a 0/\d=b.set a (.cells (wl jP++[.J [] .nil,.v (.int .u64 0)])):=by refine aZ hm Mk ρ ?_;refine dS ?_;refine ak (wq _) ?_;rintro _ _⟨rfl,rfl⟩;have h:(wl jP).length=8:=rfl;have k:putAt (ζ 8 (R.v (Value.int IntKind.u32 0))++[R.J [] Own.nil]++[R.v (Value.int IntKind.u64 0)]) 0 (wl jP)=wl jP++[.J [] .nil,.v (.int .u64 0)]:=rfl;simp -dsimp -implicitDefEqProofs (disch:=first|omega|assumption|(simp only[aR,Nat.reduceAdd];try omega)) only[go_sem,↓reduceIte,Nat.reduceEqDiff,Nat.reduceAdd,Nat.reduceSub,Nat.reduceMul,Nat.reduceLeDiff,Nat.reduceLT,Int.reduceNeg,Int.reduceToNat,Int.reduceAdd,Int.reduceSub,Int.reduceMul,Int.reduceLT,Int.reduceLE,Int.reduceEq,Int.reduceNe,h,k];refine aO λa o=>?_;refine dS ?_;exact⟨_,U.a6,a,o,rfl,rfl⟩
def jT(a:Τ):Τ:=
 hJ (blocks ((jR (α a) (a.drop (64*(α a/64)))).length/64) (blocks (α a/64) jP a) (jR (α a) (a.drop (64*(α a/64)))))
def wC(a:Τ):(jT a).length=32:=by rw[jT,wB,q4 _ _ _ (q4 _ _ _ rfl)]
def W5(a:Τ)(c:Own)(d:α a<=70368744177664)(b:U):AC γ 86 [.J (a.map ao) c] b λk o=>o=b/\k=c3 (jT a):=by
 refine aZ hm KS ρ ?_;refine dS ?_;refine aO λG p=>?_;refine dS ?_;refine ak (W4 _) ?_;rintro _ _⟨h,r,rfl,rfl⟩;obtain⟨x,y⟩:=U.gq r;refine dS ?_;refine ak (W2 a c d _ h (ν _ _ _)) ?_;rintro _ _⟨z,rfl⟩;refine dS ?_;have C:(a.drop (64*(α a/64))).length=α a%64:=Κ;refine ak (W3 jP rfl wq (blocks (α a/64) jP a) (q4 _ _ _ rfl) (α a) (a.drop (64*(α a/64))) z d C (λD=>?_) _ h (ν _ _ _)) ?_
 .rw[D];rfl
 rintro _ _⟨rfl,rfl⟩;have E:((jT a).map ao).length=32:=by rw[a3k,wC]
 have L:=wC a;have F:c3 (hJ (blocks ((jR (α a) (a.drop (64*(α a/64)))).length/64) (blocks (α a/64) jP a) (jR (α a) (a.drop (64*(α a/64))))))=.agg ((jT a).map ao):=rfl;rw[F];generalize jT a=P at*;refine aI (c2 @E (Ζ x)) ?_;exact⟨b,U.ag (U.ag U.a6 p) y,rfl,by rw[a2U δ];rfl⟩
def gw(a:Nat):Nat:=if a=0 then 0 else a.log2+1
theorem wD(a b:Nat)(p:2^b<=a):b+gw (a>>>b)=gw a:=by
 have c:0<2^b:=Nat.pow_pos δ;have d:a≠0:=δ;have h:a>>>b≠0:=by rw[a4g];have:=Nat.div_pos p c;omega
 have r:a.log2=b+(a>>>b).log2:=by rw[Nat.log2_eq_iff d];obtain⟨k,o⟩:=(Nat.log2_eq_iff h).1 rfl;generalize (a>>>b).log2=x at*;rw[a4g]at k o;rw[a6U c]at k;rw[Nat.div_lt_iff_lt_mul c]at o;grind
 simp only[gw,d,h,if_false,r];omega
def BD(a b:Nat)(c:a<2^b):gw a<=b:=by
 unfold gw;split
 .omega
 .rename_i d;have:=(Nat.log2_lt d).2 c;omega
def BE(b:ByteArray):Bool:=(ψ 256).all λa=>b.data[a]?==β (ς (gw a))
def W6(b:ByteArray)(a:Nat)(c:BE b=η)(d:a<256):oH (.v (.string b)) (.v (.int .u8 a))=β (.v (.int .u8 (gw a))):=by
 simp only[BE,a3h,a4b]at c;have h:=c a d;have k:b.data[a]?=β (ς (gw a)):=by simpa using h
 have o:=BD a 8 d;simp only[oH,a3p,k,if_pos (Int.natCast_nonneg a)];have:(ς (gw a)).toNat=gw a:=Κ;rw[this]
theorem W7(h:Nat)(E:h<2^64)(r:U):AC γ 152 [.v (.int .u64 h)] r λb k=>k=r/\b=.v (.int .i64 (gw h)):=by
 refine aZ hm Mw ρ ?_;simp -dsimp -implicitDefEqProofs (disch:=first|omega|assumption|(simp only[aR,Nat.reduceAdd];try omega)) only[↓iV,iW,ah,ofConst,cv,simprocAttr];refine rm (λd k=>k=r/\∃a b:Nat,d 0=.v (.int .u64 a)/\d 2=.v (.int .i64 b)/\a<2^32/\b<=32/\b+gw a=gw h) ?_ ?_ ?_
 .intro c;have c:4294967296<=h:=by simp at c;omega
  simp -dsimp -implicitDefEqProofs (disch:=first|omega|assumption|(simp only[aR,Nat.reduceAdd];try omega)) only[↓iV,iW,ah,ofConst,cv,simprocAttr];exact⟨h>>>32,32,rfl,rfl,δ,δ,wD h 32 c⟩
 .intro c;have c:h<4294967296:=by simp at c;omega
  simp -dsimp -implicitDefEqProofs (disch:=first|omega|assumption|(simp only[aR,Nat.reduceAdd];try omega)) only[↓iV,iW,ah,ofConst,cv,simprocAttr];grind
 rintro d k⟨x,a,b,o,p,y,C,z⟩;rw[x];simp -dsimp -implicitDefEqProofs (disch:=first|omega|assumption|(simp only[aR,Nat.reduceAdd];try omega)) only[↓iV,iW,ah,ofConst,cv,simprocAttr,o,p];refine rm (λd k=>k=r/\∃a b:Nat,d 0=.v (.int .u64 a)/\d 2=.v (.int .i64 b)/\a<2^16/\b<=48/\b+gw a=gw h) ?_ ?_ ?_
 .intro c;have c:65536<=a:=by simp at c;omega
  simp -dsimp -implicitDefEqProofs (disch:=first|omega|assumption|(simp only[aR,Nat.reduceAdd];try omega)) only[↓iV,iW,ah,ofConst,cv,simprocAttr,o,p];exact⟨a>>>16,b+16,rfl,ρ,δ,δ,by grind[wD]⟩
 .intro c;have c:a<65536:=by simp at c;omega
  simp -dsimp -implicitDefEqProofs (disch:=first|omega|assumption|(simp only[aR,Nat.reduceAdd];try omega)) only[↓iV,iW,ah,ofConst,cv,simprocAttr,o,p];grind
 rintro d k⟨x,a,b,o,p,y,C,z⟩;rw[x];simp -dsimp -implicitDefEqProofs (disch:=first|omega|assumption|(simp only[aR,Nat.reduceAdd];try omega)) only[↓iV,iW,ah,ofConst,cv,simprocAttr,o,p];refine rm (λd k=>k=r/\∃a b:Nat,d 0=.v (.int .u64 a)/\d 2=.v (.int .i64 b)/\a<2^8/\b<=56/\b+gw a=gw h) ?_ ?_ ?_
 .intro c;have c:256<=a:=by simp at c;omega
  simp -dsimp -implicitDefEqProofs (disch:=first|omega|assumption|(simp only[aR,Nat.reduceAdd];try omega)) only[↓iV,iW,ah,ofConst,cv,simprocAttr,o,p];exact⟨a>>>8,b+8,rfl,ρ,δ,δ,by grind[wD]⟩
 .intro c;have c:a<256:=by simp at c;omega
  simp -dsimp -implicitDefEqProofs (disch:=first|omega|assumption|(simp only[aR,Nat.reduceAdd];try omega)) only[↓iV,iW,ah,ofConst,cv,simprocAttr,o,p];grind
 rintro d k⟨x,a,b,o,p,y,C,z⟩;rw[x];have D:IntKind.u8.wrap (a)=a:=wrap_u8 δ δ;have F:=BD a 8 y;simp -dsimp -implicitDefEqProofs (disch:=first|omega|assumption|(simp only[aR,Nat.reduceAdd];try omega)) only[↓iV,iW,ah,ofConst,cv,simprocAttr,o,p,D];rw[W6]
 .simp -dsimp -implicitDefEqProofs (disch:=first|omega|assumption|(simp only[aR,Nat.reduceAdd];try omega)) only[↓iV,iW,ah,ofConst,cv,simprocAttr,o,p];exact⟨r,U.a6,rfl,by rw[<-z];simp⟩
 .decide
 .exact y
def W8(a:Nat)(c:a<2^64)(b:U):AC γ 91 [.v (.int .u64 a)] b λd h=>h=b/\d=.v (.int .i64 (gw a)):=by refine aZ hm L2 ρ ?_;refine dS ?_;refine ak (W7 a c _) ?_;rintro _ _⟨rfl,rfl⟩;refine dS ?_;exact⟨_,U.a6,rfl⟩
def a2C(a:List Τ):Prop:=∀b∈a,α b=32
def c5:(c3 B).cells=B.map ao:=rfl
def c6(a:α B=32):(.agg ((B.take 32).map ao):R)=c3 B:=by rw[a2U (by simp[a])];rfl
def W9(a:List Τ)(b:Own)(c:List (Τ×Own))(d:Own)(h:Bool):bl:=.cells [.J (a.map c3) b,.J (oP c) d,.v (.bool h)]
def PS(c:U)(d:Nat)(h k:List Τ)(o:Bool)(p:U):Prop:=
 ∃r b a,a.map (·.1)=k/\bj (c.set d (W9 h r a b o)) p 1 (oP a) b
def tr:Τ:=ζ 32 0
def gN:bl:=.cells (ζ 32 (.v (.int .u8 0)))
def Wa(a:Τ):bl:=.cells (a.map ao)
theorem ts{a:Τ}(b:c3 B=c3 a):B=a:=by
 have c:B.map ao=a.map ao:=by simpa[c3] using b
 have d:=congrArg bytesOf c;rw[qQ,qQ]at d;simp_all
theorem Wb{a:Τ}:peq (.agg (B.map ao)) (.agg (a.map ao))=decide (B=a):=by
 by_cases b:B=a
 .subst b;simp[Ge]
 .have:¬peq (.agg (B.map ao)) (.agg (a.map ao))=true:=λc=>b (ts ((pz _ _).1 c));simp_all
theorem BG(a:α B=32):db [(32,.int .u8)] (B.map ao):=by
 refine⟨by simp[a],?_,?_⟩
 .intro c b;obtain⟨d,_,rfl⟩:=a3m.1 (a3j b);rfl
 .simp only[db];simp_all
variable{I:Bool}
def Wc{a:Τ}{b:R->Prop}(c:α B=32)(d:α a=32):ta I [(32,.int .u8)] (c3 B) (c3 a) b=b (.v (.bool (xor I (decide (B=a))))):=by have h:=BG c;have k:=BG d;show(db _ _/\db _ _/\b (.v (.bool (xor I (peq (.agg (B.map ao)) (.agg (a.map ao)))))))= _;rw[Wb];simp[h,k]
end Go.Proofs.YtcfpcblgmmeioaaGreat
set_option maxHeartbeats 1000000
namespace Go.Proofs.YtcfpcblgmmeioaaGreat
open Go Go.bt
structure BF where
 x:Τ
 y:Τ
 cF:List Τ
 rC:List Τ
 hn:Bool
end Go.Proofs.YtcfpcblgmmeioaaGreat
set_option maxHeartbeats 1000000
namespace Go.Proofs.YtcfpcblgmmeioaaGreat
open Go Go.bt
def tt(a:Τ)(b:Own):bl:=.cells [.J (a.map ao) b,.v (.int .i64 0)]
def cZ(c:U)(d:Nat)(a:Τ)(h:U):Prop:=∃b,bj (c.set d (tt a b)) h 1 (a.map ao) b
def wE(h k:U)(d:Nat)(a b:Τ)(y:Own)(c:cZ h d a k)(D:α a+α b<=70368744177664):
  AC γ 126 [.ptr d 0,.v (.bool η),.J (b.map ao) y] k λ_ z=>cZ h d (a++b) z:=by
 obtain⟨E,c⟩:=c;have C:=c.sub _ _ (ν _ _ _);refine aZ hm M6 ρ ?_;refine aI (aL @a3E (U.af C) @c5 @c6) ?_;refine mx c δ λo F p=>?_;have r:=p.sub _ _ (ν _ _ _);refine aI (aL (U.af r) (U.aK r) @c5 @c6) ?_;have x:=p.set (ob:=tt (a++b) o) (ν _ _ _);rw[σ]at x;exact⟨_,U.a6,o,x⟩
def oQ(c k:U)(a:Nat)(b:Τ)(d:UInt8)(h:cZ c a b k)(o:α b+1<=70368744177664):
  AC γ 72 [.ptr a 0,.v (.int .u8 d.toNat)] k λ_ p=>cZ c a (b++[d]) p:=by
 refine aZ hm KC ρ ?_;refine aI (c2 @c5 @c6) ?_;refine rl U.a6 λr x y=>?_;refine aI (c2 @c5 @c6) ?_;obtain⟨z,h⟩:=h;refine ak (wE c x a b [d] r ⟨z,h.mono y.sub⟩ o) ?_;intro E C D;refine aI (c2 @c5 @c6) ?_;exact⟨C,U.a6,D⟩
def cp(a:Int):Nat:=(π 64 a^^^π 64 9223372036854775808).toNat
def jU(a:Int):Τ:=ej (cp a)
theorem BH(a:Int):br .xor (.int .u64 (IntKind.u64.wrap a)) (.int .u64 9223372036854775808)=β (.int .u64 (cp a)):=by
 have b:π 64 (IntKind.u64.wrap a)=π 64 a:=by rw[rj];apply BitVec.eq_of_toInt_eq;grind
 have c:br .xor (.int .u64 (IntKind.u64.wrap a)) (.int .u64 9223372036854775808)=β (.int .u64 (IntKind.u64.wrap (π 64 (IntKind.u64.wrap a)^^^π 64 9223372036854775808).toNat)):=rfl;rw[c,b];have d:=(π 64 a^^^π 64 9223372036854775808).isLt;rw[wrap_u64 δ δ];rfl
theorem Wd(o C:U)(b:Nat)(p:Τ)(h:Int)(E:cZ o b p C)(G:α p+8<=70368744177664):
  AC γ 184 [.ptr b 0,.v (.int .i64 h)] C λ_ c=>cZ o b (p++jU h) c:=by
 refine aZ hm NA ρ ?_;refine aI (aE @BH @c5 @c6) ?_;generalize F:cp h=k;refine cz (λd c=>∃a:Nat,a<=8/\cZ o b (p++(ej k).take a) c/\d 0=.ptr b 0/\d 4=.v (.int .u64 k)/\d 5=.v (.int .i64 (56 - 8*(a))))
  (λd _=>match d 5 with|.v (.int _ h)=>(h+8).toNat|_=>0) ⟨0,δ,by simpa using E,?_⟩ ?_
 .exact hh (c2 @c5 @c6)
 .rintro d c⟨a,L,D,r,x,y⟩;by_cases z:(0)<=56 - 8*(a:Int)
  .refine aI (cd @r @x @y @z @oG @c5 @c6) ?_;refine ak (oQ o c b _ _ D ?_) ?_
   .simp;omega
   intro P S T;refine aI (bx @r @x @y @z @c5 @c6) ?_;refine⟨⟨a+1,δ,?_,Κ⟩,δ⟩;have V:(ej k).take (a+1)=(ej k).take a++[ς (k>>>(56 - 8*(a:Int)).toNat)]:=by rcases(by omega:a=0\/a=1\/a=2\/a=3\/a=4\/a=5\/a=6\/a=7)with rfl|rfl|rfl|rfl|rfl|rfl|rfl|rfl<;>rfl
   grind
  .obtain rfl:a=8:=δ;refine aI (bx @r @x @y @z @c5 @c6) ?_;refine⟨c,U.a6,?_⟩;rw[jU,F];exact D
end Go.Proofs.YtcfpcblgmmeioaaGreat
namespace Go.bt
open Go
def BI(a:Bool)(c:R)(b:R->Prop):Prop:=
 match c with
 |.J xs d=>match d with
  |.nil=>b (.v (.bool (!a)))
  |.buf _ _=>b (.v (.bool a))
  |_=>(xs=[]->b (.v (.bool (!a))))/\b (.v (.bool a))
 |.aq _ _ _ _=>b (.v (.bool a))
 |_=>False
variable{s Z:R -> U -> Prop}{I:Bool}{K:Ctx}{j:Fr}{f u e1:U}{Y e5:Operand}
def nD:G K (.mc I Y) j f s=BI I (ah j Y) (bT (λa=>s a f) ()):=rfl
variable{g A c0:Χ}{O e4 h5:Own}
def nE{a:R->Prop}{b:cy a}(c:O=.nil->g=[])(d:g=[]->a (.v (.bool (!I))))(h:a (.v (.bool I))):BI I (.J g O) (bT a b):=by
 cases O with
 |nil=>exact d (c rfl)
 |buf k o=>exact h
 |any=>trivial
 |zero=>trivial
end Go.bt
namespace Go.Proofs.YtcfpcblgmmeioaaGreat
open Go Go.bt
def BJ(a:Τ)(d:Own)(b:U)(k:d=.nil->a=[])(C:α a<=70368744177664):
  AC γ 130 [.J (a.map ao) d] b λo p=>∃h,bj b p 1 (a.map ao) h/\o=.J (a.map ao) h:=by
 refine aZ hm Me ρ ?_;simp -dsimp -implicitDefEqProofs (disch:=first|omega|assumption|(simp only[aR,Nat.reduceAdd];try omega)) only[go_sem,simprocAttr,c5,c6,↓nD];refine nE (λc=>by rw[k c];rfl) (λc=>?_) ?_
 .have r:a=[]:=by simpa using c
  subst r;refine aI (aE @a3H @c5 @c6) ?_;exact⟨b,U.a6,.nil,bj.nil U.a6,rfl⟩
 .refine aI (c2 @c5 @c6) ?_;refine eb U.a6 (by simp[bc]) λD E x=>?_;refine aI (c2 @c5 @c6) ?_;refine mx (B:=[]) x Κ λy z F=>?_;refine aI (aE @a3l.{0} @c5 @c6) ?_;exact⟨z,U.a6,y,by trivial,rfl⟩
def We(k b:U)(d:Nat)(a:Τ)(c:cZ k d a b)(o:α a<=70368744177664):
  AC γ 75 [.ptr d 0] b λp r=>∃h,bj b r 1 (a.map ao) h/\p=.J (a.map ao) h:=by
 obtain⟨x,c⟩:=c;have y:=c.sub _ _ (ν _ _ _);refine aZ hm KE ρ ?_;refine aI (aE (U.af y) @c5 @c6) ?_;refine ak (BJ a x b (λz=>?_) o) ?_
 .subst z;have:=c.2;simpa using this
 rintro _ C⟨D,E,rfl⟩;refine aI (c2 @c5 @c6) ?_;exact⟨C,U.a6,D,E,rfl⟩
end Go.Proofs.YtcfpcblgmmeioaaGreat
namespace Go.bt
open Go
end Go.bt
namespace Go.Proofs.YtcfpcblgmmeioaaGreat
open Go Go.bt
def wF(a:Int)(b c:Τ):Χ:=.v (.int .i64 a)::(b.map ao++c.map ao)
def Wf(a:Int)(b c:Τ):R:=.agg (wF a b c)
def Wg(a:Int)(b c:Τ):Τ:=preB 68 [jU a,b,c]
end Go.Proofs.YtcfpcblgmmeioaaGreat
namespace Go.bt
open Go
variable{f u e1:U}{g A c0:Χ}{e i v M b9 h9:Nat}
def Wh(a:α g=e):rn 1 e (f.set i (.ro g)) (.ptr i 0)=β (.J g .any):=TA (ν _ _ _) a
end Go.bt
namespace Go.Proofs.YtcfpcblgmmeioaaGreat
open Go Go.bt
structure hK where
 n:Int
 h:Τ
 d:Τ
 deriving DecidableEq
def hK.ok(a:hK):Prop:=α a.h=32/\α a.d=32
def hK.C(a:hK):Χ:=wF a.n a.h a.d
def hK.V(a:hK):R:=Wf a.n a.h a.d
def hK.sum(a:hK):Τ:=jT (Wg a.n a.h a.d)
def cZ.mono{b c d:U}{h:Nat}{k:Τ}(a:cZ b h k c)(o:c.sub d):cZ b h k d:=by obtain⟨p,a⟩:=a;exact⟨p,a.mono o⟩
def cZ.sub{a c:U}{d:Nat}{h:Τ}(b:cZ a d h c)(k:a d=ε):a.sub c:=by obtain⟨o,b⟩:=b;exact U.au (U.ag U.a6 k) b.sub
theorem cZ.base{b c d:U}{h:Nat}{k:Τ}(a:cZ b h k d)(o:c.sub b):cZ c h k d:=by obtain⟨p,a⟩:=a;exact⟨p,a.base (U.kB o)⟩
variable{f u e1:U}{B:Τ}{e i v M b9 h9:Nat}
def cZ.cell(a:cZ u e B f):∃b,f e=β (tt B b):=by obtain⟨b,a⟩:=a;exact⟨b,a.sub _ _ (ν _ _ _)⟩
def cZ.new{d h:U}{c a:Nat}{p:Τ}{ob:bl}(b:cZ d c p h)(k:h a=ε):a≠c/\d a=ε/\cZ (d.set a ob) c p (h.set a ob):=by
 obtain⟨r,x⟩:=b.cell;have o:a≠c:=by rintro rfl;rw[k]at x;cases x
 obtain⟨r,b⟩:=b;have y:=U.bH b.sub k;rw[ξ _ _ o]at y;refine⟨o,y,r,?_⟩;rw[U.dU _ o];exact b.new k
variable{X j6:bl}
def cZ.get(a:cZ f i B u)(b:e≠i)(c:f e=β X):u e=β X:=by obtain⟨d,a⟩:=a;exact a.sub _ _ (by rw[ξ _ _ b];exact c)
def Wi(d h:U)(a:Nat)(b c:Τ)(k:α c=32)(o:cZ d a b h)(y:α b+32<=70368744177664):
  AC γ 128 [.ptr a 0,c3 c] h λ_ p=>cZ d a (b++c) p:=by
 refine aZ hm Ma ρ ?_;refine aI (aE @k @c5 @c6) ?_;refine aO λz r=>?_;refine aI (aL @k @Wh @c5 @c6) ?_;refine ak (wE d _ a b c .any (o.mono (U.ag U.a6 r)) δ) ?_;intro C D x;refine aI (c2 @c5 @c6) ?_;exact⟨_,U.a6,x⟩
def BK(a:Int):(jU a).length=8:=rfl
end Go.Proofs.YtcfpcblgmmeioaaGreat
