import Derived.Test.YtonldhgdjjfahaaGreatMC
set_option linter.all false
namespace Go.Av
open Go
abbrev jH.{u}{α:Sort u} (_:α):Type:=Unit
def fj {α:Type} (C:α→Prop) (_:jH C) (a:α):Prop:=C a
def jX {α β:Type} (C:α→β→Prop) (_:jH C) (a:α) (b:β):Prop:=C a b
def jC (p:Prop) (_:jH p):Prop:=p
theorem ui {α:Type}{C:α→Prop}{d:jH C}{a:α}:fj C d a=C a:=rfl
theorem aay {α β:Type}{C:α→β→Prop}{d:jH C}{a:α}{b:β}:jX C d a b=C a b:=rfl
theorem aaz {p:Prop}{d:jH p}:jC p d=p:=rfl
def CT (s:Hp) (C:Nat→Prop):Prop:= ∀l,s l=none→C l
def tJ (A B:Prop):Prop:=A∧B
theorem aaA {p B:Prop}{d:jH B} (h:p):tJ p (jC B d)=B:=by simp[tJ,jC,h]
theorem HE {B:Prop}{d:jH B}:tJ True (jC B d)=B:=by simp[tJ,jC]
section
variable {P:Ctx}{K:Ex→Fr→Hp→Prop}{f:Fr}{s:Hp}
theorem a7E:je P .skip K f s=K .norm f s:=rfl
theorem aaB:je P .ret K f s=K .ret f s:=rfl
theorem a7F {i:Nat}:je P (.exit i) K f s=K (.exit i) f s:=rfl
theorem aaC {a b:uq}:je P (.seq a b) K f s=je P a (vd (je P b K) K) f s:=rfl
theorem a68 {i:Nat}{a:uq}:je P (.block i a) K f s=je P a (BB i K) f s:=rfl
theorem a69 {ops:List gi}:je P (.plain ops) K f s=z7 P ops (K .norm) f s:=rfl
theorem a7G {ops:List gi}{l:List CO}:je P (.draw ops l) K f s=can P (nth ops) (K .norm) l f s:=rfl
def FE (c:AV) (A B:Prop):Prop:=
 match c with
 | .v (.bool t)=>(t=true→A)∧(t=false→B)
 | _=>False
theorem Yn {c:Operand}{a b:uq}:je P (.cond c a b) K f s=FE (ev f c) (jC (je P a K f s) ()) (jC (je P b K f s) ()):=rfl
theorem a59 {A B:Prop}{d:jH A}:FE (.v (.bool true)) (jC A d) B=A:=by simp[FE,jC]
theorem a4D {A B:Prop}{d:jH B}:FE (.v (.bool false)) A (jC B d)=B:=by simp[FE,jC]
theorem a6a {a:uq}:je P (.loop a) K f s=jC (je P (.loop a) K f s) ():=rfl
theorem a6b {n:Fr→Hp→Prop}:vd n K .norm f s=n f s:=rfl
theorem a7H {n:Fr→Hp→Prop}:vd n K .ret f s=K .ret f s:=rfl
theorem a6c {n:Fr→Hp→Prop}{i:Nat}:vd n K (.exit i) f s=K (.exit i) f s:=rfl
theorem a4E {i:Nat}:BB i K .norm f s=K .norm f s:=rfl
theorem a5a {i:Nat}:BB i K .ret f s=K .ret f s:=rfl
theorem a4F {i j:Nat}:BB i K (.exit j) f s=(if j=i then K .norm f s else K (.exit j) f s):=by
 simp only[BB];split<;>rfl
theorem a4G {i:Nat}:BB i K (.exit i) f s=K .norm f s:=by simp[BB]
theorem a7I {Kf:Fr→Hp→Prop}:z7 P [] Kf f s=Kf f s:=rfl
theorem a6d {Kf:Fr→Hp→Prop}{d:Option Nat}{op:iu}{r:List gi}:z7 P (⟨d,op,none⟩::r) Kf f s=G P op f s (fun x s'=>z7 P r Kf (lO f d x) s'):=rfl
def xI (c:AV) (want:Bool) (A B:Prop):Prop:=
 match c with
 | .v (.bool b)=>if b=want then A else B
 | .dr []=>B
 | _=>False
theorem a5b {Kf:Fr→Hp→Prop}{d:Option Nat}{op:iu}{g:Nat}{want:Bool}{r:List gi}:
  z7 P (⟨d,op,some (g,want)⟩::r) Kf f s=xI (f g) want (jC (G P op f s (fun x s'=>z7 P r Kf (lO f d x) s')) ()) (jC (z7 P r Kf (lO f d (.dr [])) s) ()):=rfl
theorem a6e {A B:Prop}{d:jH A}:xI (.v (.bool true)) true (jC A d) B=A:=by simp[xI,jC]
theorem a6f {A B:Prop}{d:jH A}:xI (.v (.bool false)) false (jC A d) B=A:=by simp[xI,jC]
theorem a6g {A B:Prop}{d:jH B}:xI (.v (.bool true)) false A (jC B d)=B:=by simp[xI,jC]
theorem a6h {A B:Prop}{d:jH B}:xI (.v (.bool false)) true A (jC B d)=B:=by simp[xI,jC]
theorem a6i {w:Bool}{A B:Prop}{d:jH B}:xI (.dr []) w A (jC B d)=B:=rfl
theorem aaD {xs:Nat→gi}{Kf:Fr→Hp→Prop}:can P xs Kf [] f s=Kf f s:=rfl
def tK (x:gi) (C:gi→Prop):Prop:=C x
theorem afk {d:Option Nat}{op:iu}{g:Option (Nat×Bool)}{C:gi→Prop}:tK ⟨d,op,g⟩ C=C ⟨d,op,g⟩:=rfl
theorem a7J {xs:Nat→gi}{Kf:Fr→Hp→Prop}{i:Nat}{r:List CO}:can P xs Kf (⟨i,[],[]⟩::r) f s=tK (xs i) (fj (fun x=>T P x (fun f' s'=>can P xs Kf r f' s') f s) ()):=by
 simp only[can,List.not_mem_nil,false_implies,implies_true,true_and,tK,fj]
theorem aaE {xs:Nat→gi}{Kf:Fr→Hp→Prop}{i j:Nat}{pre qD:List Nat}{r:List CO}:can P xs Kf (⟨i,j::pre,qD⟩::r) f s=tJ (tK (xs j) (fj (fun x=>Def P x f) ())) (jC (can P xs Kf (⟨i,pre,qD⟩::r) f s) ()):=by
 simp only[can,List.mem_cons,forall_eq_or_imp,tJ,tK,fj,jC];exact propext and_assoc
def KQ (P:Ctx) (x:gi) (f:Fr) (s:Hp):Prop:=
 match x.dst with
 |some d=>E P x f s fun r _=>r=f d
 |none=>True
def Ep (P:Ctx) (xs:Nat→gi) (f:Fr) (s:Hp):List Nat→Prop→Prop
 | [],A=>A
 |j::r,A=>tJ (tK (xs j) (fj (fun x=>KQ P x f s) ())) (jC (Ep P xs f s r A) ())
theorem a7K {xs:Nat→gi}{A:Prop}:Ep P xs f s [] A=A:=rfl
theorem a6j {xs:Nat→gi}{j:Nat}{r:List Nat}{A:Prop}:Ep P xs f s (j::r) A=tJ (tK (xs j) (fj (fun x=>KQ P x f s) ())) (jC (Ep P xs f s r A) ()):=rfl
theorem Z4 {xs:Nat→gi}{A:Prop}: ∀l,Ep P xs f s l A=((∀j∈l,uD P xs j f s)∧A)
 | []=>by simp[Ep]
 |j::r=>by simp only[Ep,Z4 r,tJ,tK,fj,jC,List.mem_cons,forall_eq_or_imp,uD,KQ];exact propext and_assoc.symm
theorem aaF {xs:Nat→gi}{Kf:Fr→Hp→Prop}{i j:Nat}{qD:List Nat}{r:List CO}:can P xs Kf (⟨i,[],j::qD⟩::r) f s=tK (xs i) (fj (fun x=>T P x (fun f' s'=>Ep P xs f' s' (j::qD) (can P xs Kf r f' s')) f s) ()):=by
 simp only[can,List.not_mem_nil,false_implies,implies_true,true_and,tK,fj,Z4]
theorem a7L {d:Option Nat}{op:iu}:Def P ⟨d,op,none⟩ f=G P op f Hp.emp (fun _ _=>True):=rfl
theorem a6k {d:Nat}{op:iu}:KQ P ⟨some d,op,none⟩ f s=G P op f s (fun r _=>r=f d):=rfl
theorem a6l {d:jH (fun _:Nat=>True)}:CT s (fj (fun _=>True) d)=True:=by simp[CT,fj]
theorem a7M {x:gi}{r:List gi}:nth (x::r) 0=x:=rfl
theorem a7N {x:gi}{r:List gi}{i:Nat}:nth (x::r) (i+1)=nth r i:=rfl
theorem adC {Kf:Fr→Hp→Prop}{d:Option Nat}{op:iu}:T P ⟨d,op,none⟩ Kf f s=G P op f s (fun x s'=>Kf (lO f d x) s'):=rfl
theorem aaG {Kf:Fr→Hp→Prop}{d:Option Nat}{op:iu}{g:Nat}{want:Bool}:T P ⟨d,op,some (g,want)⟩ Kf f s=xI (f g) want (jC (G P op f s (fun x s'=>Kf (lO f d x) s')) ()) (jC (Kf (lO f d (.dr [])) s) ()):=rfl
theorem a7O {d t:Nat}{a:AV}:lO f (some d) a t=if t=d then a else f t:=rfl
theorem a6m {t:Nat}{a:AV}:lO f none a t=f t:=rfl
def jk (r:Option AV) (C:AV→Prop):Prop:=
 match r with
 |some r=>C r
 |none=>False
theorem uW {c:Prop} [Decidable c] {r:AV}{C:AV→Prop}:jk (if c then some r else none) C=(c∧C r):=by
 split<;>simp[jk, *]
theorem a6n {r:AV}{C:AV→Prop}:jk (some r) C=C r:=rfl
def CU (r:AV) (C:AV→Prop):Prop:=C r
theorem aaH {r:AV}{C:AV→Prop}:CU r C=C r:=rfl
def FF (r:Option (List AV)) (C:List AV→Prop):Prop:=
 match r with
 |some r=>C r
 |none=>False
theorem a5c {r:List AV}{C:List AV→Prop}:FF (some r) C=C r:=rfl
section
variable {Kv:AV→Hp→Prop}
theorem ahO {x:Operand}:G P (.mv x) f s Kv=CU (ev f x) (fj (fun r=>Kv r s) ()):=rfl
def NH (c a b:AV):Option AV:=
 match c with
 | .v (.bool t)=>some (if t then a else b)
 | _=>none
theorem a5d {a b:AV}:NH (.v (.bool true)) a b=some a:=rfl
theorem a4H {a b:AV}:NH (.v (.bool false)) a b=some b:=rfl
theorem adD {c a b:Operand}:G P (.pick c a b) f s Kv=jk (NH (ev f c) (ev f a) (ev f b)) (fj (fun r=>Kv r s) ()):=by
 simp only[G,NH];generalize ev f c=a
 cases a<;>first|rfl|(rename_i v;cases v<;>rfl)
theorem aaI {T:TypeId}{z:List AV}:G P (.alloc T z) f s Kv=CT s (fj (fun l=>Kv (.ptr l 0) (s.set l (.cells z))) ()):=rfl
theorem afl {T:TypeId}{x:Operand}:G P (.box T x) f s Kv=CU (ev f x) (fj (fun a=>tJ (0<a.cells.length) (jC (CT s (fj (fun l=>Kv (.ptr l 0) (s.set l (.cells a.cells))) ())) ())) ()):=rfl
theorem adE {T:TypeId}{x:Operand}:G P (.yX T x) f s Kv=CU (ev f x) (fj (fun a=>tJ (0<a.cells.length) (jC (CT s (fj (fun l=>Kv (.ptr l 0) (s.set l (.ro a.cells))) ())) ())) ()):=rfl
def k9 (agg:Bool) (n:Nat) (s:Hp) (a:AV):Option AV:=
 match a with
 | .ptr l off=>match s.read l with
  |some cs=>if off+n≤cs.length then some (cK agg n (cs.drop off))else none
  |none=>none
 | .eJ cs=>if n≤cs.length then some (cK agg n cs)else none
 | _=>none
def Dm (agg:Bool) (n off:Nat) (cs:Option (List AV)):Option AV:=
 match cs with
 |some cs=>if off+n≤cs.length then some (cK agg n (cs.drop off))else none
 |none=>none
theorem QH {agg:Bool}{n l off:Nat}:k9 agg n s (.ptr l off)=Dm agg n off (s.read l):=rfl
theorem N9 {agg:Bool}{n off:Nat}{cs:List AV} (h:off+n≤cs.length):Dm agg n off (some cs)=some (cK agg n (cs.drop off)):=by simp[Dm,h]
theorem a5e {agg:Bool}{n:Nat}{cs:List AV} (h:n≤cs.length):k9 agg n s (.eJ cs)=some (cK agg n cs):=by simp[k9,h]
theorem adF {agg:Bool}{n:Nat}{x:Operand}:G P (.load agg n x) f s Kv=jk (k9 agg n s (ev f x)) (fj (fun r=>Kv r s) ()):=by
 simp only[G,k9];generalize ev f x=a
 cases a<;>first
  |rfl
  |(simp only[uW,ui];done)
  |(rename_i l off;simp only[];generalize s.read l=c;cases c<;>first|rfl|(simp only[uW,ui]))
def rI (s:Hp) (l:Nat):Option (List AV):=
 match s l with
 |some (.cells cs)=>some cs
 | _=>none
def RM (s:Hp) (n:Nat) (p:AV) (ys:List AV) (C:Hp→Prop):Prop:=
 match p with
 | .ptr l off=>FF (rI s l) fun cs=>tJ (ys.length=n∧off+n≤cs.length) (C (s.set l (.cells (putAt cs off ys))))
 | _=>False
theorem a5f {n l off:Nat}{ys:List AV}{C:Hp→Prop}:RM s n (.ptr l off) ys C=FF (rI s l) (fj (fun cs=>tJ (ys.length=n∧off+n≤cs.length) (jC (FF (some (putAt cs off ys)) (fj (fun zs=>C (s.set l (.cells zs))) ())) ())) ()):=rfl
theorem aaJ {n:Nat}{x y:Operand}:G P (.store n x y) f s Kv=RM s n (ev f x) (ev f y).cells (fj (fun s'=>Kv (.dr []) s') ()):=by
 simp only[G,RM];generalize ev f x=a
 cases a<;>first
  |rfl
  |(
    rename_i l off
    simp only[rI]
    cases s l with
    |none=>rfl
    |some o=>cases o with
     |cells cs=>exact propext and_assoc.symm
     | _=>rfl)
def Ks (a:AV):Option AV:=
 match a with
 | .ptr l off=>some (.ptr l off)
 | .eJ cs=>some (.eJ cs)
 | .eU n ds cs=>some (.eU n ds cs)
 | _=>none
theorem a6o {l off:Nat}:Ks (.ptr l off)=some (.ptr l off):=rfl
theorem a5g {cs:List AV}:Ks (.eJ cs)=some (.eJ cs):=rfl
theorem adG {x:Operand}:G P (.df x) f s Kv=jk (Ks (ev f x)) (fj (fun r=>Kv r s) ()):=by
 simp only[G,Ks];generalize ev f x=a
 cases a<;>first|rfl|(rename_i v;cases v<;>rfl)
def Gq (off:Nat) (a:AV):Option AV:=
 match a with
 | .ptr l o=>some (.ptr l (o+off))
 | .eJ cs=>some (.eJ (cs.drop off))
 | _=>none
theorem aaK {off l o:Nat}:Gq off (.ptr l o)=some (.ptr l (o+off)):=rfl
theorem a7P {off:Nat}{cs:List AV}:Gq off (.eJ cs)=some (.eJ (cs.drop off)):=rfl
theorem ahP {off:Nat}{x:Operand}:G P (.fa off x) f s Kv=jk (Gq off (ev f x)) (fj (fun r=>Kv r s) ()):=by
 simp only[G,Gq];generalize ev f x=a
 cases a<;>first|rfl|(rename_i v;cases v<;>rfl)
def Iw (k len:Nat) (a i:AV):Option AV:=
 match a,i with
 | .ptr l o,.v (.int _ n)=>if 0≤n∧n<len then some (.ptr l (o+n.toNat*k))else none
 | .eJ cs,.v (.int _ n)=>if 0≤n∧n<len then some (.eJ (cs.drop (n.toNat*k)))else none
 | _,_=>none
theorem a7Q {k len l o:Nat}{kd:IntKind}{n:Int} (h:0≤n) (h2:n<len):Iw k len (.ptr l o) (.v (.int kd n))=some (.ptr l (o+n.toNat*k)):=by simp[Iw,h,h2]
theorem a6p {k len:Nat}{cs:List AV}{kd:IntKind}{n:Int} (h:0≤n) (h2:n<len):Iw k len (.eJ cs) (.v (.int kd n))=some (.eJ (cs.drop (n.toNat*k))):=by simp[Iw,h,h2]
theorem afm {k len:Nat}{x i:Operand}:G P (.jD k len x i) f s Kv=jk (Iw k len (ev f x) (ev f i)) (fj (fun r=>Kv r s) ()):=by
 simp only[G,Iw];generalize ev f x=a;generalize ev f i=b
 cases a<;>first
  |rfl
  |(cases b<;>first
    |rfl
    |(rename_i w;cases w<;>first
      |rfl
      |(simp only[uW,ui];exact propext and_assoc.symm)))
def zA (k:Nat) (e:Option AV):Option AV:=
 match e with
 |some e=>if e.cells.length=k then some (.eJ e.cells)else none
 |none=>none
theorem qR {k:Nat}{e:AV} (h:e.cells.length=k):zA k (some e)=some (.eJ e.cells):=by simp[zA,h]
def kQ (k:Nat) (a i:AV):Option AV:=
 match a,i with
 | .sl xs _,.v (.int _ n)=>if 0≤n then zA k xs[n.toNat]? else none
 | .gK l off len k',.v (.int _ n)=>if k'=k∧0≤n∧n<len then some (.ptr l (off+n.toNat*k))else none
 | .mb l len _ k',.v (.int _ n)=>if k'=k∧0≤n∧n<len then some (.ptr l (n.toNat*k))else none
 | _,_=>none
theorem mN {k:Nat}{xs:List AV}{o:Own}{kd:IntKind}{n:Int} (h:0≤n):kQ k (.sl xs o) (.v (.int kd n))=zA k xs[n.toNat]? :=by simp[kQ,h]
theorem I3 {k l len cap:Nat}{kd:IntKind}{n:Int} (h:0≤n) (h2:n<len):kQ k (.mb l len cap k) (.v (.int kd n))=some (.ptr l (n.toNat*k)):=by simp[kQ,h,h2]
theorem a7R {k l off len:Nat}{kd:IntKind}{n:Int} (h:0≤n) (h2:n<len):kQ k (.gK l off len k) (.v (.int kd n))=some (.ptr l (off+n.toNat*k)):=by simp[kQ,h,h2]
theorem afn {k:Nat}{x i:Operand}:G P (.kA k x i) f s Kv=jk (kQ k (ev f x) (ev f i)) (fj (fun r=>Kv r s) ()):=by
 simp only[G,kQ];generalize ev f x=a;generalize ev f i=b
 cases a<;>first
  |rfl
  |(cases b<;>first
    |rfl
    |(rename_i w;cases w<;>first
      |rfl
      |(
        simp only[uW,ui];apply propext;constructor
        ·rintro ⟨h1,h2,h3,h4⟩;exact⟨⟨h1,h2,h3⟩,h4⟩
        ·rintro ⟨⟨h1,h2,h3⟩,h4⟩;exact⟨h1,h2,h3,h4⟩)
      |(
        rename_i xs o kd n
        by_cases h:0≤n
        ·simp only[h,true_and,if_true,zA]
         generalize xs[n.toNat]? =c
         cases c<;>first|rfl|(simp only[uW,ui])
        ·simp[h,jk])))
def O5 (agg:Bool) (off n:Nat) (a:AV):Option AV:=
 match a with
 | .agg cs=>if off+n≤cs.length then some (cK agg n (cs.drop off))else none
 | _=>none
theorem a7S {agg:Bool}{off n:Nat}{cs:List AV} (h:off+n≤cs.length):O5 agg off n (.agg cs)=some (cK agg n (cs.drop off)):=by simp[O5,h]
theorem afo {agg:Bool}{off n:Nat}{x:Operand}:G P (.Lb agg off n x) f s Kv=jk (O5 agg off n (ev f x)) (fj (fun r=>Kv r s) ()):=by
 simp only[G,O5];generalize ev f x=a
 cases a<;>first|rfl|(simp only[uW,ui])
def NI (agg:Bool) (k len:Nat) (a i:AV):Option AV:=
 match a,i with
 | .agg cs,.v (.int _ n)=>if 0≤n∧n<len∧n.toNat*k+k≤cs.length then some (cK agg k (cs.drop (n.toNat*k)))else none
 | _,_=>none
theorem a6q {agg:Bool}{k len:Nat}{cs:List AV}{kd:IntKind}{n:Int} (h:0≤n) (h2:n<len) (h3:n.toNat*k+k≤cs.length):NI agg k len (.agg cs) (.v (.int kd n))=some (cK agg k (cs.drop (n.toNat*k))):=by simp[NI,h,h2,h3]
theorem adH {agg:Bool}{k len:Nat}{x i:Operand}:G P (.Im agg k len x i) f s Kv=jk (NI agg k len (ev f x) (ev f i)) (fj (fun r=>Kv r s) ()):=by
 simp only[G,NI];generalize ev f x=a;generalize ev f i=b
 cases a<;>first
  |rfl
  |(cases b<;>first
    |rfl
    |(rename_i w;cases w<;>first
      |rfl
      |(
        simp only[uW,ui];apply propext;constructor
        ·rintro ⟨h1,h2,h3,h4⟩;exact⟨⟨h1,h2,h3⟩,h4⟩
        ·rintro ⟨⟨h1,h2,h3⟩,h4⟩;exact⟨h1,h2,h3,h4⟩)))
def FO (f:Fr) (cells:List AV):List (Nat×Nat×Operand)→(List AV→Prop)→Prop
 | [],C=>C cells
 |(off,sz,x)::r,C=>CU (ev f x) fun a=>tJ (a.cells.length=sz∧off+sz≤cells.length) (FF (some (putAt cells off a.cells)) fun zs=>FO f zs r C)
theorem a7T {cells:List AV}{C:List AV→Prop}:FO f cells [] C=C cells:=rfl
theorem a6r {cells:List AV}{off sz:Nat}{x:Operand}{r:List (Nat×Nat×Operand)}{C:List AV→Prop}:FO f cells ((off,sz,x)::r) C=CU (ev f x) (fj (fun a=>tJ (a.cells.length=sz∧off+sz≤cells.length) (jC (FF (some (putAt cells off a.cells)) (fj (fun zs=>FO f zs r C) ())) ())) ()):=rfl
theorem Z5 {C:List AV→Prop}: ∀(parts:List (Nat×Nat×Operand)) (cells:List AV),yU f cells parts C=FO f cells parts C
 | [],_=>rfl
 |(off,sz,x)::r,cells=>by
  simp only[yU,FO,CU,tJ,FF,Z5 r]
  exact propext and_assoc.symm
theorem afp {z:List AV}{parts:List (Nat×Nat×Operand)}:G P (.gf z parts) f s Kv=FO f z parts fun cs=>Kv (.agg cs) s:=Z5 parts z
def wN (a:AV):Option AV:=
 match a with
 | .sl xs _=>some (.v (.int .i64 xs.length))
 | .gK _ _ n _=>some (.v (.int .i64 n))
 | .mb _ n _ _=>some (.v (.int .i64 n))
 | _=>none
theorem a7U {l n cap k:Nat}:wN (.mb l n cap k)=some (.v (.int .i64 n)):=rfl
theorem a7V {xs:List AV}{o:Own}:wN (.sl xs o)=some (.v (.int .i64 xs.length)):=rfl
theorem a6s {l off n k:Nat}:wN (.gK l off n k)=some (.v (.int .i64 n)):=rfl
theorem afq {x:Operand}:G P (.len x) f s Kv=jk (wN (ev f x)) (fj (fun r=>Kv r s) ()):=by
 simp only[G,wN];generalize ev f x=a
 cases a<;>rfl
theorem adI {n:Nat}:G P (.KJ n) f s Kv=Kv (.v (.int .i64 n)) s:=rfl
def Ix (op:BinOp) (a b:AV):Option AV:=
 match a,b with
 | .v a,.v b=>(eL op a b).map .v
 | _,_=>none
theorem RN {op:BinOp}{a b:Value}:Ix op (.v a) (.v b)=(eL op a b).map .v:=rfl
theorem afr {op:BinOp}{x y:Operand}:G P (.bin op x y) f s Kv=jk (Ix op (ev f x) (ev f y)) (fj (fun r=>Kv r s) ()):=by
 simp only[G,Ix];generalize ev f x=a;generalize ev f y=b
 cases a<;>first
  |rfl
  |(cases b<;>first
    |rfl
    |(rename_i v w;simp only[];generalize eL op v w=c;cases c<;>rfl))
def TR (op:UnOp) (a:AV):Option AV:=
 match a with
 | .v a=>(Es op a).map .v
 | _=>none
theorem afs {op:UnOp}{a:Value}:TR op (.v a)=(Es op a).map .v:=rfl
theorem ahQ {op:UnOp}{x:Operand}:G P (.un op x) f s Kv=jk (TR op (ev f x)) (fj (fun r=>Kv r s) ()):=by
 simp only[G,TR];generalize ev f x=a
 cases a<;>first|rfl|(rename_i v;simp only[];generalize Es op v=c;cases c<;>rfl)
def SJ (k:IntKind) (a:AV):Option AV:=
 match a with
 | .v (.int _ n)=>some (.v (.int k (k.wrap n)))
 | _=>none
theorem a7W {k k':IntKind}{n:Int}:SJ k (.v (.int k' n))=some (.v (.int k (k.wrap n))):=rfl
theorem aft {k:IntKind}{x:Operand}:G P (.jF k x) f s Kv=jk (SJ k (ev f x)) (fj (fun r=>Kv r s) ()):=by
 simp only[G,SJ];generalize ev f x=a
 cases a<;>first|rfl|(rename_i v;cases v<;>rfl)
def a0A (P:Ctx) (g:FuncId) (args:List AV) (s:Hp) (C:AV→Hp→Prop):Prop:=vg P.p g args s C (up P.k)
theorem aaL {g:FuncId}{args:List Operand}:G P (.bu g args) f s Kv=a0A P g (args.map (ev f)) s (jX Kv ()):=rfl
def SK (i:Nat) (a:AV):Option AV:=
 match a with
 | .dr vs=>vs[i]?
 | _=>none
theorem a7X {i:Nat}{vs:List AV}:SK i (.dr vs)=vs[i]? :=rfl
theorem afu {x:Operand}{i:Nat}:G P (.ext x i) f s Kv=jk (SK i (ev f x)) (fj (fun r=>Kv r s) ()):=by
 simp only[G,SK];generalize ev f x=a
 cases a<;>first|rfl|(rename_i vs;cases vs[i]? <;>rfl)
def SL (neg:Bool) (a b:AV):Option AV:=
 match a,b with
 | .v (.bool a),.v (.bool b)=>some (.v (.bool (xor neg (a==b))))
 | _,_=>none
theorem adJ {neg a b:Bool}:SL neg (.v (.bool a)) (.v (.bool b))=some (.v (.bool (xor neg (a==b)))):=rfl
theorem afv {neg:Bool}{x y:Operand}:G P (.Lc neg x y) f s Kv=jk (SL neg (ev f x) (ev f y)) (fj (fun r=>Kv r s) ()):=by
 simp only[G,SL];generalize ev f x=a;generalize ev f y=b
 cases a<;>first
  |rfl
  |(rename_i v;cases v<;>first
    |rfl
    |(cases b<;>first|rfl|(rename_i w;cases w<;>first|rfl|(rename_i q;cases q<;>rfl)))
    |(rename_i q;cases q<;>first|rfl|(cases b<;>first|rfl|(rename_i w;cases w<;>first|rfl|(rename_i q;cases q<;>rfl)))))
  |(cases b<;>first|rfl|(rename_i w;cases w<;>first|rfl|(rename_i q;cases q<;>rfl)))
def KR (neg:Bool) (a b:AV):Option AV:=
 match a,b with
 | .ptr _ _,.v (.pointer none)=>some (.v (.bool neg))
 | .eJ _,.v (.pointer none)=>some (.v (.bool neg))
 | .v (.pointer none),.v (.pointer none)=>some (.v (.bool (!neg)))
 | _,_=>none
theorem a7Y {neg:Bool}{l o:Nat}:KR neg (.ptr l o) (.v (.pointer none))=some (.v (.bool neg)):=rfl
theorem a6t {neg:Bool}{cs:List AV}:KR neg (.eJ cs) (.v (.pointer none))=some (.v (.bool neg)):=rfl
theorem a7Z {neg:Bool}:KR neg (.v (.pointer none)) (.v (.pointer none))=some (.v (.bool (!neg))):=rfl
theorem afw {neg:Bool}{x y:Operand}:G P (.Ge neg x y) f s Kv=jk (KR neg (ev f x) (ev f y)) (fj (fun r=>Kv r s) ()):=by
 simp only[G,KR];generalize ev f x=a;generalize ev f y=b
 cases a<;>first
  |rfl
  |(rename_i v;cases v<;>first
    |rfl
    |(cases b<;>first|rfl|(rename_i w;cases w<;>first|rfl|(rename_i q;cases q<;>rfl)))
    |(rename_i q;cases q<;>first|rfl|(cases b<;>first|rfl|(rename_i w;cases w<;>first|rfl|(rename_i q;cases q<;>rfl)))))
  |(cases b<;>first|rfl|(rename_i w;cases w<;>first|rfl|(rename_i q;cases q<;>rfl)))
def intOf (a:AV):Option Int:=
 match a with
 | .v (.int _ n)=>some n
 | _=>none
end
def Kt (rs:List (Nat×Option (Bool×Nat))) (R:AV→Hp→Prop):Ex→Fr→Hp→Prop:=Ia ⟨0,0,.skip,rs⟩ R
theorem cR {P:Program} (hm:P.follows .mixedOrders=true) {m:Nat}{g n np:Nat}{c:uq}{rs:List (Nat×Option (Bool×Nat))} (hF:cU P m g=some ⟨n,np,c,rs⟩) {args:List AV}{R:AV→Hp→Prop} (hlen:args.length≤n)
  (h:je (Ctx.of P) c (Kt rs R) (CI args) s):AC P g args s R:=by
 refine afd hm hF hlen ?_
 have e:Ia ⟨n,np,c,rs⟩ R=Kt rs R:=by
  funext e f s;cases e<;>rfl
 rw[e];exact h
theorem a6u {args:List AV}{t:Nat}:CI args t=args.getD t (.dr []):=rfl
theorem a6v {F:cT}{R:AV→Hp→Prop}:Ia F R .ret f s=jk (wL f s F.results) fun r=> ∃s',s'.sub s∧R r s':=by
 apply propext
 simp only[Ia]
 constructor
 ·rintro ⟨r,s',h,h2,h3⟩;rw[h];exact⟨s',h2,h3⟩
 ·intro h
  cases hr:wL f s F.results with
  |none=>rw[hr]at h;exact h.elim
  |some r=>rw[hr]at h;obtain⟨s',h2,h3⟩:=h;exact⟨r,s',rfl,h2,h3⟩
theorem a6w {rs:List (Nat×Option (Bool×Nat))}{R:AV→Hp→Prop}:Kt rs R .ret f s=jk (wL f s rs) (fj (fun r=> ∃s',s'.sub s∧R r s') ()):=a6v
theorem a5h {rs:List (Nat×Option (Bool×Nat))}{R:AV→Hp→Prop}:Kt rs R .norm f s=Kt rs R .ret f s:=rfl
theorem a4I:wL f s []=some (.dr []):=rfl
theorem a5i {p:Nat×Option (Bool×Nat)}:wL f s [p]=ru f s p:=by
 simp only[wL,qt];cases ru f s p<;>rfl
theorem a80 {t:Nat}:ru f s (t,none)=some (f t):=rfl
def SM (agg:Bool) (n:Nat) (s:Hp) (a:AV):Option AV:=
 match a with
 | .ptr l off=>Dm agg n off (s.read l)
 | _=>none
theorem a81 {agg:Bool}{n l off:Nat}:SM agg n s (.ptr l off)=Dm agg n off (s.read l):=rfl
theorem a82 {t n:Nat}{agg:Bool}:ru f s (t,some (agg,n))=SM agg n s (f t):=by
 simp only[ru,SM];generalize f t=a
 cases a<;>first|rfl|(simp only[Dm])
theorem Hp.Nh {l l':Nat}{o:Ob}:(s.set l o) l'=if l'=l then some o else s l':=rfl
theorem Hp.a49 {l:Nat}{cs:List AV}:(s.set l (.cells cs)).read l=some cs:=by simp[Hp.read,Hp.set]
theorem Hp.a4J {l:Nat}{cs:List AV}:(s.set l (.ro cs)).read l=some cs:=by simp[Hp.read,Hp.set]
theorem Hp.a4K {l l':Nat}{o:Ob} (h:l'≠l):(s.set l o).read l'=s.read l':=by simp[Hp.read,Hp.set,h]
theorem Hp.a4g {l:Nat}{cs:List AV}:rI (s.set l (.cells cs)) l=some cs:=by simp[rI,Hp.set]
theorem Hp.a5j {l l':Nat}{o:Ob} (h:l'≠l):rI (s.set l o) l'=rI s l':=by simp[rI,Hp.set,h]
theorem Hp.aV {l:Nat}{cs:List AV} (h:s l=some (.cells cs)):s.read l=some cs:=by simp[Hp.read,h]
theorem Hp.dG {l:Nat}{cs:List AV} (h:s l=some (.cells cs)):rI s l=some cs:=by simp[rI,h]
theorem Hp.vD {l l':Nat}{o:Ob} (h:(s.set l o) l'=none):l'≠l∧s l'=none:=by
 simp only[Hp.set]at h;split at h<;>simp_all
theorem Hp.Ni {a b0:Nat}{oa oc o0:Ob} (h0:b0≠a):((s.set a oa).set b0 o0).set a oc=((s.set a oc).set b0 o0):=by rw[Hp.mZ _ h0,Hp.set_set]
theorem Hp.Z6 {a b0 b1:Nat}{oa oc o0 o1:Ob} (h0:b0≠a) (h1:b1≠a):(((s.set a oa).set b0 o0).set b1 o1).set a oc=(((s.set a oc).set b0 o0).set b1 o1):=by rw[Hp.mZ _ h1,Ni h0]
theorem Hp.Z7 {a b0 b1 b2:Nat}{oa oc o0 o1 o2:Ob} (h0:b0≠a) (h1:b1≠a) (h2:b2≠a):((((s.set a oa).set b0 o0).set b1 o1).set b2 o2).set a oc=((((s.set a oc).set b0 o0).set b1 o1).set b2 o2):=by rw[Hp.mZ _ h2,Z6 h0 h1]
theorem Hp.Z8 {a b0 b1 b2 b3:Nat}{oa oc o0 o1 o2 o3:Ob} (h0:b0≠a) (h1:b1≠a) (h2:b2≠a) (h3:b3≠a):(((((s.set a oa).set b0 o0).set b1 o1).set b2 o2).set b3 o3).set a oc=(((((s.set a oc).set b0 o0).set b1 o1).set b2 o2).set b3 o3):=by rw[Hp.mZ _ h3,Z7 h0 h1 h2]
theorem Hp.Z9 {a b0 b1 b2 b3 b4:Nat}{oa oc o0 o1 o2 o3 o4:Ob} (h0:b0≠a) (h1:b1≠a) (h2:b2≠a) (h3:b3≠a) (h4:b4≠a):((((((s.set a oa).set b0 o0).set b1 o1).set b2 o2).set b3 o3).set b4 o4).set a oc=((((((s.set a oc).set b0 o0).set b1 o1).set b2 o2).set b3 o3).set b4 o4):=by rw[Hp.mZ _ h4,Z8 h0 h1 h2 h3]
theorem Hp.Za {a b0 b1 b2 b3 b4 b5:Nat}{oa oc o0 o1 o2 o3 o4 o5:Ob} (h0:b0≠a) (h1:b1≠a) (h2:b2≠a) (h3:b3≠a) (h4:b4≠a) (h5:b5≠a):(((((((s.set a oa).set b0 o0).set b1 o1).set b2 o2).set b3 o3).set b4 o4).set b5 o5).set a oc=(((((((s.set a oc).set b0 o0).set b1 o1).set b2 o2).set b3 o3).set b4 o4).set b5 o5):=by rw[Hp.mZ _ h5,Z9 h0 h1 h2 h3 h4]
theorem Hp.Zb {a b0 b1 b2 b3 b4 b5 b6:Nat}{oa oc o0 o1 o2 o3 o4 o5 o6:Ob} (h0:b0≠a) (h1:b1≠a) (h2:b2≠a) (h3:b3≠a) (h4:b4≠a) (h5:b5≠a) (h6:b6≠a):((((((((s.set a oa).set b0 o0).set b1 o1).set b2 o2).set b3 o3).set b4 o4).set b5 o5).set b6 o6).set a oc=((((((((s.set a oc).set b0 o0).set b1 o1).set b2 o2).set b3 o3).set b4 o4).set b5 o5).set b6 o6):=by rw[Hp.mZ _ h6,Za h0 h1 h2 h3 h4 h5]
theorem Hp.aaM {a b0 b1 b2 b3 b4 b5 b6 b7:Nat}{oa oc o0 o1 o2 o3 o4 o5 o6 o7:Ob} (h0:b0≠a) (h1:b1≠a) (h2:b2≠a) (h3:b3≠a) (h4:b4≠a) (h5:b5≠a) (h6:b6≠a) (h7:b7≠a):(((((((((s.set a oa).set b0 o0).set b1 o1).set b2 o2).set b3 o3).set b4 o4).set b5 o5).set b6 o6).set b7 o7).set a oc=(((((((((s.set a oc).set b0 o0).set b1 o1).set b2 o2).set b3 o3).set b4 o4).set b5 o5).set b6 o6).set b7 o7):=by rw[Hp.mZ _ h7,Zb h0 h1 h2 h3 h4 h5 h6]
theorem cP {C:Nat→Prop}{d:jH C} (h: ∀l,s l=none→C l):CT s (fj C d):=h
theorem fS {P:Ctx}{K:Ex→Fr→Hp→Prop}{a:uq}{d:jH (je P (.loop a) K f s)} (I:Fr→Hp→Prop) (m:Fr→Hp→Nat) (h0:I f s) (h: ∀f s,I f s→je P a (vd (fun f' s'=>I f' s'∧m f' s'<m f s) K) f s):
  jC (je P (.loop a) K f s) d:=⟨I,m,h0,h⟩
theorem bC {P:Ctx}{g:FuncId}{args:List AV}{C R:AV→Hp→Prop}{d:jH C} (h:AC P.p g args s R) (hr: ∀r s',R r s'→C r s'):a0A P g args s (jX C d):=(h.mono hr).p
theorem Hp.aH:s.sub s:=fun _ _ h=>h
theorem Hp.bT {t:Hp}{l:Nat}{o:Ob} (h:t.sub s) (hl:t l=none):t.sub (s.set l o):=fun l' o' ho=>by
 rw[Hp.Nh];split
 ·rename_i e;subst e;rw[hl]at ho;cases ho
 ·exact h _ _ ho
theorem Hp.A3 {t:Hp}{l:Nat}{o:Ob} (h:t.sub s):(t.set l o).sub (s.set l o):=fun l' o' ho=>by
 rw[Hp.Nh]at ho⊢;split
 ·rename_i e;rw[if_pos e]at ho;exact ho
 ·rename_i e;rw[if_neg e]at ho;exact h _ _ ho
end
theorem wrap_i64 {n:Int} (h: -9223372036854775808≤n) (h2:n<9223372036854775808):IntKind.i64.wrap n=n:=by
 have e1:((2:Int)^IntKind.i64.bits)=18446744073709551616:=rfl
 have e2:((2:Int)^(IntKind.i64.bits - 1))=9223372036854775808:=rfl
 simp only[IntKind.wrap,e1,e2,IntKind.signed,Bool.true_and,decide_eq_true_eq]
 split<;>omega
theorem My {n:Int}:IntKind.u64.wrap n=n%18446744073709551616:=by
 have e1:((2:Int)^IntKind.u64.bits)=18446744073709551616:=rfl
 simp[IntKind.wrap,e1,IntKind.signed]
theorem JJ {n:Int}:IntKind.u32.wrap n=n%4294967296:=by
 have e1:((2:Int)^IntKind.u32.bits)=4294967296:=rfl
 simp[IntKind.wrap,e1,IntKind.signed]
theorem MF {n:Int}:IntKind.u8.wrap n=n%256:=by
 have e1:((2:Int)^IntKind.u8.bits)=256:=rfl
 simp[IntKind.wrap,e1,IntKind.signed]
theorem wrap_u64 {n:Int} (h:0≤n) (h2:n<18446744073709551616):IntKind.u64.wrap n=n:=by rw[My];omega
theorem wrap_u32 {n:Int} (h:0≤n) (h2:n<4294967296):IntKind.u32.wrap n=n:=by rw[JJ];omega
theorem wrap_u8 {n:Int} (h:0≤n) (h2:n<256):IntKind.u8.wrap n=n:=by rw[MF];omega
theorem a5k (b:UInt8):IntKind.u32.wrap (b.toNat:Int)=(b.toUInt32.toNat:Int):=by
 have:=b.toNat_lt
 rw[wrap_u32 (by omega) (by omega)];simp
theorem a5l (b:UInt8):IntKind.u64.wrap (b.toNat:Int)=(b.toUInt64.toNat:Int):=by
 have:=b.toNat_lt
 rw[wrap_u64 (by omega) (by omega)];simp
theorem a5m (x:UInt32):IntKind.u8.wrap (x.toNat:Int)=(x.toUInt8.toNat:Int):=by
 rw[MF];simp
theorem a5n (x:UInt64):IntKind.u8.wrap (x.toNat:Int)=(x.toUInt8.toNat:Int):=by
 rw[MF];simp
section
variable (a b:Int)
theorem aaN:eL .add (.int .i64 a) (.int .i64 b)=some (.int .i64 (IntKind.i64.wrap (a+b))):=rfl
theorem aaO:eL .sub (.int .i64 a) (.int .i64 b)=some (.int .i64 (IntKind.i64.wrap (a - b))):=rfl
theorem aaP:eL .mul (.int .i64 a) (.int .i64 b)=some (.int .i64 (IntKind.i64.wrap (a*b))):=rfl
theorem aaQ (h:b≠0):eL .quo (.int .i64 a) (.int .i64 b)=some (.int .i64 (IntKind.i64.wrap (a.tdiv b))):=by simp[eL,pX,uk,h]
theorem aaR (h:b≠0):eL .rem (.int .i64 a) (.int .i64 b)=some (.int .i64 (a.tmod b)):=by simp[eL,pX,uk,h]
variable (k:IntKind)
theorem aaS:eL .eql (.int k a) (.int k b)=some (.bool (decide (a=b))):=by simp[eL,pX,uk]
theorem aaT:eL .neq (.int k a) (.int k b)=some (.bool (decide (a≠b))):=by simp[eL,pX,uk]
theorem aaU:eL .lss (.int k a) (.int k b)=some (.bool (decide (a<b))):=by simp[eL,pX,uk]
theorem aaV:eL .leq (.int k a) (.int k b)=some (.bool (decide (a≤b))):=by simp[eL,pX,uk]
theorem aaW:eL .gtr (.int k a) (.int k b)=some (.bool (decide (b<a))):=by simp[eL,pX,uk]
theorem aaX:eL .geq (.int k a) (.int k b)=some (.bool (decide (b≤a))):=by simp[eL,pX,uk]
theorem a83 (t:Bool):Es .not (.bool t)=some (.bool !t):=rfl
end
theorem aaY (a b:Int):eL .add (.int .u64 a) (.int .u64 b)=some (.int .u64 (IntKind.u64.wrap (a+b))):=rfl
theorem aaZ (a b:Int):eL .sub (.int .u64 a) (.int .u64 b)=some (.int .u64 (IntKind.u64.wrap (a - b))):=rfl
theorem ab0 (a b:Int):eL .mul (.int .u64 a) (.int .u64 b)=some (.int .u64 (IntKind.u64.wrap (a*b))):=rfl
theorem Rr (m:Nat) (k:IntKind) (n:Int) (h:0≤n) (h2:n<64):eL .shr (.int .u64 m) (.int k n)=some (.int .u64 (m>>>n.toNat:Nat)):=by
 obtain⟨q,rfl⟩: ∃q:Nat,n=q:=⟨n.toNat,by omega⟩
 have e:min q IntKind.u64.bits=q:=by simp[IntKind.bits];omega
 have hp:(2:Int)^q=((2^q:Nat):Int):=by simp
 simp only[eL,pX,if_true,DX,if_neg (show¬(q:Int)<0 by omega),Int.toNat_natCast,e,Nat.shiftRight_eq_div_pow]
 rw[hp,Int.fdiv_eq_ediv_of_nonneg _ (Int.natCast_nonneg _),←Int.natCast_ediv]
theorem Fh (m:Nat):IntKind.u8.wrap (m:Int)=((UInt8.ofNat m).toNat:Int):=by rw[MF];simp
theorem a5o {bs:List UInt8}{o:Own}{kd:IntKind}{n:Int} (h:0≤n) (h2:n.toNat<bs.length):kQ 1 (.sl (bs.map bN) o) (.v (.int kd n))=some (.eJ [.v (.int .u8 (bs.getD n.toNat 0).toNat)]):=by
 rw[mN h,List.getElem?_map,List.getElem?_eq_getElem h2]
 have:bs.getD n.toNat 0=bs[n.toNat]:=by simp[List.getD,h2]
 rw[this];rfl
theorem afx (h:Decidable True): @decide True h=true:=by simp
theorem afy (h:Decidable False): @decide False h=false:=by simp
theorem ab1 {n:Nat}{cs:List AV}:cK true n cs= .agg (cs.take n):=rfl
theorem Yo {xs:List AV}{o:Own}:AV.cells (.sl xs o)= [.sl xs o]:=rfl
theorem Zc {x:Value}:AV.cells (.v x)= [.v x]:=rfl
theorem XC {l o:Nat}:AV.cells (.ptr l o)= [.ptr l o]:=rfl
theorem WZ {cs:List AV}:AV.cells (.eJ cs)= [.eJ cs]:=rfl
theorem Wv {t:TypeId}{x:AV}:AV.cells (.iface t x)= [.iface t x]:=rfl
theorem XD {cs:List AV}:AV.cells (.agg cs)=cs:=rfl
theorem QI {cs ys:List AV} (h:ys.length=cs.length):putAt cs 0 ys=ys:=by simp[putAt,h]
theorem ab2 {x:AV}{r:List AV}:cK false 1 (x::r)=x:=rfl
section
variable (x y:UInt32)
theorem ab3:eL .add (.int .u32 x.toNat) (.int .u32 y.toNat)=some (.int .u32 (x+y).toNat):=by
 simp[eL,pX,uk,JJ,UInt32.toNat_add]
theorem ab4:eL .sub (.int .u32 x.toNat) (.int .u32 y.toNat)=some (.int .u32 (x - y).toNat):=by
 have:=x.toNat_lt;have:=y.toNat_lt
 simp only[eL,pX,uk,JJ,UInt32.toNat_sub]
 simp;omega
theorem ab5:eL .mul (.int .u32 x.toNat) (.int .u32 y.toNat)=some (.int .u32 (x*y).toNat):=by
 simp[eL,pX,uk,JJ,UInt32.toNat_mul]
theorem Mz (n:Nat) (h:n<4294967296):IntKind.u32.wrap (n:Int)=n:=wrap_u32 (by omega) (by omega)
theorem ofInt_u32:BitVec.ofInt 32 (x.toNat:Int)=x.toBitVec:=by
 rw[BitVec.ofInt_natCast];exact BitVec.eq_of_toNat_eq (by simp)
theorem ab6:eL .and (.int .u32 x.toNat) (.int .u32 y.toNat)=some (.int .u32 (x&&&y).toNat):=by
 have h:eL .and (.int .u32 x.toNat) (.int .u32 y.toNat)=some (.int .u32 (IntKind.u32.wrap (BitVec.ofInt 32 (x.toNat:Int)&&&BitVec.ofInt 32 (y.toNat:Int)).toNat)):=rfl
 rw[h,ofInt_u32,ofInt_u32,Mz _ (BitVec.isLt _)];rfl
theorem adK:eL .or (.int .u32 x.toNat) (.int .u32 y.toNat)=some (.int .u32 (x|||y).toNat):=by
 have h:eL .or (.int .u32 x.toNat) (.int .u32 y.toNat)=some (.int .u32 (IntKind.u32.wrap (BitVec.ofInt 32 (x.toNat:Int)|||BitVec.ofInt 32 (y.toNat:Int)).toNat)):=rfl
 rw[h,ofInt_u32,ofInt_u32,Mz _ (BitVec.isLt _)];rfl
theorem ab7:eL .xor (.int .u32 x.toNat) (.int .u32 y.toNat)=some (.int .u32 (x^^^y).toNat):=by
 have h:eL .xor (.int .u32 x.toNat) (.int .u32 y.toNat)=some (.int .u32 (IntKind.u32.wrap (BitVec.ofInt 32 (x.toNat:Int)^^^BitVec.ofInt 32 (y.toNat:Int)).toNat)):=rfl
 rw[h,ofInt_u32,ofInt_u32,Mz _ (BitVec.isLt _)];rfl
theorem ab8:Es .xor (.int .u32 x.toNat)=some (.int .u32 (~~~x).toNat):=by
 have h:Es .xor (.int .u32 x.toNat)=some (.int .u32 (IntKind.u32.wrap (BitVec.ofInt 32 4294967295^^^BitVec.ofInt 32 (x.toNat:Int)).toNat)):=rfl
 rw[h,ofInt_u32,Mz _ (BitVec.isLt _)]
 have:(BitVec.ofInt 32 4294967295^^^x.toBitVec)= ~~~x.toBitVec:=by rw[BitVec.not_def];rfl
 rw[this];rfl
theorem ab9 (k:IntKind) (n:Int) (h:0≤n) (h2:n<32):eL .shl (.int .u32 x.toNat) (.int k n)=some (.int .u32 (x<<<UInt32.ofNat n.toNat).toNat):=by
 obtain⟨m,rfl⟩: ∃m:Nat,n=m:=⟨n.toNat,by omega⟩
 have hm:m<32:=by omega
 have e:min m IntKind.u32.bits=m:=by simp[IntKind.bits];omega
 simp only[eL,pX,if_true,DX,if_neg (show¬(m:Int)<0 by omega),Int.toNat_natCast,e,JJ,UInt32.toNat_shiftLeft,UInt32.toNat_ofNat',Nat.shiftLeft_eq]
 have e2:m%2^32%32=m:=by omega
 rw[e2];simp
theorem aba (k:IntKind) (n:Int) (h:0≤n) (h2:n<32):eL .shr (.int .u32 x.toNat) (.int k n)=some (.int .u32 (x>>>UInt32.ofNat n.toNat).toNat):=by
 obtain⟨m,rfl⟩: ∃m:Nat,n=m:=⟨n.toNat,by omega⟩
 have hm:m<32:=by omega
 have e:min m IntKind.u32.bits=m:=by simp[IntKind.bits];omega
 simp only[eL,pX,if_true,DX,if_neg (show¬(m:Int)<0 by omega),Int.toNat_natCast,e,UInt32.toNat_shiftRight,UInt32.toNat_ofNat',Nat.shiftRight_eq_div_pow]
 have e2:m%2^32%32=m:=by omega
 have hp:(2:Int)^m=((2^m:Nat):Int):=by simp
 rw[e2,hp,Int.fdiv_eq_ediv_of_nonneg _ (Int.natCast_nonneg _),←Int.natCast_ediv]
end
def dS (k:Nat) (xs:List AV):Prop:= ∀e∈xs,e.cells.length=k
theorem a5p {k:Nat}:dS k []=True:=by simp[dS]
theorem Ww {k:Nat}{a:AV}{r:List AV}:dS k (a::r)=(a.cells.length=k∧dS k r):=by simp[dS]
theorem a4a {k:Nat}{a r:List AV}:dS k (a++r)=(dS k a∧dS k r):=by
 apply propext;simp only[dS,List.mem_append];constructor
 ·exact fun h=>⟨fun e he=>h e (.inl he),fun e he=>h e (.inr he)⟩
 ·rintro ⟨h1,h2⟩ e (he|he);exact h1 e he;exact h2 e he
theorem JK {bs:List UInt8}:dS 1 (bs.map bN)=True:=by
 simp[dS,bN,AV.cells]
def dx (s0 s:Hp) (k:Nat) (xs:List AV) (o:Own):Prop:=
 s0.sub s∧match o with
  | .buf g c=>s0 g=none∧s g=some (.buf k xs.length c)
  | .any=>False
  | _=>xs= []
variable {P:Ctx}{f:Fr}{s s0:Hp}{Kv:AV→Hp→Prop}
theorem Hp.cy {a b c:Hp} (h:a.sub b) (h2:b.sub c):a.sub c:=fun l o hl=>h2 l o (h l o hl)
theorem Hp.iJ {a b:Hp} (h:a.sub b) {l:Nat} (hl:b l=none):a l=none:=by
 cases ha:a l with
 |none=>rfl
 |some o=>rw[h l o ha]at hl;cases hl
theorem dx.nil (h:s0.sub s) {k:Nat}:dx s0 s k [] .nil:=⟨h,rfl⟩
theorem dx.sub {k:Nat}{xs:List AV}{o:Own} (h:dx s0 s k xs o):s0.sub s:=h.1
theorem dx.base {s1:Hp}{k:Nat}{xs:List AV}{o:Own} (h:dx s0 s k xs o) (hs:s1.sub s0):dx s1 s k xs o:=by
 refine⟨Hp.cy hs h.1,?_⟩
 have h2:=h.2
 cases o with
 |buf g c=>exact⟨Hp.iJ hs h2.1,h2.2⟩
 | _=>exact h2
theorem dx.mono {s':Hp}{k:Nat}{xs:List AV}{o:Own} (h:dx s0 s k xs o) (hs:s.sub s'):dx s0 s' k xs o:=by
 refine⟨Hp.cy h.1 hs,?_⟩
 have h2:=h.2
 cases o with
 |buf g c=>exact⟨h2.1,hs _ _ h2.2⟩
 | _=>exact h2
theorem dx.set {k l:Nat}{xs:List AV}{o:Own}{ob TS:Ob} (h:dx s0 s k xs o) (hl:s0 l=some TS):dx (s0.set l ob) (s.set l ob) k xs o:=by
 refine⟨Hp.A3 h.1,?_⟩
 have h2:=h.2
 cases o with
 |buf g c=>
  have bI:g≠l:=by rintro rfl;rw[h2.1]at hl;cases hl
  exact⟨by rw[Hp.aX _ _ bI];exact h2.1,by rw[Hp.aX _ _ bI];exact h2.2⟩
 | _=>exact h2
theorem dx.new {k l:Nat}{xs:List AV}{o:Own}{ob:Ob} (h:dx s0 s k xs o) (hl:s l=none):dx (s0.set l ob) (s.set l ob) k xs o:=by
 refine⟨Hp.A3 h.1,?_⟩
 have h2:=h.2
 cases o with
 |buf g c=>
  have bI:g≠l:=by rintro rfl;rw[h2.2]at hl;cases hl
  exact⟨by rw[Hp.aX _ _ bI];exact h2.1,by rw[Hp.aX _ _ bI];exact h2.2⟩
 | _=>exact h2
def KS (k bytes:Nat) (s:Hp) (x y:AV) (C:AV→Hp→Prop):Prop:=
 match x,y with
 | .sl xs o,.sl ys _=>(∀e∈xs,e.cells.length=k)∧(∀e∈ys,e.cells.length=k)∧(xs.length+ys.length)*bytes≤140737488355328∧xs.length+ys.length≤9223372036854775807∧
   match o with
   | .buf g c=>s g=some (.buf k xs.length c)∧ ∀g' c',(g'=g∨s g'=none)→C (.sl (xs++ys) (.buf g' c')) ((s.del g).set g' (.buf k (xs.length+ys.length) c'))
   | .any=>False
   | _=>xs= []∧(if ys= []then C (.sl [] o) s else∀g' c',s g'=none→C (.sl ys (.buf g' c')) (s.set g' (.buf k ys.length c')))
 | _,_=>False
theorem afz {k bytes:Nat}{x y:Operand}:G P (.app k bytes x y) f s Kv=KS k bytes s (ev f x) (ev f y) (jX Kv ()):=rfl
theorem mc {k bytes:Nat}{xs ys:List AV}{o o2:Own}{C:AV→Hp→Prop}{d:jH C} (h:dx s0 s k xs o) (h1:dS k xs) (h2:dS k ys) (h3:(xs.length+ys.length)*bytes≤140737488355328) (h4:xs.length+ys.length≤9223372036854775807)
  (hk: ∀o' s',dx s0 s' k (xs++ys) o'→C (.sl (xs++ys) o') s'):KS k bytes s (.sl xs o) (.sl ys o2) (jX C d):=by
 have ho:=h.2
 refine⟨h1,h2,h3,h4,?_⟩
 cases o with
 |any=>exact ho.elim
 |nil=>
  obtain rfl:xs= []:=ho
  refine⟨rfl,?_⟩
  split
  ·rename_i hy;subst hy;exact hk _ _ ⟨h.1,rfl⟩
  ·intro g' c' zz
   refine hk _ _ ⟨Hp.bT h.1 (Hp.iJ h.1 zz),Hp.iJ h.1 zz,?_⟩
   rw[Hp.bt];simp
 |zero=>
  obtain rfl:xs= []:=ho
  refine⟨rfl,?_⟩
  split
  ·rename_i hy;subst hy;exact hk _ _ ⟨h.1,rfl⟩
  ·intro g' c' zz
   refine hk _ _ ⟨Hp.bT h.1 (Hp.iJ h.1 zz),Hp.iJ h.1 zz,?_⟩
   rw[Hp.bt];simp
 |buf g c=>
  refine⟨ho.2,fun g' c' zz=>hk _ _ ?_⟩
  have hb:s0 g'=none:=by rcases zz with rfl|zz;exact ho.1;exact Hp.iJ h.1 zz
  refine⟨Hp.bT (fun l ob hl=> ?_) hb,hb,?_⟩
  ·have bI:l≠g:=by rintro rfl;rw[ho.1]at hl;cases hl
   rw[Hp.pY _ bI];exact h.1 l ob hl
  ·rw[Hp.bt,List.length_append]
def O6 (k:Nat) (s:Hp) (vs0:List AV) (C:AV→Hp→Prop):Prop:=
 (∀e∈vs0,e.cells.length=k)∧(if vs0.length=0 then C (.sl [] .zero) s else∀g,s g=none→C (.sl vs0 (.buf g vs0.length)) (s.set g (.buf k vs0.length vs0.length)))
theorem afA {k:Nat}{xs:List Operand}:G P (.gL k xs) f s Kv=O6 k s (xs.map (ev f)) (jX Kv ()):=by
 simp only[G,O6,jX,List.length_map]
theorem ik {k:Nat}{vs0:List AV}{C:AV→Hp→Prop}{d:jH C} (h:s0.sub s) (h1:dS k vs0) (hk: ∀o' s',dx s0 s' k vs0 o'→C (.sl vs0 o') s'):O6 k s vs0 (jX C d):=by
 refine⟨h1,?_⟩
 split
 ·rename_i h0
  obtain rfl:=List.eq_nil_of_length_eq_zero h0
  exact hk _ _ ⟨h,rfl⟩
 ·intro g hg
  exact hk _ _ ⟨Hp.bT h (Hp.iJ h hg),Hp.iJ h hg,by rw[Hp.bt]⟩
def bO (x:Option AV) (d:Nat):Option Int:=
 match x with
 |none=>some d
 |some a=>intOf a
def kp (o:Own) (lo hi:Option AV):Own:=
 match lo,hi with
 |none,none=>o
 | _,_=> .any
def ng (k:Nat) (a:AV) (lo hi:Option AV):Option AV:=
 match a with
 | .sl xs o=>match bO lo 0,bO hi xs.length with
  |some a,some b=>if 0≤a∧a≤b∧b≤xs.length∧xs.all (fun e=>decide (e.cells.length=k))then some (.sl ((xs.take b.toNat).drop a.toNat) (kp o lo hi))else none
  | _,_=>none
 | .gK l off len k'=>match bO lo 0,bO hi len with
  |some a,some b=>if k'=k∧0≤a∧a≤b∧b≤len∧a<len then some (.gK l (off+a.toNat*k) (b.toNat - a.toNat) k)else none
  | _,_=>none
 | .mb l len cap k'=>match bO lo 0,bO hi len with
  |some a,some b=>if k'=k∧0≤a∧a≤b∧b≤len∧(lo.isSome=true→a<len)then some (Kp lo.isSome l a.toNat b.toNat cap k)else none
  | _,_=>none
 | _=>none
theorem Nw (x:Option Operand) (d:Nat):mf f x d=bO (x.map (ev f)) d:=by
 cases x with
 |none=>rfl
 |some x=>simp only[mf,bO,Option.map_some,intOf];split<;>simp_all
theorem adL {o:Own} (lo hi:Option Operand):RI o lo hi=kp o (lo.map (ev f)) (hi.map (ev f)):=by cases lo<;>cases hi<;>rfl
theorem adM {k:Nat}{x:Operand}{lo hi:Option Operand}:G P (.pI k x lo hi) f s Kv=jk (ng k (ev f x) (lo.map (ev f)) (hi.map (ev f))) (fj (fun r=>Kv r s) ()):=by
 have e:lo.isSome=(lo.map (ev f)).isSome:=by cases lo<;>rfl
 simp only[G,ng,Nw,adL (f:=f) lo hi,e]
 generalize ev f x=a;generalize lo.map (ev f)=p;generalize hi.map (ev f)=q
 cases a<;>try rfl
 ·rename_i xs o
  simp only[]
  generalize bO p 0=u;generalize bO q xs.length=w
  cases u<;>cases w<;>try rfl
  simp only[uW,ui,List.all_eq_true,decide_eq_true_eq]
  apply propext;constructor
  ·rintro ⟨h1,h2,h3,h4,h5⟩;exact⟨⟨h1,h2,h3,h4⟩,h5⟩
  ·rintro ⟨⟨h1,h2,h3,h4⟩,h5⟩;exact⟨h1,h2,h3,h4,h5⟩
 ·rename_i l off len k'
  simp only[]
  generalize bO p 0=u;generalize bO q len=w
  cases u<;>cases w<;>try rfl
  simp only[uW,ui]
  apply propext;constructor
  ·rintro ⟨h0,h1,h2,h3,h4,h5⟩;exact⟨⟨h0,h1,h2,h3,h4⟩,h5⟩
  ·rintro ⟨⟨h0,h1,h2,h3,h4⟩,h5⟩;exact⟨h0,h1,h2,h3,h4,h5⟩
 ·rename_i l len cap k'
  simp only[]
  generalize bO p 0=u;generalize bO q len=w
  cases u<;>cases w<;>try rfl
  simp only[uW,ui]
  apply propext;constructor
  ·rintro ⟨h0,h1,h2,h3,h4,h5⟩;exact⟨⟨h0,h1,h2,h3,h4⟩,h5⟩
  ·rintro ⟨⟨h0,h1,h2,h3,h4⟩,h5⟩;exact⟨h0,h1,h2,h3,h4,h5⟩
theorem a84 {k l len cap:Nat}{kd:IntKind}{b:Int} (h:0≤b) (h2:b≤len):ng k (.mb l len cap k) none (some (.v (.int kd b)))=some (.mb l b.toNat cap k):=by
 simp[ng,bO,intOf,h,h2,Kp]
theorem a6x {k:Nat}{xs:List AV}{o:Own} (h:dS k xs):ng k (.sl xs o) none none=some (.sl xs o):=by
 have:(xs.all fun e=>decide (e.cells.length=k))=true:=by simpa[dS] using h
 simp[ng,bO,kp,this]
theorem zW {k:Nat}{xs:List AV}{o:Own}{kd:IntKind}{a:Int} (h:0≤a) (h2:a≤xs.length) (h3:dS k xs):ng k (.sl xs o) (some (.v (.int kd a))) none=some (.sl (xs.drop a.toNat) .any):=by
 have:(xs.all fun e=>decide (e.cells.length=k))=true:=by simpa[dS] using h3
 simp[ng,bO,kp,intOf,this,h,h2]
theorem HQ {k:Nat}{xs:List AV}{o:Own}{kd:IntKind}{b:Int} (h:0≤b) (h2:b≤xs.length) (h3:dS k xs):ng k (.sl xs o) none (some (.v (.int kd b)))=some (.sl (xs.take b.toNat) .any):=by
 have:(xs.all fun e=>decide (e.cells.length=k))=true:=by simpa[dS] using h3
 simp[ng,bO,kp,intOf,this,h,h2]
theorem Qq {k:Nat}{xs:List AV}{o:Own}{kd kd':IntKind}{a b:Int} (h:0≤a) (h1:a≤b) (h2:b≤xs.length) (h3:dS k xs):ng k (.sl xs o) (some (.v (.int kd a))) (some (.v (.int kd' b)))=some (.sl ((xs.take b.toNat).drop a.toNat) .any):=by
 have:(xs.all fun e=>decide (e.cells.length=k))=true:=by simpa[dS] using h3
 simp[ng,bO,kp,intOf,this,h,h1,h2]
def SN (neg:Bool) (ks:List (Nat×CK)) (a b:AV) (C:AV→Prop):Prop:=
 match a,b with
 | .agg cs,.agg ds=>gZ ks cs∧gZ ks ds∧C (.v (.bool (xor neg (AA (.agg cs) (.agg ds)))))
 | _,_=>False
theorem adN {neg:Bool}{ks:List (Nat×CK)}{x y:Operand}:G P (.eqv neg ks x y) f s Kv=SN neg ks (ev f x) (ev f y) (fj (fun r=>Kv r s) ()):=rfl
theorem a85 {neg:Bool}{ks:List (Nat×CK)}{cs ds:List AV}{C:AV→Prop}:SN neg ks (.agg cs) (.agg ds) C=tJ (gZ ks cs∧gZ ks ds) (jC (C (.v (.bool (xor neg (AA (.agg cs) (.agg ds)))))) ()):=by
 simp only[SN,tJ,jC];exact propext and_assoc.symm
theorem a6y {bs:List UInt8}{n:Nat}:(bs.map bN).drop n=(bs.drop n).map bN:=by rw[List.map_drop]
theorem a6z {bs:List UInt8}{n:Nat}:(bs.map bN).take n=(bs.take n).map bN:=by rw[List.map_take]
theorem a86 {bs cs:List UInt8}:bs.map bN++cs.map bN=(bs++cs).map bN:=by rw[List.map_append]
theorem dx.ahR (h:s0.sub s):dx s0 s 1 (([]:List UInt8).map bN) .nil:=⟨h,rfl⟩
theorem Cy {xs ys:List UInt8}{o o2:Own}{C:AV→Hp→Prop}{d:jH C} (h:dx s0 s 1 (xs.map bN) o) (h3:xs.length+ys.length≤140737488355328)
  (hk: ∀o' s',dx s0 s' 1 ((xs++ys).map bN) o'→C (.sl ((xs++ys).map bN) o') s'):KS 1 1 s (.sl (xs.map bN) o) (.sl (ys.map bN) o2) (jX C d):=by
 refine mc h (by rw[JK];trivial) (by rw[JK];trivial) (by simp;omega) (by simp;omega) ?_
 rw[a86];exact hk
theorem QJ {xs:List UInt8}{b:UInt8}{o o2:Own}{C:AV→Hp→Prop}{d:jH C} (h:dx s0 s 1 (xs.map bN) o) (h3:xs.length+1≤140737488355328)
  (hk: ∀o' s',dx s0 s' 1 ((xs++ [b]).map bN) o'→C (.sl ((xs++ [b]).map bN) o') s'):KS 1 1 s (.sl (xs.map bN) o) (.sl [bN b] o2) (jX C d):=
 Cy (ys:= [b]) h h3 hk
theorem K4 {b:UInt8}{C:AV→Hp→Prop}{d:jH C} (h:s0.sub s) (hk: ∀o' s',dx s0 s' 1 [bN b] o'→C (.sl [bN b] o') s'):O6 1 s [.v (.int .u8 b.toNat)] (jX C d):=
 ik (vs0:= [b].map bN) h (by rw[JK];trivial) hk
theorem SO {bs:List UInt8}{i:Nat} (h:i<bs.length):(bs.map bN)[i]? =some (.v (.int .u8 (bs.getD i 0).toNat)):=by
 rw[List.getElem?_map,List.getElem?_eq_getElem h]
 have:bs.getD i 0=bs[i]:=by simp[List.getD,h]
 rw[this];rfl
theorem XE {Kf Lv:Fr→Hp→Prop} (h: ∀f s,Kf f s→Lv f s): ∀(ops:List gi) (f:Fr) (s:Hp),z7 P ops Kf f s→z7 P ops Lv f s
 | [],f,s,hh=>h f s hh
 | _::r,f,s,hh=>Kl (fun f s hh=>XE h r f s hh) hh
theorem Yp {xs:Nat→gi}{Kf Lv:Fr→Hp→Prop} (h: ∀f s,Kf f s→Lv f s): ∀(l:List CO) (f:Fr) (s:Hp),can P xs Kf l f s→can P xs Lv l f s
 | [],f,s,hh=>h f s hh
 | _::r,f,s,hh=>⟨hh.1,Kl (fun f s hh=>⟨hh.1,Yp h r f s hh.2⟩) hh.2⟩
theorem Cz: ∀(c:uq) {K K':Ex→Fr→Hp→Prop} (_: ∀e f s,K e f s→K' e f s) (f:Fr) (s:Hp),je P c K f s→je P c K' f s
 | .skip,_,_,h,f,s,hh=>h _ f s hh
 | .ret,_,_,h,f,s,hh=>h _ f s hh
 | .exit _,_,_,h,f,s,hh=>h _ f s hh
 | .plain ops,_,_,h,f,s,hh=>XE (h _) ops f s hh
 | .draw _ l,_,_,h,f,s,hh=>Yp (h _) l f s hh
 | .seq a b,K,K',h,f,s,hh=>Cz a (fun e f s hh=>by
   cases e with
   |norm=>exact Cz b h f s hh
   |exit i=>exact h _ f s hh
   |ret=>exact h _ f s hh) f s hh
 | .block i a,K,K',h,f,s,hh=>Cz a (fun e f s hh=>by
   cases e with
   |norm=>exact h _ f s hh
   |exit j=>simp only[BB]at hh⊢;split<;>(rename_i hj;simp only[hj,if_true,if_false]at hh;exact h _ f s hh)
   |ret=>exact h _ f s hh) f s hh
 | .cond c a b,K,K',h,f,s,hh=>by
   simp only[Yn,aaz,FE]at hh⊢
   split at hh
   ·exact⟨fun ht=>Cz a h f s (hh.1 ht),fun ht=>Cz b h f s (hh.2 ht)⟩
   ·exact hh.elim
 | .loop a,K,K',h,f,s,hh=>by
   obtain⟨I,m,h0,hr⟩:=hh
   exact⟨I,m,h0,fun f s hI=>Cz a (fun e f s hh=>by
    cases e with
    |norm=>exact hh
    |exit i=>exact h _ f s hh
    |ret=>exact h _ f s hh) f s (hr f s hI)⟩
theorem HF {K:Ex→Fr→Hp→Prop}{a b c:uq}{t:Bool}{d:jH (je P a (vd (je P c K) K) f s)}{d':jH (je P b (vd (je P c K) K) f s)} (Q:Fr→Hp→Prop)
  (ht:t=true→je P a (vd Q K) f s) (hf:t=false→je P b (vd Q K) f s) (hQ: ∀f s,Q f s→je P c K f s):
  FE (.v (.bool t)) (jC (je P a (vd (je P c K) K) f s) d) (jC (je P b (vd (je P c K) K) f s) d'):=by
 have hm: ∀e f s,vd Q K e f s→vd (je P c K) K e f s:=fun e f s h=>by
  cases e with
  |norm=>exact hQ f s h
  |exit i=>exact h
  |ret=>exact h
 exact⟨fun h=>Cz a hm f s (ht h),fun h=>Cz b hm f s (hf h)⟩
def Ib (a i:AV):Option AV:=
 match a,i with
 | .v (.string t),.v (.int _ n)=>if 0≤n then(match t.data[n.toNat]? with|some b=>some (.v (.int .u8 b.toNat))|none=>none)else none
 | _,_=>none
theorem adO {x i:Operand}:G P (.CM x i) f s Kv=jk (Ib (ev f x) (ev f i)) (fj (fun r=>Kv r s) ()):=by
 simp only[G,Ib];generalize ev f x=a;generalize ev f i=b
 cases a<;>first
  |rfl
  |(rename_i v;cases v<;>first
    |rfl
    |(cases b<;>first
      |rfl
      |(rename_i t w;cases w<;>first
        |rfl
        |(
          rename_i kd n;simp only[];by_cases h:0≤n
          ·simp only[h,true_and,if_true];generalize t.data[n.toNat]? =c;cases c<;>rfl
          ·simp[h,jk]))))
def Ku (k n:Nat) (s:Hp) (a:AV):Option AV:=
 match a with
 | .ptr l off=>match s l with
  |some (.ro cs)=>if off+n*k≤cs.length then some (.sl (nN k n (cs.drop off)) .any)else none
  | _=>none
 | _=>none
theorem adP {k n:Nat}{x:Operand}:G P (.yY k n x none none) f s Kv=jk (Ku k n s (ev f x)) (fj (fun r=>Kv r s) ()):=by
 simp only[G,Ku,mf];generalize ev f x=a
 cases a<;>first
  |rfl
  |(
    rename_i l off;simp only[]
    generalize s l=c
    cases c with
    |none=>simp[jk]
    |some o=>cases o with
     |ro cs=>simp only[uW,ui];simp
     | _=>simp[jk])
theorem a6A {n l:Nat}{cs:List AV} (h:s l=some (.ro cs)) (h2:cs.length=n):Ku 1 n s (.ptr l 0)=some (.sl cs .any):=by
 simp[Ku,h,h2,nN,List.take_of_length_le]
theorem Rs {a:Int}{k:IntKind}{n:Nat} (h:n<64):eL .shl (.int .i64 a) (.int k (n:Int))=some (.int .i64 (IntKind.i64.wrap (a*2^n))):=by
 have e:min n IntKind.i64.bits=n:=by simp[IntKind.bits];omega
 simp only[eL,pX,if_true,DX,if_neg (show¬(n:Int)<0 by omega),Int.toNat_natCast,e]
def Is (a b:Option AV):Option AV:=
 match a,b with
 |some a,some b=>some (.dr [a,b])
 | _,_=>none
theorem a6B {a b:AV}:Is (some a) (some b)=some (.dr [a,b]):=rfl
theorem abb {p q:Nat×Option (Bool×Nat)}:wL f s [p,q]=Is (ru f s p) (ru f s q):=by
 simp only[wL,qt];cases ru f s p<;>cases ru f s q<;>rfl
def a0X (a b c:Option AV):Option AV:=
 match a,b,c with
 |some a,some b,some c=>some (.dr [a,b,c])
 | _,_,_=>none
theorem a6C {a b c:AV}:a0X (some a) (some b) (some c)=some (.dr [a,b,c]):=rfl
theorem abc {p q r:Nat×Option (Bool×Nat)}:wL f s [p,q,r]=a0X (ru f s p) (ru f s q) (ru f s r):=by
 simp only[wL,qt];cases ru f s p<;>cases ru f s q<;>cases ru f s r<;>rfl
theorem afB:((0:Nat):Int)=0:=rfl
theorem afC:((1:Nat):Int)=1:=rfl
theorem a87 {m k:Nat}:((m:Int).tmod (k:Int))=((m%k:Nat):Int):=rfl
theorem a06 {m:Nat}:((m:Int).tmod 64)=((m%64:Nat):Int):=a87 (k:=64)
def rD:=
 And.intro @a7E<|
 And.intro @aaB<|
 And.intro @a7F<|
 And.intro @aaC<|
 And.intro @a68<|
 And.intro @a69<|
 And.intro @a7G<|
 And.intro @Yn<|
 And.intro @a6a<|
 And.intro @ui<|
 And.intro @aay<|
 And.intro @a6b<|
 And.intro @a7H<|
 And.intro @a6c<|
 And.intro @a4E<|
 And.intro @a5a<|
 And.intro @a4G<|
 And.intro @a4F<|
 And.intro @a7I<|
 And.intro @a6d<|
 And.intro @a5b<|
 And.intro @aaD<|
 And.intro @a7J<|
 And.intro @aaE<|
 And.intro @aaF<|
 And.intro @a7K<|
 And.intro @a6j<|
 And.intro @a7L<|
 And.intro @a6k<|
 And.intro @adC<|
 And.intro @aaG<|
 And.intro @a7M<|
 And.intro @a7N<|
 And.intro @ahO<|
 And.intro @adD<|
 And.intro @aaI<|
 And.intro @afl<|
 And.intro @adE<|
 And.intro @adF<|
 And.intro @aaJ<|
 And.intro @adG<|
 And.intro @ahP<|
 And.intro @afm<|
 And.intro @afn<|
 And.intro @afo<|
 And.intro @adH<|
 And.intro @afp<|
 And.intro @afq<|
 And.intro @adI<|
 And.intro @afr<|
 And.intro @ahQ<|
 And.intro @aft<|
 And.intro @aaL<|
 And.intro @afu<|
 And.intro @afz<|
 And.intro @afA<|
 And.intro @adM<|
 And.intro @adO<|
 And.intro @adP<|
 And.intro @adN<|
 And.intro @afv<|
 And.intro @afw<|
 And.intro @a7O<|
 And.intro @a6m<|
 And.intro @a6u<|
 And.intro @a7T<|
 And.intro @a6r<|
 And.intro @a6w<|
 @a5h
def rU:=
 And.intro @a59<|
 And.intro @a4D<|
 And.intro @a6e<|
 And.intro @a6f<|
 And.intro @a6g<|
 And.intro @a6h<|
 And.intro @a6i<|
 And.intro @a6l<|
 And.intro @eq_self.{1}<|
 And.intro @afk<|
 And.intro @List.getD_cons_zero.{0}<|
 And.intro @List.getD_cons_succ.{0}<|
 And.intro @a85<|
 And.intro @Option.map_none.{0,0}<|
 And.intro @a6x<|
 And.intro @zW<|
 And.intro @HQ<|
 And.intro @Qq<|
 And.intro @a6y<|
 And.intro @a6z<|
 And.intro @a6n<|
 And.intro @aaH<|
 And.intro @a5c<|
 And.intro @HE<|
 And.intro @aaA<|
 And.intro @a5d<|
 And.intro @a4H<|
 And.intro @QH<|
 And.intro @a5e<|
 And.intro @N9<|
 And.intro @a5f<|
 And.intro @a6o<|
 And.intro @a5g<|
 And.intro @aaK<|
 And.intro @a7P<|
 And.intro @a7Q<|
 And.intro @a6p<|
 And.intro @a5o<|
 And.intro @a7R<|
 And.intro @qR<|
 And.intro @a7S<|
 And.intro @a6q<|
 And.intro @a7V<|
 And.intro @a6s<|
 And.intro @RN<|
 And.intro @afs<|
 And.intro @a7W<|
 And.intro @a7X<|
 And.intro @adJ<|
 And.intro @a7Y<|
 And.intro @a6t<|
 And.intro @a7Z<|
 And.intro @Option.map_some.{0,0}<|
 And.intro @a5i<|
 And.intro @a80<|
 And.intro @a4I<|
 And.intro @a82<|
 And.intro @a81<|
 And.intro @QI<|
 And.intro @List.map_cons.{0,0}<|
 And.intro @List.map_nil.{0,0}<|
 And.intro @aaN<|
 And.intro @aaO<|
 And.intro @aaP<|
 And.intro @aaQ<|
 And.intro @aaR<|
 And.intro @aaS<|
 And.intro @aaT<|
 And.intro @aaU<|
 And.intro @aaV<|
 And.intro @aaW<|
 And.intro @aaX<|
 And.intro @a83<|
 And.intro @ab3<|
 And.intro @ab4<|
 And.intro @ab5<|
 And.intro @ab6<|
 And.intro @adK<|
 And.intro @ab7<|
 And.intro @ab8<|
 And.intro @ab9<|
 And.intro @aba<|
 And.intro @wrap_i64<|
 And.intro @a5k<|
 And.intro @a5l<|
 And.intro @a5m<|
 And.intro @a5n<|
 And.intro @aaY<|
 And.intro @aaZ<|
 And.intro @ab0<|
 And.intro @Rr<|
 And.intro @wrap_u64<|
 And.intro @ab2<|
 And.intro @ab1<|
 And.intro @List.length_map.{0,0}<|
 And.intro @List.length_cons.{0}<|
 And.intro @List.length_nil.{0}<|
 And.intro @Hp.a49<|
 And.intro @Hp.a4J<|
 And.intro @Hp.a4K<|
 And.intro @Hp.a4g<|
 And.intro @Hp.a5j<|
 And.intro @Hp.set_set<|
 And.intro @Hp.Ni<|
 And.intro @Hp.Z6<|
 And.intro @Hp.Z7<|
 And.intro @Hp.Z8<|
 And.intro @Hp.Z9<|
 And.intro @Hp.Za<|
 And.intro @Hp.Zb<|
 And.intro @Hp.aaM<|
 And.intro @Yo<|
 And.intro @Zc<|
 And.intro @XC<|
 And.intro @WZ<|
 And.intro @Wv<|
 And.intro @XD<|
 And.intro @List.drop_zero.{0}<|
 And.intro @and_self<|
 And.intro @Nat.zero_add<|
 And.intro @Nat.mul_one<|
 And.intro @Nat.one_mul<|
 And.intro @Int.toNat_natCast<|
 And.intro @true_and<|
 And.intro @and_true<|
 And.intro @Nat.add_zero<|
 And.intro @Nat.le_refl<|
 And.intro @afx<|
 @afy
def rX:=
 And.intro @afB<|
 And.intro @afC<|
 And.intro @abb<|
 And.intro @a6B<|
 And.intro @abc<|
 @a6C
def rL:=
 And.intro @List.length_cons.{0}<|
 And.intro @List.length_nil.{0}<|
 And.intro @List.length_map.{0,0}<|
 And.intro @List.length_append.{0}<|
 And.intro @List.length_replicate.{0}<|
 And.intro @List.length_range<|
 And.intro @List.length_take.{0}<|
 And.intro @List.length_drop.{0}<|
 And.intro @Yo<|
 And.intro @Zc<|
 And.intro @XC<|
 And.intro @WZ<|
 And.intro @Wv<|
 And.intro @XD<|
 And.intro @JK<|
 And.intro @a5p<|
 And.intro @Ww<|
 And.intro @a4a<|
 And.intro @and_true<|
 And.intro @true_and<|
 And.intro @Nat.zero_add<|
 And.intro @eq_self.{1}<|
 @and_self
def vL (bs:List UInt8):AV:= .v (.string ⟨bs.toArray⟩)
theorem Wx (b:ByteArray): ∀(n i:Nat) (r:List UInt8),b.size - i=n→ByteArray.toList.loop b i r=r.reverse++b.data.toList.drop i
 |0,i,r,h=>by
  rw[ByteArray.toList.loop,if_neg (by omega),List.drop_of_length_le (by simp;exact Nat.le_of_sub_eq_zero h)];simp
 |n+1,i,r,h=>by
  have hi:i<b.size:=by omega
  have wW:i<b.data.toList.length:=by simpa using hi
  rw[ByteArray.toList.loop,if_pos hi,Wx b n (i+1) _ (by omega),List.drop_eq_getElem_cons wW]
  have:b.get! i=b.data.toList[i]:=by
   rw[ByteArray.get!]
   simp[hi]
  rw[this];simp
theorem a4L (b:ByteArray):b.toList=b.data.toList:=by
 rw[ByteArray.toList,Wx b _ 0 [] rfl];simp
theorem toList_mk (bs:List UInt8):(⟨bs.toArray⟩:ByteArray).toList=bs:=by rw[a4L]
theorem Zd (a b:List UInt8):eL .eql (.string ⟨a.toArray⟩) (.string ⟨b.toArray⟩)=some (.bool (decide (a=b))):=by
 simp only[eL,Ki,toList_mk];congr 2
 by_cases h:a=b<;>simp[h]
theorem Ze (a b:List UInt8):eL .neq (.string ⟨a.toArray⟩) (.string ⟨b.toArray⟩)=some (.bool (decide (a≠b))):=by
 simp only[eL,Ki,toList_mk];congr 2
 by_cases h:a=b<;>simp[h]
theorem Na (a:List UInt8):(⟨a.toArray⟩:ByteArray).size=a.length:=by simp[ByteArray.size]
section
variable {P:Ctx}{f:Fr}{s:Hp}{Kv:AV→Hp→Prop}
theorem a5q {d:Nat}{op:iu}{g:Nat}{w:Bool}:KQ P ⟨some d,op,some (g,w)⟩ f s=xI (f g) w (jC (G P op f s (fun r _=>r=f d)) ()) (jC ((.dr []:AV)=f d) ()):=rfl
theorem a6D {d:Option Nat}{op:iu}{g:Nat}{w:Bool}:Def P ⟨d,op,some (g,w)⟩ f=xI (f g) w (jC (G P op f Hp.emp (fun _ _=>True)) ()) (jC True ()):=rfl
def CV (a:AV):Option AV:=
 match a with
 | .sl xs _=>match bytesOf xs with
  |some l=>some (.v (.string ⟨l.toArray⟩))
  |none=>none
 | _=>none
theorem Yq {bs:List UInt8}{o:Own}:CV (.sl (bs.map bN) o)=some (.v (.string ⟨bs.toArray⟩)):=by simp[CV,JL]
theorem afD {x:Operand}:G P (.D9 x) f s Kv=jk (CV (ev f x)) (fj (fun r=>Kv r s) ()):=by
 simp only[G,CV];generalize ev f x=a
 cases a<;>first|rfl|(rename_i xs o;simp only[];generalize bytesOf xs=c;cases c<;>rfl)
def J2 (mx:Bool) (a b:AV):Option AV:=
 match a,b with
 | .v (.int k a),.v (.int k' b)=>if k=k' then some (.v (.int k (if mx then max a b else min a b)))else none
 | _,_=>none
theorem abd {k:IntKind}{a b:Int}:J2 true (.v (.int k a)) (.v (.int k b))=some (.v (.int k (max a b))):=by simp[J2]
theorem abe {k:IntKind}{a b:Int}:J2 false (.v (.int k a)) (.v (.int k b))=some (.v (.int k (min a b))):=by simp[J2]
theorem ahS {mx:Bool}{k:IntKind}{x y:Operand}:G P (.mm mx k x y) f s Kv=jk (J2 mx (ev f x) (ev f y)) (fj (fun r=>Kv r s) ()):=by
 simp only[G,J2];generalize ev f x=a;generalize ev f y=b
 cases a<;>first
  |rfl
  |(rename_i v;cases v<;>first
    |rfl
    |(cases b<;>first
      |rfl
      |(rename_i w;cases w<;>first|rfl|(simp only[uW,ui]))))
def NJ (a:AV):Option AV:=
 match a with
 | .v (.string t)=>some (.v (.int .i64 t.size))
 | _=>none
theorem a6E {bs:List UInt8}:NJ (.v (.string ⟨bs.toArray⟩))=some (.v (.int .i64 bs.length)):=by simp[NJ,Na]
theorem adQ {x:Operand}:G P (.KI x) f s Kv=jk (NJ (ev f x)) (fj (fun r=>Kv r s) ()):=by
 simp only[G,NJ];generalize ev f x=a
 cases a<;>first|rfl|(rename_i v;cases v<;>rfl)
def Ea (a:AV) (lo hi:Option AV):Option AV:=
 match a with
 | .v (.string t)=>match bO lo 0,bO hi t.size with
  |some a,some b=>if 0≤a∧a≤b∧b≤t.size then some (.v (.string (t.extract a.toNat b.toNat)))else none
  | _,_=>none
 | _=>none
theorem Qe (bs:List UInt8) (i j:Nat):(⟨bs.toArray⟩:ByteArray).extract i j=⟨((bs.take j).drop i).toArray⟩:=by
 apply ByteArray.ext
 simp only[ByteArray.data_extract]
 simp[List.drop_take]
theorem a88 {bs:List UInt8}{k:IntKind}{a:Int} (h:0≤a) (h2:a≤bs.length):Ea (.v (.string ⟨bs.toArray⟩)) (some (.v (.int k a))) none=some (.v (.string ⟨(bs.drop a.toNat).toArray⟩)):=by
 simp[Ea,bO,intOf,Na,h,h2,Qe]
theorem a89 {bs:List UInt8}{k:IntKind}{b:Int} (h:0≤b) (h2:b≤bs.length):Ea (.v (.string ⟨bs.toArray⟩)) none (some (.v (.int k b)))=some (.v (.string ⟨(bs.take b.toNat).toArray⟩)):=by
 simp[Ea,bO,intOf,Na,h,h2,Qe]
theorem a5r {bs:List UInt8}{k k':IntKind}{a b:Int} (h:0≤a) (h1:a≤b) (h2:b≤bs.length):Ea (.v (.string ⟨bs.toArray⟩)) (some (.v (.int k a))) (some (.v (.int k' b)))=some (.v (.string ⟨((bs.take b.toNat).drop a.toNat).toArray⟩)):=by
 simp[Ea,bO,intOf,Na,h,h1,h2,Qe]
theorem adR {x:Operand}{lo hi:Option Operand}:G P (.Io x lo hi) f s Kv=jk (Ea (ev f x) (lo.map (ev f)) (hi.map (ev f))) (fj (fun r=>Kv r s) ()):=by
 simp only[G,Ea,Nw]
 generalize ev f x=a;generalize lo.map (ev f)=p;generalize hi.map (ev f)=q
 cases a<;>try rfl
 rename_i v
 cases v<;>try rfl
 rename_i t
 simp only[]
 generalize bO p 0=u;generalize bO q t.size=w
 cases u<;>cases w<;>try rfl
 simp only[uW,ui]
 apply propext;constructor
 ·rintro ⟨h1,h2,h3,h5⟩;exact⟨⟨h1,h2,h3⟩,h5⟩
 ·rintro ⟨⟨h1,h2,h3⟩,h5⟩;exact⟨h1,h2,h3,h5⟩
theorem a6F {bs:List UInt8}{k:IntKind}{n:Int} (h:0≤n) (h2:n<bs.length):Ib (.v (.string ⟨bs.toArray⟩)) (.v (.int k n))=some (.v (.int .u8 (bs.getD n.toNat 0).toNat)):=by
 have h3:n.toNat<bs.length:=by omega
 have e:bs.getD n.toNat 0=bs[n.toNat]:=by simp[List.getD,h3]
 simp[Ib,h,h3,e]
def a0Y (k:Nat) (s:Hp) (x y:AV) (C:AV→Hp→Prop):Prop:=
 match x,y with
 | .gK l off n k',.sl ys _=>k'=k∧(∀e∈ys,e.cells.length=k)∧match s l with
  |some (.cells cs)=>off+n*k≤cs.length∧C (.v (.int .i64 (min ys.length n))) (s.set l (.cells (putAt cs off (flat (ys.take n)))))
  | _=>False
 | .mb l n _ k',.sl ys _=>k'=k∧(∀e∈ys,e.cells.length=k)∧match s l with
  |some (.cells cs)=>n*k≤cs.length∧C (.v (.int .i64 (min ys.length n))) (s.set l (.cells (putAt cs 0 (flat (ys.take n)))))
  | _=>False
 | _,_=>False
theorem afE {k:Nat}{x y:Operand}:G P (.Da k x y) f s Kv=a0Y k s (ev f x) (ev f y) (jX Kv ()):=rfl
theorem XF {k l off n:Nat}{ys cs:List AV}{o:Own}{C:AV→Hp→Prop}{d:jH C} (h1:dS k ys) (h2:s l=some (.cells cs)) (h3:off+n*k≤cs.length)
  (hC:C (.v (.int .i64 (min ys.length n))) (s.set l (.cells (putAt cs off (flat (ys.take n)))))):a0Y k s (.gK l off n k) (.sl ys o) (jX C d):=by
 refine⟨rfl,h1,?_⟩;rw[h2];exact⟨h3,hC⟩
def NK (k n:Nat) (s:Hp) (a:AV) (lo hi:Option AV):Option AV:=
 match a with
 | .ptr l off=>match bO lo 0,bO hi n with
  |some a,some b=>match s.read l with
   |some cs=>if 0≤a∧a≤b∧b≤n∧off+n*k≤cs.length∧a<n then some (.gK l (off+a.toNat*k) (b.toNat - a.toNat) k)else none
   |none=>none
  | _,_=>none
 | _=>none
theorem QK {k n l off:Nat}{cs:List AV} (h:s.read l=some cs) (h2:off+n*k≤cs.length) (h3:0<n):NK k n s (.ptr l off) none none=some (.gK l off n k):=by
 simp[NK,bO,h,h2,h3]
theorem abf {k n:Nat}{x:Operand}{lo hi:Option Operand}:G P (.BK k n x lo hi false) f s Kv=jk (NK k n s (ev f x) (lo.map (ev f)) (hi.map (ev f))) (fj (fun r=>Kv r s) ()):=by
 simp only[G,NK,Nw];generalize ev f x=a
 generalize lo.map (ev f)=p;generalize hi.map (ev f)=q
 cases a<;>try rfl
 rename_i l off
 simp only[]
 generalize bO p 0=u;generalize bO q n=w;generalize s.read l=c
 cases u<;>cases w<;>cases c<;>first
  |rfl
  |(simp[jk];done)
  |(
    simp only[uW,ui,Bool.false_eq_true,if_false]
    apply propext;constructor
    ·rintro ⟨h1,h2,h3,h4,h5,h6⟩;exact⟨⟨h1,h2,h3,h4,h5⟩,h6⟩
    ·rintro ⟨⟨h1,h2,h3,h4,h5⟩,h6⟩;exact⟨h1,h2,h3,h4,h5,h6⟩)
def Ic (k:Nat) (s:Hp) (vs0:List AV) (C:AV→Hp→Prop):Prop:=
 (∀e∈vs0,e.cells.length=k)∧(if vs0.length=0 then C (.sl [] .zero) s else∀g,s g=none→C (.mb g vs0.length vs0.length k) (s.set g (.cells (flat vs0))))
theorem adS {k:Nat}{xs:List Operand}:G P (.qw k xs) f s Kv=Ic k s (xs.map (ev f)) (jX Kv ()):=by
 simp only[G,Ic,jX,List.length_map]
theorem HR {k:Nat}{C:AV→Hp→Prop}{d:jH C}:Ic k s [] (jX C d)=C (.sl [] .zero) s:=by simp[Ic,jX]
theorem DV {k:Nat}{vs0:List AV}{C:AV→Hp→Prop}{d:jH C} (h1:dS k vs0) (h0:vs0≠ []) (hk: ∀g,s g=none→C (.mb g vs0.length vs0.length k) (s.set g (.cells (flat vs0)))):Ic k s vs0 (jX C d):=by
 refine⟨h1,?_⟩
 rw[if_neg (fun h=>h0 (List.eq_nil_of_length_eq_zero h))]
 exact hk
def a0Z (k bytes:Nat) (z:List AV) (s:Hp) (x y:AV) (C:AV→Hp→Prop):Prop:=
 match x,y with
 | .v (.int _ n),.v (.int _ m)=>n=m∧0≤n∧n≤9223372036854775807∧n*bytes≤281474976710656∧ ∀g,s g=none→C (.mb g n.toNat n.toNat k) (s.set g (.cells (List.replicate n.toNat z).flatten))
 | _,_=>False
theorem afF {k bytes:Nat}{z:List AV}{x y:Operand}:G P (.zo k bytes z x y) f s Kv=a0Z k bytes z s (ev f x) (ev f y) (jX Kv ()):=rfl
theorem a6G {k bytes n:Nat}{z:List AV}{kd kd':IntKind}{C:AV→Hp→Prop}{d:jH C} (h1:n*bytes≤281474976710656) (h2:n≤9223372036854775807) (hk: ∀g,s g=none→C (.mb g n n k) (s.set g (.cells (List.replicate n z).flatten))):
  a0Z k bytes z s (.v (.int kd (n:Int))) (.v (.int kd' (n:Int))) (jX C d):=⟨rfl,by omega,by omega,by omega,fun g hg=>by
 have:=hk g hg
 simp only[jX,Int.toNat_natCast];exact this⟩
def Kw (k bytes:Nat) (s:Hp) (x y:AV) (C:AV→Hp→Prop):Prop:=
  match Ah s k y with
  |some (m,ys)=>match x with
    | .sl xs o=>xs= []∧(o= .nil∨o= .zero)∧m*bytes≤140737488355328∧m≤9223372036854775807∧
      (if m=0 then C (.sl [] o) s else∀g cap sp,s g=none→m≤cap→cap≤maxLen→sp.length=(cap - m)*k→C (.mb g m cap k) (s.set g (.cells (ys++sp))))
    | .mb l n cap k'=>match s l with
      |some (.cells cs)=>k'=k∧cs.length=cap*k∧(n+m)*bytes≤140737488355328∧n+m≤9223372036854775807∧
        (if n+m≤cap then C (.mb l (n+m) cap k) (s.set l (.cells (putAt cs (n*k) ys)))
         else∀g eD sp,s g=none→n+m≤eD→eD≤maxLen→sp.length=(eD -(n+m))*k→C (.mb g (n+m) eD k) (s.set g (.cells (cs.take (n*k)++ys++sp))))
      |some (.sc cs)=>k'=k∧cs.length=cap*k∧(n+m)*bytes≤140737488355328∧n+m≤9223372036854775807∧
        (if n+m≤cap then C (.mb l (n+m) cap k) (s.set l (.sc (putAt cs (n*k) ys)))
         else∀g eD sp,s g=none→n+m≤eD→eD≤maxLen→sp.length=(eD -(n+m))*k→C (.mb g (n+m) eD k) (s.set g (.cells (cs.take (n*k)++ys++sp))))
      | _=>False
    | _=>False
  |none=>False
theorem adT {k bytes:Nat}{x y:Operand}:G P (.nh k bytes x y) f s Kv=Kw k bytes s (ev f x) (ev f y) (jX Kv ()):=rfl
def MO (s0 s:Hp) (k:Nat) (us:List AV) (a:AV):Prop:=
 s0.sub s∧((us= []∧(a= .sl [] .nil∨a= .sl [] .zero))∨ ∃l n cap cs,a= .mb l n cap k∧s0 l=none∧s l=some (.cells cs)∧cs.length=cap*k∧cs.take (n*k)=us∧us.length=n*k∧n≤cap∧cap≤maxLen)
theorem MO.nil {s0 s:Hp}{k:Nat} (h:s0.sub s):MO s0 s k [] (.sl [] .nil):=⟨h,.inl ⟨rfl,.inl rfl⟩⟩
theorem MO.zero {s0 s:Hp}{k:Nat} (h:s0.sub s):MO s0 s k [] (.sl [] .zero):=⟨h,.inl ⟨rfl,.inr rfl⟩⟩
theorem MO.mono {s0 s s':Hp}{k:Nat}{us:List AV}{a:AV} (h:MO s0 s k us a) (hs:s.sub s'):MO s0 s' k us a:=by
 obtain⟨h1,h2⟩:=h
 refine⟨Hp.cy h1 hs,?_⟩
 rcases h2 with h2|⟨l,n,cap,cs,q1,q2,q3,q4⟩
 ·exact .inl h2
 ·exact .inr ⟨l,n,cap,cs,q1,q2,hs _ _ q3,q4⟩
theorem MO.base {s0 s1 s:Hp}{k:Nat}{us:List AV}{a:AV} (h:MO s0 s k us a) (hs:s1.sub s0):MO s1 s k us a:=by
 obtain⟨h1,h2⟩:=h
 refine⟨Hp.cy hs h1,?_⟩
 rcases h2 with h2|⟨l,n,cap,cs,q1,q2,q3⟩
 ·exact .inl h2
 ·exact .inr ⟨l,n,cap,cs,q1,Hp.iJ hs q2,q3⟩
theorem MO.new {s0 s:Hp}{k l2:Nat}{us:List AV}{a:AV}{ob:Ob} (h:MO s0 s k us a) (hl:s l2=none):MO (s0.set l2 ob) (s.set l2 ob) k us a:=by
 obtain⟨h1,h2⟩:=h
 refine⟨Hp.A3 h1,?_⟩
 rcases h2 with h2|⟨l,n,cap,cs,q1,q2,q3,q4⟩
 ·exact .inl h2
 ·have bI:l≠l2:=by rintro rfl;rw[hl]at q3;cases q3
  exact .inr ⟨l,n,cap,cs,q1,by rw[Hp.aX _ _ bI];exact q2,by rw[Hp.aX _ _ bI];exact q3,q4⟩
theorem MO.src {s0 s:Hp}{k:Nat}{us:List AV}{a:AV} (h:MO s0 s k us a): ∃n,us.length=n*k∧hU s k a=some (n,us)∧wN a=some (.v (.int .i64 n)):=by
 obtain⟨h1,h2⟩:=h
 rcases h2 with ⟨rfl,rfl|rfl⟩|⟨l,n,cap,cs,rfl,q2,q3,q4,q5,q6,q7,q8⟩
 ·exact⟨0,by simp,rfl,rfl⟩
 ·exact⟨0,by simp,rfl,rfl⟩
 ·refine⟨n,q6,?_,rfl⟩
  have:n*k≤cs.length:=by rw[q4];exact Nat.mul_le_mul_right _ q7
  simp[hU,Hp.aV q3,this,q5]
theorem lX {s0:Hp}{k bytes m:Nat}{us ys:List AV}{x y:AV}{C:AV→Hp→Prop}{d:jH C} (h:MO s0 s k us x) (hk:0<k) (hs:hU s k y=some (m,ys)) (hy:ys.length=m*k) (h3:(us.length+ys.length)*bytes≤140737488355328*k) (h4:us.length+ys.length≤9223372036854775807)
  (hC: ∀a' s',MO s0 s' k (us++ys) a'→C a' s'):Kw k bytes s x y (jX C d):=by
 obtain⟨h1,h2⟩:=h
 unfold Kw
 rw[YW hs]
 simp only[jX]
 have mf: ∀n,us.length=n*k→(n+m)*bytes≤140737488355328∧n+m≤9223372036854775807:=by
  intro n hn
  have e:us.length+ys.length=(n+m)*k:=by rw[hn,hy,Nat.add_mul]
  rw[e]at h3 h4
  constructor
  ·have:(n+m)*bytes*k≤140737488355328*k:=by rw[Nat.mul_assoc,Nat.mul_comm bytes k,←Nat.mul_assoc];exact h3
   exact Nat.le_of_mul_le_mul_right this hk
  ·have:(n+m)*1≤(n+m)*k:=Nat.mul_le_mul_left _ hk
   omega
 rcases h2 with ⟨rfl,ho⟩|⟨l,n,cap,cs,rfl,q2,q3,q4,q5,q6,q7,q8⟩
 ·obtain⟨b1,b2⟩:=mf 0 (by simp)
  have main: ∀o,(o= .nil∨o= .zero)→(([]:List AV)= []∧(o= .nil∨o= .zero)∧m*bytes≤140737488355328∧m≤9223372036854775807∧
   (if m=0 then C (.sl [] o) s else∀g cap sp,s g=none→m≤cap→cap≤maxLen→sp.length=(cap - m)*k→C (.mb g m cap k) (s.set g (.cells (ys++sp))))):=by
   intro o IQ
   refine⟨rfl,IQ,by simpa using b1,by omega,?_⟩
   split
   ·rename_i hm
    subst hm
    have:ys= []:=List.eq_nil_of_length_eq_zero (by simpa using hy)
    subst this
    refine hC _ _ ⟨h1,.inl ⟨rfl,?_⟩⟩
    rcases IQ with rfl|rfl
    ·exact .inl rfl
    ·exact .inr rfl
   ·intro g cap sp hg hc nS jt
    refine hC _ _ ⟨Hp.bT h1 (Hp.iJ h1 hg),.inr ⟨g,m,cap,ys++sp,rfl,Hp.iJ h1 hg,Hp.bt _ _ _,?_,?_,by simpa using hy,hc,nS⟩⟩
    ·rw[List.length_append,hy,jt,←Nat.add_mul];congr 1;omega
    ·rw[←hy,List.take_left];rfl
  rcases ho with rfl|rfl
  ·exact main _ (.inl rfl)
  ·exact main _ (.inr rfl)
 ·obtain⟨b1,b2⟩:=mf n q6
  simp only[q3]
  refine⟨trivial,q4,b1,b2,?_⟩
  have IM:(cs.take (n*k)).length=n*k:=by rw[q5,q6]
  split
  ·rename_i rm
   have jB:n*k+ys.length≤cs.length:=by rw[hy,q4,←Nat.add_mul];exact Nat.mul_le_mul_right _ rm
   refine hC _ _ ⟨Hp.bT h1 q2,.inr ⟨l,n+m,cap,_,rfl,q2,Hp.bt _ _ _,?_,?_,by rw[List.length_append,q6,hy,Nat.add_mul],rm,q8⟩⟩
   ·rw[rS _ _ _ jB,q4]
   ·have e:(n+m)*k=(cs.take (n*k)++ys).length:=by rw[List.length_append,IM,hy,Nat.add_mul]
    rw[putAt,e,List.take_left,q5]
  ·intro g eD sp hg hc nS jt
   refine hC _ _ ⟨Hp.bT h1 (Hp.iJ h1 hg),.inr ⟨g,n+m,eD,_,rfl,Hp.iJ h1 hg,Hp.bt _ _ _,?_,?_,by rw[List.length_append,q6,hy,Nat.add_mul],hc,nS⟩⟩
   ·rw[List.length_append,List.length_append,IM,hy,jt,←Nat.add_mul,←Nat.add_mul];congr 1;omega
   ·have e:(n+m)*k=(cs.take (n*k)++ys).length:=by rw[List.length_append,IM,hy,Nat.add_mul]
    rw[e,List.take_left,q5]
theorem a5s {bs:List UInt8}{o:Own}:hU s 1 (.sl (bs.map bN) o)=some (bs.length,bs.map bN):=by
 have:((bs.map bN).all fun e=>decide (e.cells.length=1))=true:=by simp[bN,AV.cells]
 simp[hU,this,JQ]
def Kx (s:Hp) (a:AV):Option AV:=
 match hU s 1 a with
 |some (_,xs)=>match bytesOf xs with
  |some l=>some (.v (.string ⟨l.toArray⟩))
  |none=>none
 |none=>none
theorem adU {x:Operand}:G P (.CN x) f s Kv=jk (Kx s (ev f x)) (fj (fun r=>Kv r s) ()):=by
 simp only[G,Kx]
 cases hU s 1 (ev f x)with
 |none=>rfl
 |some p=>
  obtain⟨m,xs⟩:=p
  simp only
  cases bytesOf xs<;>rfl
theorem a8a {a:AV}{n:Nat}{bs:List UInt8} (h:hU s 1 a=some (n,bs.map bN)):Kx s a=some (.v (.string ⟨bs.toArray⟩)):=by simp[Kx,h,JL]
def O7 (a:AV):Option AV:=
 match a with
 | .v (.string t)=>some (.sl (t.data.toList.map bN) .any)
 | _=>none
theorem a8b {bs:List UInt8}:O7 (.v (.string ⟨bs.toArray⟩))=some (.sl (bs.map bN) .any):=by simp[O7]
theorem afG {x:Operand}:G P (.Ld x) f s Kv=jk (O7 (ev f x)) (fj (fun r=>Kv r s) ()):=by
 simp only[G,O7];generalize ev f x=a
 cases a<;>first|rfl|(rename_i v;cases v<;>rfl)
theorem RV.frozen {H:PH}{w:World}{l n cap k:Nat}{cs:List AV}{v:Value} (hh:dv H s w) (hl:s l=some (.ro cs)) (hn:n*k≤cs.length) (hv:RV H v (.mb l n cap k)):RV H v (.sl (nN k n cs) .any):=by
 obtain⟨db,vs,T,fz,hb,hr,hH⟩:=hh.ob l _ hl
 have fK:vs.size=cs.length:=hr.1
 cases hv with
 |mb l n cap k hk ft=>
  obtain⟨e1,e2,e3⟩:=W5 hk hn db
  by_cases h0:n=0
  ·subst h0
   have:nN k 0 cs= []:=List.eq_nil_of_length_eq_zero e3
   rw[this]
   exact .jo _ _ _ (fun h=>by cases h) trivial
  ·refine .sl l 0 n cap k (fun j=>vs.getD j Go.undef) _ .any hk e3.symm ft e1 ?_ ?_ ?_ trivial
   ·intro c hc;rw[e2]at hc;exact db c (List.mem_of_mem_take hc)
   ·intro j hj;rw[Nat.zero_add];exact hH j (by omega)
   ·intro j u hu
    rw[e2]at hu
    have hj:j<n*k:=by have:=(List.getElem?_eq_some_iff.1 hu).1;simp at this;omega
    rw[List.getElem?_take_of_lt hj]at hu
    exact hr.2 j u hu
end
def rF:=
 And.intro @adS<|
 And.intro @adT<|
 And.intro @afF<|
 And.intro @adU<|
 And.intro @afG<|
 And.intro @afD<|
 And.intro @ahS<|
 And.intro @adQ<|
 And.intro @adR<|
 And.intro @afE<|
 And.intro @abf<|
 And.intro @a5q<|
 @a6D
def rG:=
 And.intro @a8b<|
 And.intro @I3<|
 And.intro @a7U<|
 And.intro @a84<|
 And.intro @Yq<|
 And.intro @abd<|
 And.intro @abe<|
 And.intro @a6E<|
 And.intro @a88<|
 And.intro @a89<|
 And.intro @a5r<|
 And.intro @QK<|
 And.intro @Ze<|
 And.intro @Zd<|
 And.intro @a6F<|
 And.intro @ite_true.{1}<|
 And.intro @ite_false.{1}<|
 And.intro @Bool.not_false<|
 And.intro @Bool.not_true<|
 And.intro @Bool.false_xor<|
 And.intro @Bool.true_xor<|
 And.intro @Bool.true_and<|
 And.intro @Bool.false_and<|
 And.intro @decide_true<|
 @decide_false
section
variable {P:Ctx}{f:Fr}{s:Hp}{Kv:AV→Hp→Prop}
theorem afH {fn:FuncId}{a b:List Operand}:G P (.eU fn a b) f s Kv=CU (.eU fn (a.map (ev f)) (b.map (ev f))) (fj (fun r=>Kv r s) ()):=rfl
def a07 (P:Ctx) (x:AV) (args:List AV) (s:Hp) (C:AV→Hp→Prop):Prop:=
 match x with
 | .eU fn ds cs=>A5 P.p fn=true∧vg P.p fn (ds++args++cs) s C (up P.k)
 | _=>False
theorem abg {x:Operand}{args:List Operand}:G P (.rn x args) f s Kv=a07 P (ev f x) (args.map (ev f)) s (jX Kv ()):=rfl
theorem zT {fn:FuncId}{ds cs args:List AV}{C R:AV→Hp→Prop}{d:jH C} (cj:A5 P.p fn=true) (h:AC P.p fn (ds++args++cs) s R) (hr: ∀r s',R r s'→C r s'):a07 P (.eU fn ds cs) args s (jX C d):=⟨cj,(h.mono hr).p⟩
theorem afI {t:TypeId}{x:Operand}:G P (.Db t x) f s Kv=CU (.iface t (ev f x)) (fj (fun r=>Kv r s) ()):=rfl
def BG (t:TypeId) (ok:Bool) (z:AV) (x:AV):Option AV:=
 match x with
 | .iface d y=>if d=t then some (if ok then .dr [y,.v (.bool true)]else y)else if ok=true then some (.dr [z,.v (.bool false)])else none
 | .v .nilIface=>if ok=true then some (.dr [z,.v (.bool false)])else none
 | _=>none
theorem adV {t:TypeId}{ok:Bool}{z:AV}{x:Operand}:G P (.Ej t ok z x) f s Kv=jk (BG t ok z (ev f x)) (fj (fun r=>Kv r s) ()):=by
 simp only[G,BG];generalize ev f x=a
 cases a<;>first
  |rfl
  |(
    rename_i d y;by_cases h:d=t
    ·simp only[h,if_true];rfl
    ·simp only[h,if_false];cases ok<;>simp[jk,fj])
  |(rename_i v;cases v<;>first|rfl|(cases ok<;>simp[jk,fj]))
theorem a6H {t:TypeId}{z y:AV}:BG t true z (.iface t y)=some (.dr [y,.v (.bool true)]):=by simp[BG]
theorem a8c {t d:TypeId}{z y:AV} (h:d≠t):BG t true z (.iface d y)=some (.dr [z,.v (.bool false)]):=by simp[BG,h]
theorem a6I {t:TypeId}{z:AV}:BG t true z (.v .nilIface)=some (.dr [z,.v (.bool false)]):=by simp[BG]
theorem a6J {t:TypeId}{z y:AV}:BG t false z (.iface t y)=some y:=by simp[BG]
def O8 (neg:Bool) (x:AV):Option AV:=
 match x with
 | .iface _ _=>some (.v (.bool neg))
 | .v .nilIface=>some (.v (.bool (!neg)))
 | _=>none
theorem afJ {neg:Bool}{x:Operand}:G P (.Lg neg x) f s Kv=jk (O8 neg (ev f x)) (fj (fun r=>Kv r s) ()):=by
 simp only[G,O8];generalize ev f x=a
 cases a<;>first
  |rfl
  |(rename_i v;cases v<;>rfl)
theorem a6K {neg:Bool}{t:TypeId}{y:AV}:O8 neg (.iface t y)=some (.v (.bool neg)):=rfl
theorem a8d {neg:Bool}:O8 neg (.v .nilIface)=some (.v (.bool (!neg))):=rfl
def NL (neg:Bool) (x:AV):Option AV:=
 match x with
 | .eU _ _ _=>some (.v (.bool neg))
 | .v .nilFunc=>some (.v (.bool (!neg)))
 | _=>none
theorem adW {neg:Bool}{x:Operand}:G P (.KK neg x) f s Kv=jk (NL neg (ev f x)) (fj (fun r=>Kv r s) ()):=by
 simp only[G,NL];generalize ev f x=a
 cases a<;>first
  |rfl
  |(rename_i v;cases v<;>rfl)
theorem a5t {neg:Bool}{g:Nat}{a b:List AV}:NL neg (.eU g a b)=some (.v (.bool neg)):=rfl
theorem a6L {neg:Bool}:NL neg (.v .nilFunc)=some (.v (.bool (!neg))):=rfl
def ahT (P:Ctx) (x:AV) (s:Hp):Prop:=
 match x with
 | .iface t y=>up P.k (.iface t y) s
 | _=>False
theorem afK {x:Operand}:G P (.zp x) f s Kv=ahT P (ev f x) s:=rfl
def a0B (x:AV) (s:Hp) (C:Nat→ByteArray→Prop):Prop:=
 match x with
 | .v (.string t)=> ∀l,s l=none→C l t
 | _=>False
theorem adX {x:Operand}:G P (.Ag x) f s Kv=a0B (ev f x) s (jX (fun l t=>Kv (.ptr l 0) (s.set l (.it t 0))) ()):=rfl
theorem a8e {bs:List UInt8}{C:Nat→ByteArray→Prop}{d:jH C}:a0B (.v (.string ⟨bs.toArray⟩)) s (jX C d)=CT s (fj (fun l=>C l ⟨bs.toArray⟩) ()):=rfl
def afL (x:AV) (s:Hp) (C:AV→Hp→Prop):Prop:=
 match x with
 | .ptr l off=>off=0∧match s l with
  |some (.it t pos)=>if pos<t.size then C (.dr [.v (.bool true),.v (.int .i64 pos),.v (.int .i32 (Utf8.decode t pos).1)]) (s.set l (.it t (pos+(Utf8.decode t pos).2)))else C (.dr [.v (.bool false)]) s
  | _=>False
 | _=>False
theorem adY {x:Operand}:G P (.Ek x) f s Kv=afL (ev f x) s (jX Kv ()):=rfl
def afM (x:AV) (s:Hp) (C:AV→Hp→Prop):Prop:=
 match x with
 | .v (.string t)=>t.size≤140737488355328∧ ∀g cap sp,s g=none→t.size≤cap→cap≤maxLen→sp.length=cap - t.size→C (.mb g t.size cap 1) (s.set g (.sc (t.data.toList.map bN++sp)))
 | _=>False
theorem adZ {x:Operand}:G P (.Ei x) f s Kv=afM (ev f x) s (jX Kv ()):=rfl
theorem a8f {T:TypeId}{z:List AV}:G P (.A4 T z) f s Kv=CT s (fj (fun l=>Kv (.ptr l 0) (s.set l (.tc T z))) ()):=rfl
def afN (e:TypeId) (s:Hp) (x y:AV) (C:AV→Hp→Prop):Prop:=
  match Ah s 1 y with
    |some (m,ys)=>match x with
      | .sl xs o=>xs= []∧(o= .nil∨o= .zero)∧m≤140737488355328∧
        (if m=0 then C (.sl [] o) s else∀g cap sp,s g=none→m≤cap→cap≤maxLen→sp.length=(cap - m)*1→C (.mb g m cap 1) (s.set g (.tc e (ys++sp))))
      | .mb l n cap k'=>match s l with
        |some (.tc T cs)=>T=e∧k'=1∧cs.length=cap*1∧n+m≤140737488355328∧
          (if n+m≤cap then C (.mb l (n+m) cap 1) (s.set l (.tc T (putAt cs (n*1) ys)))
           else∀g eD sp,s g=none→n+m≤eD→eD≤maxLen→sp.length=(eD -(n+m))*1→C (.mb g (n+m) eD 1) (s.set g (.tc e (cs.take (n*1)++ys++sp))))
        | _=>False
      | _=>False
    |none=>False
theorem ae0 {e:TypeId}{x y:Operand}:G P (.Em e x y) f s Kv=afN e s (ev f x) (ev f y) (jX Kv ()):=rfl
def a10 (x:AV) (s:Hp) (C:AV→Prop):Prop:=
 match x with
 | .ptr l off=>match s.read l with
  |some cs=>off<cs.length∧C (.ptr l off)
  |none=>False
 | _=>False
theorem afO {x:Operand}:G P (.BT x) f s Kv=a10 (ev f x) s (fj (fun r=>Kv r s) ()):=by
 simp only[G,a10];generalize ev f x=a
 cases a<;>rfl
def a12 (T:TypeId) (n:Nat) (x:AV) (s:Hp) (C:AV→Prop):Prop:=
 match x with
 | .ptr l off=>off=0∧match s l with
  |some (.tc T' cs)=>T'=T∧cs.length=n∧C (.ptr l off)
  | _=>False
 | _=>False
theorem afP {T:TypeId}{n:Nat}{x:Operand}:G P (.BU T n x) f s Kv=a12 T n (ev f x) s (fj (fun r=>Kv r s) ()):=by
 simp only[G,a12];generalize ev f x=a
 cases a<;>rfl
def Ky (x:AV):Option AV:=
 match x with
 | .sl [] .nil=>some (.v (.pointer none))
 | .mb l _ cap _=>if 0<cap then some (.ptr l 0)else none
 | _=>none
theorem ae1 {x:Operand}:G P (.KL x) f s Kv=jk (Ky (ev f x)) (fj (fun r=>Kv r s) ()):=by
 simp only[G,Ky];generalize ev f x=a
 cases a<;>first
  |rfl
  |(rename_i xs o;cases xs<;>cases o<;>simp[jk,fj])
  |(simp only[uW,ui];done)
theorem a6M:Ky (.sl [] .nil)=some (.v (.pointer none)):=rfl
theorem a8g {l n cap k:Nat} (h:0<cap):Ky (.mb l n cap k)=some (.ptr l 0):=by simp[Ky,h]
def a0C (e:TypeId) (x y:AV) (s:Hp) (C:AV→Hp→Prop):Prop:=
 match x,y with
  | .v (.pointer none),.v (.int k n)=>k= .i64∧n=0∧C (.v (.string ⟨#[]⟩)) s
  | .ptr l off,.v (.int k n)=>k= .i64∧off=0∧0<n∧match s l with
   |some (.tc T cs)=>T=e∧n≤cs.length∧n≤9223372036854775807∧match bytesOf (cs.take n.toNat)with
    |some bs=>C (.v (.string ⟨bs.toArray⟩)) (s.del l)
    |none=>False
   | _=>False
  | _,_=>False
theorem ae2 {e:TypeId}{x y:Operand}:G P (.En e x y) f s Kv=a0C e (ev f x) (ev f y) s (jX Kv ()):=by
 simp only[G,a0C];generalize ev f x=a;generalize ev f y=b
 cases a<;>first
  |rfl
  |(rename_i v;cases v<;>first
    |rfl
    |(rename_i p;cases p<;>first|rfl|(cases b<;>first|rfl|(rename_i u;cases u<;>rfl))))
  |(cases b<;>first|rfl|(rename_i u;cases u<;>rfl))
def Zf (s:Hp) (n:Nat) (p:AV) (ys:List AV) (C:Hp→Prop):Prop:=
 match p with
 | .ptr l off=>match s l with
  |some (.cells cs)=>ys.length=n∧off+n≤cs.length∧C (s.set l (.cells (putAt cs off ys)))
  |some (.tc T cs)=>ys.length=n∧off+n≤cs.length∧C (s.set l (.tc T (putAt cs off ys)))
  |some (.sc cs)=>ys.length=n∧off+n≤cs.length∧C (s.set l (.sc (putAt cs off ys)))
  | _=>False
 | _=>False
theorem a8h {n:Nat}{x y:Operand}:G P (.Fx n x y) f s Kv=Zf s n (ev f x) (ev f y).cells (fj (fun s'=>Kv (.dr []) s') ()):=by
 simp only[G,Zf];generalize ev f x=a
 cases a<;>rfl
theorem a5u {K:Ex→Fr→Hp→Prop}:je P .refuse K f s=False:=rfl
theorem Hp.a4M {l:Nat}{T:TypeId}{cs:List AV}:(s.set l (.tc T cs)).read l=some cs:=by simp[Hp.read,Hp.set]
theorem a6N {g:Nat}{a b:List AV}:(AV.eU g a b).cells= [.eU g a b]:=rfl
theorem a6O {g:Nat}{a b:List AV}:Ks (.eU g a b)=some (.eU g a b):=rfl
def FG (neg:Bool) (s:Hp) (x y:AV):Option AV:=
 match x,y with
  | .ptr _ _,.v (.pointer none)=>some (.v (.bool neg))
  | .v (.pointer none),.ptr _ _=>some (.v (.bool neg))
  | .v (.pointer none),.v (.pointer none)=>some (.v (.bool (!neg)))
  | .ptr l o,.ptr l' o'=>if zZ s l=true∧zZ s l'=true then some (.v (.bool (xor neg (decide (l=l'∧o=o')))))else none
  | _,_=>none
theorem ae3 {neg:Bool}{x y:Operand}:G P (.CP neg x y) f s Kv=jk (FG neg s (ev f x) (ev f y)) (fj (fun r=>Kv r s) ()):=by
 simp only[G,FG];generalize ev f x=a;generalize ev f y=b
 cases a<;>first
  |rfl
  |(rename_i v;cases v<;>first
    |rfl
    |(rename_i p;cases p<;>first|rfl|(cases b<;>first|rfl|(rename_i u;cases u<;>first|rfl|(rename_i q;cases q<;>rfl)))))
  |(cases b<;>first|rfl|(rename_i u;cases u<;>first|rfl|(rename_i q;cases q<;>rfl))|(simp only[uW,ui];done))
theorem a5v {neg:Bool}{l o:Nat} (h:zZ s l=true):FG neg s (.ptr l o) (.ptr l o)=some (.v (.bool (!neg))):=by simp[FG,h]
theorem a6P {neg:Bool}{l o:Nat}:FG neg s (.ptr l o) (.v (.pointer none))=some (.v (.bool neg)):=rfl
theorem a5w {neg:Bool}{l o:Nat}:FG neg s (.v (.pointer none)) (.ptr l o)=some (.v (.bool neg)):=rfl
theorem a8i {neg:Bool}:FG neg s (.v (.pointer none)) (.v (.pointer none))=some (.v (.bool (!neg))):=rfl
end
theorem ae4:(true==true)=true:=rfl
theorem ae5:(true==false)=false:=rfl
theorem ae6:(false==true)=false:=rfl
theorem ae7:(false==false)=true:=rfl
def rK:=
 And.intro @afH<|
 And.intro @abg<|
 And.intro @afI<|
 And.intro @adV<|
 And.intro @afJ<|
 And.intro @adW<|
 And.intro @afK<|
 And.intro @adX<|
 And.intro @adY<|
 And.intro @adZ<|
 And.intro @a8f<|
 And.intro @ae0<|
 And.intro @afO<|
 And.intro @afP<|
 And.intro @ae1<|
 And.intro @ae2<|
 And.intro @a8h<|
 And.intro @ae3<|
 @a5u
def rM:=
 And.intro @ae4<|
 And.intro @ae5<|
 And.intro @ae6<|
 And.intro @ae7<|
 And.intro @a6H<|
 And.intro @a8c<|
 And.intro @a6I<|
 And.intro @a6J<|
 And.intro @a6K<|
 And.intro @a8d<|
 And.intro @a5t<|
 And.intro @a6L<|
 And.intro @a8e<|
 And.intro @a6M<|
 And.intro @a8g<|
 And.intro @Hp.a4M<|
 And.intro @a6N<|
 And.intro @a6O<|
 And.intro @a5v<|
 And.intro @a6P<|
 And.intro @a5w<|
 @a8i
noncomputable def wT (F:AV→Option AV) (k v:AV):AV→Option AV:=fun k'=> @ite _ (k'=k) (Classical.propDecidable _) (some v) (F k')
theorem MQ {F:AV→Option AV}{k v:AV}:wT F k v k=some v:=by simp[wT]
theorem I4 {F:AV→Option AV}{k v k':AV} (h:k'≠k):wT F k v k'=F k':=by simp[wT,h]
theorem Qf (k:AV): ∀(us:List (AV×AV×Nat)) (i:Nat),kx us k i=(kx us k 0).map fun r=>(r.1+i,r.2)
 | [],_=>rfl
 |u::us,i=>by
  unfold kx
  split
  ·simp
  ·rw[Qf k us (i+1),Qf k us (0+1)]
   cases kx us k 0<;>simp[Nat.add_comm,Nat.add_left_comm,Nat.add_assoc]
theorem zU (u:AV×AV×Nat) (us:List (AV×AV×Nat)) (k:AV):kx (u::us) k 0= @ite _ (k=u.1) (Classical.propDecidable _) (some (0,u.2.1)) ((kx us k 0).map fun r=>(r.1+1,r.2)):=by
 conv=>lhs;unfold kx
 rw[Qf k us (0+1)]
 by_cases h:k=u.1
 ·rw[if_pos ((K7 _ _).2 h),if_pos h]
 ·rw[if_neg (fun e=>h ((K7 _ _).1 e)),if_neg h]
theorem X0 (k v:AV) (c:Nat) (k':AV): ∀us:List (AV×AV×Nat),kx us k 0=none→(kx (us++ [(k,v,c)]) k' 0).map (·.2)=wT (fun k'=>(kx us k' 0).map (·.2)) k v k'
 | [],_=>by
  rw[List.nil_append,zU]
  by_cases h:k'=k
  ·subst h;simp[wT]
  ·simp[wT,h,kx]
 |u::us,hn=>by
  rw[zU]at hn
  split at hn
  ·cases hn
  ·next hk=>
   have hn':kx us k 0=none:=by cases hf:kx us k 0 with|none=>rfl|some r=>rw[hf]at hn;cases hn
   have ih:=X0 k v c k' us hn'
   rw[List.cons_append,zU]
   by_cases h:k'=u.1
   ·have jY:k'≠k:=fun e=>hk (by rw[←e];exact h)
    rw[if_pos h,I4 jY]
    rw[zU,if_pos h]
   ·rw[if_neg h]
    by_cases jY:k'=k
    ·subst jY
     rw[MQ]at ih⊢
     cases hf:kx (us++ [(k',v,c)]) k' 0 with
     |none=>rw[hf]at ih;cases ih
     |some r=>rw[hf]at ih;simpa using ih
    ·rw[I4 jY]at ih⊢
     rw[zU,if_neg h,Option.map_map,Option.map_map]
     exact ih
theorem XG (k v v':AV) (k':AV): ∀(us:List (AV×AV×Nat)) (j:Nat),kx us k 0=some (j,v)→(kx (us.modify j fun u=>(u.1,v',u.2.2)) k' 0).map (·.2)=wT (fun k'=>(kx us k' 0).map (·.2)) k v' k'
 | [],_,h=>by simp[kx]at h
 |u::us,j,h=>by
  rw[zU]at h
  split at h
  ·next hk=>
   simp only[Option.some.injEq,Prod.mk.injEq]at h
   obtain⟨rfl,_⟩:=h
   rw[List.modify_zero_cons,zU]
   by_cases h:k'=k
   ·subst h;rw[MQ];simp[hk]
   ·have: ¬k'=u.1:=fun e=>h (by rw[e,←hk])
    rw[I4 h,if_neg this]
    rw[zU,if_neg this]
  ·next hk=>
   cases hf:kx us k 0 with
   |none=>rw[hf]at h;cases h
   |some r=>
    rw[hf]at h
    simp only[Option.map_some,Option.some.injEq,Prod.mk.injEq]at h
    obtain⟨rfl,rfl⟩:=h
    have ih:=XG k r.2 v' k' us r.1 hf
    rw[List.modify_succ_cons,zU]
    by_cases h:k'=u.1
    ·have jY:k'≠k:=fun e=>hk (by rw[←e];exact h)
     rw[if_pos h,I4 jY]
     rw[zU,if_pos h]
    ·rw[if_neg h]
     by_cases jY:k'=k
     ·subst jY
      rw[MQ]at ih⊢
      rw[Option.map_map]
      exact ih
     ·rw[I4 jY]at ih⊢
      rw[zU,if_neg h,Option.map_map,Option.map_map]
      exact ih
structure A9 (rs:List (Nat×CK)) (us:List (AV×AV×Nat)) (clock:Nat) (F:AV→Option AV):Prop where
 val: ∀k,(kx us k 0).map (·.2)=F k
 keys:Fv rs us
 born:(us.map (·.2.2)).Nodup
 lt: ∀u∈us,u.2.2<clock
theorem A9.new {rs:List (Nat×CK)}:A9 rs [] 0 fun _=>none:=⟨fun _=>rfl,fun u h=>by simp at h,by simp,fun u h=>by simp at h⟩
theorem a3V (us:List (AV×AV×Nat)) (j:Nat) (v:AV):(us.modify j fun u=>(u.1,v,u.2.2)).map (·.2.2)=us.map (·.2.2):=by
 induction us generalizing j with
 |nil=>simp
 |cons u us ih=>cases j with
  |zero=>simp
  |succ j=>simp[ih]
theorem mem_modify {us:List (AV×AV×Nat)}{j:Nat}{v:AV}{u:AV×AV×Nat} (h:u∈us.modify j fun u=>(u.1,v,u.2.2)): ∃u0∈us,u.1=u0.1∧u.2.2=u0.2.2:=by
 induction us generalizing j with
 |nil=>simp at h
 |cons u0 us ih=>cases j with
  |zero=>
   simp only[List.modify_zero_cons,List.mem_cons]at h
   rcases h with rfl|h
   ·exact⟨u0,by simp,rfl,rfl⟩
   ·exact⟨u,by simp[h],rfl,rfl⟩
  |succ j=>
   simp only[List.modify_succ_cons,List.mem_cons]at h
   rcases h with rfl|h
   ·exact⟨u,by simp,rfl,rfl⟩
   ·obtain⟨q,h1,h2⟩:=ih h;exact⟨q,by simp[h1],h2⟩
theorem A9.set {rs:List (Nat×CK)}{us:List (AV×AV×Nat)}{clock:Nat}{F:AV→Option AV} (h:A9 rs us clock F) {k v v':AV}{j:Nat} (hf:kx us k 0=some (j,v)):A9 rs (us.modify j fun u=>(u.1,v',u.2.2)) clock (wT F k v') where
 val:=fun k'=>by
  rw[XG k v v' k' us j hf]
  simp only[wT]
  rw[h.val]
 keys:=fun u hu=>by
  obtain⟨u0,h1,h2,_⟩:=mem_modify hu
  rw[h2];exact h.keys u0 h1
 born:=by rw[a3V];exact h.born
 lt:=fun u hu=>by
  obtain⟨u0,h1,_,h2⟩:=mem_modify hu
  rw[h2];exact h.lt u0 h1
theorem A9.push {rs:List (Nat×CK)}{us:List (AV×AV×Nat)}{clock:Nat}{F:AV→Option AV} (h:A9 rs us clock F) {cs:List AV}{v:AV} (jB:gZ rs cs) (hf:kx us (.agg cs) 0=none):A9 rs (us++ [(.agg cs,v,clock)]) (clock+1) (wT F (.agg cs) v) where
 val:=fun k'=>by
  rw[X0 _ v clock k' us hf]
  simp only[wT]
  rw[h.val]
 keys:=fun u hu=>by
  rcases List.mem_append.1 hu with hu|hu
  ·exact h.keys u hu
  ·simp at hu;subst hu;exact⟨cs,rfl,jB⟩
 born:=by
  rw[List.map_append,List.nodup_append]
  refine⟨h.born,by simp,?_⟩
  intro a ha b hb
  obtain⟨u,hu,rfl⟩:=List.mem_map.1 ha
  simp at hb;subst hb
  exact Nat.ne_of_lt (h.lt u hu)
 lt:=fun u hu=>by
  rcases List.mem_append.1 hu with hu|hu
  ·exact Nat.lt_succ_of_lt (h.lt u hu)
  ·simp at hu;subst hu;exact Nat.lt_succ_self _
def Ie (s:Hp) (l:Nat) (rs:List (Nat×CK)) (F:AV→Option AV):Prop:= ∃us clock,s l=some (.mp us clock)∧A9 rs us clock F
def aoN (s:Hp) (l:Nat) (rs:List (Nat×CK)) (F:AV→Option AV) (k:AV) (b:Nat):Prop:=
 ∃us clock,s l=some (.mp us clock)∧ ∀v,∃j,FC us (b:Int)=some j∧A9 rs (us.modify j fun u=>(u.1,v,u.2.2)) clock (wT F k v)
section
variable {P:Ctx}{f:Fr}{s:Hp}{Kv:AV→Hp→Prop}
theorem afQ:G P .zq f s Kv=CT s (fj (fun l=>Kv (.qS l) (s.set l (.mp [] 0))) ()):=rfl
def O9 (ok:Bool) (rs:List (Nat×CK)) (z:AV) (s:Hp) (x k:AV) (C:AV→Prop):Prop:=
 match x,k with
 | .qS l,.agg cs=>match s l with
  |some (.mp us _)=>gZ rs cs∧Fv rs us∧(match kx us (.agg cs) 0 with
   |some (_,v)=>C (if ok then .dr [v,.v (.bool true)]else v)
   |none=>C (if ok then .dr [z,.v (.bool false)]else z))
  | _=>False
 | _,_=>False
theorem afR {ok:Bool}{rs:List (Nat×CK)}{z:AV}{x k:Operand}:G P (.BR ok rs z x k) f s Kv=O9 ok rs z s (ev f x) (ev f k) (fj (fun r=>Kv r s) ()):=by
 simp only[G,O9];generalize ev f x=a;generalize ev f k=b
 cases a<;>first
  |rfl
  |(cases b<;>rfl)
theorem XH {ok:Bool}{rs:List (Nat×CK)}{z:AV}{l:Nat}{cs:List AV}{F:AV→Option AV}{C:AV→Prop}{d:jH C} (h:Ie s l rs F) (hf:gZ rs cs)
  (hs: ∀v,F (.agg cs)=some v→C (if ok then .dr [v,.v (.bool true)]else v)) (hn:F (.agg cs)=none→C (if ok then .dr [z,.v (.bool false)]else z)):O9 ok rs z s (.qS l) (.agg cs) (fj C d):=by
 obtain⟨us,c,h1,h2⟩:=h
 simp only[O9,h1]
 refine⟨hf,h2.keys,?_⟩
 have hv:=h2.val (.agg cs)
 cases hq:kx us (.agg cs) 0 with
 |none=>rw[hq]at hv;exact hn hv.symm
 |some r=>rw[hq]at hv;exact hs _ hv.symm
def Oa (rs:List (Nat×CK)) (s:Hp) (x k v:AV) (C:Hp→Prop):Prop:=
 match x,k with
 | .qS l,.agg cs=>match s l with
  |some (.mp us clock)=>gZ rs cs∧Fv rs us∧C (s.set l (.mp (Af us (.agg cs) v clock).1 (Af us (.agg cs) v clock).2))
  | _=>False
 | _,_=>False
theorem afS {rs:List (Nat×CK)}{x k v:Operand}:G P (.BS rs x k v) f s Kv=Oa rs s (ev f x) (ev f k) (ev f v) (fj (fun s'=>Kv (.dr []) s') ()):=by
 simp only[G,Oa];generalize ev f x=a;generalize ev f k=b
 cases a<;>first
  |rfl
  |(cases b<;>rfl)
theorem a6Q {rs:List (Nat×CK)}{l:Nat}{cs:List AV}{v:AV}{F:AV→Option AV}{C:Hp→Prop}{d:jH C} (h:Ie s l rs F) (hf:gZ rs cs)
  (hC: ∀o,Ie (s.set l o) l rs (wT F (.agg cs) v)→C (s.set l o)):Oa rs s (.qS l) (.agg cs) v (fj C d):=by
 obtain⟨us,c,h1,h2⟩:=h
 simp only[Oa,h1]
 refine⟨hf,h2.keys,hC _ ⟨_,_,Hp.bt _ _ _,?_⟩⟩
 unfold Af
 cases hq:kx us (.agg cs) 0 with
 |none=>exact h2.push hf hq
 |some r=>exact h2.set hq
def afT (rs:List (Nat×CK)) (z:AV) (s:Hp) (x k:AV) (C:AV→Hp→Prop):Prop:=
 match x,k with
 | .qS l,.agg cs=>match s l with
  |some (.mp us clock)=>gZ rs cs∧Fv rs us∧C (.dr [(uu us (.agg cs) z clock).1,.v (.int .i64 ((uu us (.agg cs) z clock).2.1:Nat))]) (s.set l (.mp (uu us (.agg cs) z clock).2.2.1 (uu us (.agg cs) z clock).2.2.2))
  | _=>False
 | _,_=>False
theorem ae8 {rs:List (Nat×CK)}{z:AV}{x k:Operand}:G P (.El rs z x k) f s Kv=afT rs z s (ev f x) (ev f k) (jX Kv ()):=rfl
def a14 (s:Hp) (x i v:AV) (C:Hp→Prop):Prop:=
 match x,i with
 | .qS l,.v (.int _ b)=>match s l with
  |some (.mp us clock)=>match FC us b with
   |some j=>C (s.set l (.mp (us.modify j fun u=>(u.1,v,u.2.2)) clock))
   |none=>False
  | _=>False
 | _,_=>False
theorem afU {x i v:Operand}:G P (.Et x i v) f s Kv=a14 s (ev f x) (ev f i) (ev f v) (fj (fun s'=>Kv (.dr []) s') ()):=by
 simp only[G,a14];generalize ev f x=a;generalize ev f i=b
 cases a<;>first
  |rfl
  |(cases b<;>first|rfl|(rename_i u;cases u<;>rfl))
end
theorem a6R {a b:List UInt8}:Ix .neq (vL a) (vL b)=some (.v (.bool (!decide (a=b)))):=by
 simp only[vL,RN,Ze a b]
 by_cases h:a=b<;>simp[h]
theorem XI {a b:List UInt8}:Ix .eql (vL a) (vL b)=some (.v (.bool (decide (a=b)))):=by
 simp only[vL,RN,Zd a b];rfl
theorem a4N {s:Hp}{bs:List UInt8}{o:Own}:Kx s (.sl (bs.map bN) o)=some (vL bs):=a8a a5s
theorem JS {bs:List UInt8}{o:Own}:CV (.sl (bs.map bN) o)=some (vL bs):=Yq
theorem Kn {P:Program}{g:FuncId}{args:List AV}{s:Hp}{R:AV→Hp→Prop} (h:(∀xs,AV.sl xs .nil∈args→xs= [])→AC P g args s R):AC P g args s R:=fun vs w H ha hs=>by
 refine h (fun xs hx=> ?_) vs w H ha hs
 obtain⟨j,hj,he⟩:=List.getElem_of_mem hx
 have hv:=ha.2 j _ (by rw[List.getElem?_eq_getElem hj,he])
 generalize vs.getD j undef=v at hv
 cases hv with
 |jo=>rfl
 |sl b off len cap k fW xs o hk hlen ft gr db hH hR ho=>exact ho.elim
def rP:=
 And.intro @afQ<|
 And.intro @afR<|
 And.intro @afS<|
 And.intro @ae8<|
 @afU
def rQ:=
 And.intro @a6R<|
 And.intro @XI<|
 And.intro @a4N<|
 @JS
def rA:=And.intro rD (And.intro rF (And.intro rK rP))
def rZ:=And.intro rU<|And.intro rX<|And.intro rG<|And.intro rM rQ
attribute [go_sem ↓] rA
attribute [go_sem] rZ List.drop_succ_cons ne_eq not_true_eq_false not_false_eq_true List.getElem?_cons_zero List.getElem?_cons_succ ev ofConst gS
theorem sr {A C D:Prop} (a:A) (h:D) (e:A→C=D:=by intro x;simp -dsimp -implicitDefEqProofs (disch:=first|omega|assumption|(simp only[rL,Nat.reduceAdd];try omega)) only[go_sem,simprocAttr,-List.reduceReplicate,x];rfl):C:=(e a).mpr h
theorem dD {C D:Prop} (h:D) (e:C=D:=by simp -dsimp -implicitDefEqProofs (disch:=first|omega|assumption|(simp only[rL,Nat.reduceAdd];try omega)) only[go_sem,simprocAttr,-List.reduceReplicate];rfl):C:=e.mpr h
theorem sq {A C D:Prop} (a:A) (h:D) (e:A→C=D:=by intro x;simp -dsimp -implicitDefEqProofs (disch:=first|omega|assumption|(simp only[rL,Nat.reduceAdd];try omega)) only[go_sem,simprocAttr,x];rfl):C:=(e a).mpr h
theorem nT {C D:Prop} (h:D) (e:C=D:=by simp -dsimp -implicitDefEqProofs (disch:=first|omega|assumption|(simp only[rL,Nat.reduceAdd];try omega)) only[go_sem,simprocAttr];rfl):C:=e.mpr h
theorem sz {A C:Prop} (a:A) (e:A→C=True:=by intro x;simp -dsimp -implicitDefEqProofs (disch:=first|omega|assumption|(simp only[rL,Nat.reduceAdd];try omega)) only[go_sem,simprocAttr,-List.reduceReplicate,x]):C:=of_eq_true (e a)
theorem nE {C:Prop} (e:C=True:=by simp -dsimp -implicitDefEqProofs (disch:=first|omega|assumption|(simp only[rL,Nat.reduceAdd];try omega)) only[go_sem,simprocAttr,-List.reduceReplicate]):C:=of_eq_true e
theorem sy {A C:Prop} (a:A) (e:A→C=True:=by intro x;simp -dsimp -implicitDefEqProofs (disch:=first|omega|assumption|(simp only[rL,Nat.reduceAdd];try omega)) only[go_sem,simprocAttr,x]):C:=of_eq_true (e a)
theorem TT {C:Prop} (e:C=True:=by simp -dsimp -implicitDefEqProofs (disch:=first|omega|assumption|(simp only[rL,Nat.reduceAdd];try omega)) only[go_sem,simprocAttr]):C:=of_eq_true e
theorem c2 {A B:Prop} (a:A) (b:B):A∧B:=⟨a,b⟩
theorem c3 {A B C:Prop} (a:A) (b:B) (c:C):A∧B∧C:=⟨a,b,c⟩
theorem c4 {A B C D:Prop} (a:A) (b:B) (c:C) (d:D):A∧B∧C∧D:=⟨a,b,c,d⟩
theorem c5 {A B C D E:Prop} (a:A) (b:B) (c:C) (d:D) (e:E):A∧B∧C∧D∧E:=⟨a,b,c,d,e⟩
theorem c6 {A B C D E F:Prop} (a:A) (b:B) (c:C) (d:D) (e:E) (f:F):A∧B∧C∧D∧E∧F:=⟨a,b,c,d,e,f⟩
theorem c7 {A B C D E F G:Prop} (a:A) (b:B) (c:C) (d:D) (e:E) (f:F) (g:G):A∧B∧C∧D∧E∧F∧G:=⟨a,b,c,d,e,f,g⟩
theorem c8 {A B C D E F G H:Prop} (a:A) (b:B) (c:C) (d:D) (e:E) (f:F) (g:G) (h:H):A∧B∧C∧D∧E∧F∧G∧H:=⟨a,b,c,d,e,f,g,h⟩
theorem c9 {A B C D E F G H I:Prop} (a:A) (b:B) (c:C) (d:D) (e:E) (f:F) (g:G) (h:H) (i:I):A∧B∧C∧D∧E∧F∧G∧H∧I:=⟨a,b,c,d,e,f,g,h,i⟩
theorem gP {A B C D E F G H I J:Prop} (a:A) (b:B) (c:C) (d:D) (e:E) (f:F) (g:G) (h:H) (i:I) (j:J):A∧B∧C∧D∧E∧F∧G∧H∧I∧J:=⟨a,b,c,d,e,f,g,h,i,j⟩
theorem kg {A B C D E F G H I J K:Prop} (a:A) (b:B) (c:C) (d:D) (e:E) (f:F) (g:G) (h:H) (i:I) (j:J) (k:K):A∧B∧C∧D∧E∧F∧G∧H∧I∧J∧K:=⟨a,b,c,d,e,f,g,h,i,j,k⟩
theorem oS {A B C D E F G H I J K L:Prop} (a:A) (b:B) (c:C) (d:D) (e:E) (f:F) (g:G) (h:H) (i:I) (j:J) (k:K) (l:L):A∧B∧C∧D∧E∧F∧G∧H∧I∧J∧K∧L:=⟨a,b,c,d,e,f,g,h,i,j,k,l⟩
theorem qE {A B C D E F G H I J K L M:Prop} (a:A) (b:B) (c:C) (d:D) (e:E) (f:F) (g:G) (h:H) (i:I) (j:J) (k:K) (l:L) (m:M):A∧B∧C∧D∧E∧F∧G∧H∧I∧J∧K∧L∧M:=⟨a,b,c,d,e,f,g,h,i,j,k,l,m⟩
theorem qF {A B C D E F G H I J K L M N:Prop} (a:A) (b:B) (c:C) (d:D) (e:E) (f:F) (g:G) (h:H) (i:I) (j:J) (k:K) (l:L) (m:M) (n:N):A∧B∧C∧D∧E∧F∧G∧H∧I∧J∧K∧L∧M∧N:=⟨a,b,c,d,e,f,g,h,i,j,k,l,m,n⟩
theorem Gr {A B C D E F G H I J K L M N O:Prop} (a:A) (b:B) (c:C) (d:D) (e:E) (f:F) (g:G) (h:H) (i:I) (j:J) (k:K) (l:L) (m:M) (n:N) (o:O):A∧B∧C∧D∧E∧F∧G∧H∧I∧J∧K∧L∧M∧N∧O:=⟨a,b,c,d,e,f,g,h,i,j,k,l,m,n,o⟩
theorem J3 {A B C D E F G H I J K L M N O P:Prop} (a:A) (b:B) (c:C) (d:D) (e:E) (f:F) (g:G) (h:H) (i:I) (j:J) (k:K) (l:L) (m:M) (n:N) (o:O) (p:P):A∧B∧C∧D∧E∧F∧G∧H∧I∧J∧K∧L∧M∧N∧O∧P:=⟨a,b,c,d,e,f,g,h,i,j,k,l,m,n,o,p⟩
theorem Gs {A B C D E F G H I J K L M N O P Q:Prop} (a:A) (b:B) (c:C) (d:D) (e:E) (f:F) (g:G) (h:H) (i:I) (j:J) (k:K) (l:L) (m:M) (n:N) (o:O) (p:P) (q:Q):A∧B∧C∧D∧E∧F∧G∧H∧I∧J∧K∧L∧M∧N∧O∧P∧Q:=⟨a,b,c,d,e,f,g,h,i,j,k,l,m,n,o,p,q⟩
theorem OD {A B C D E F G H I J K L M N O P Q R:Prop} (a:A) (b:B) (c:C) (d:D) (e:E) (f:F) (g:G) (h:H) (i:I) (j:J) (k:K) (l:L) (m:M) (n:N) (o:O) (p:P) (q:Q) (r:R):A∧B∧C∧D∧E∧F∧G∧H∧I∧J∧K∧L∧M∧N∧O∧P∧Q∧R:=⟨a,b,c,d,e,f,g,h,i,j,k,l,m,n,o,p,q,r⟩
theorem c19 {A B C D E F G H I J K L M N O P Q R S:Prop} (a:A) (b:B) (c:C) (d:D) (e:E) (f:F) (g:G) (h:H) (i:I) (j:J) (k:K) (l:L) (m:M) (n:N) (o:O) (p:P) (q:Q) (r:R) (s:S):A∧B∧C∧D∧E∧F∧G∧H∧I∧J∧K∧L∧M∧N∧O∧P∧Q∧R∧S:=⟨a,b,c,d,e,f,g,h,i,j,k,l,m,n,o,p,q,r,s⟩
theorem c20 {A B C D E F G H I J K L M N O P Q R S T:Prop} (a:A) (b:B) (c:C) (d:D) (e:E) (f:F) (g:G) (h:H) (i:I) (j:J) (k:K) (l:L) (m:M) (n:N) (o:O) (p:P) (q:Q) (r:R) (s:S) (t:T):A∧B∧C∧D∧E∧F∧G∧H∧I∧J∧K∧L∧M∧N∧O∧P∧Q∧R∧S∧T:=⟨a,b,c,d,e,f,g,h,i,j,k,l,m,n,o,p,q,r,s,t⟩
theorem Lw {A B C D E F G H I J K L M N O P Q R S T U V W:Prop} (a:A) (b:B) (c:C) (d:D) (e:E) (f:F) (g:G) (h:H) (i:I) (j:J) (k:K) (l:L) (m:M) (n:N) (o:O) (p:P) (q:Q) (r:R) (s:S) (t:T) (u:U) (v:V) (w:W):A∧B∧C∧D∧E∧F∧G∧H∧I∧J∧K∧L∧M∧N∧O∧P∧Q∧R∧S∧T∧U∧V∧W:=⟨a,b,c,d,e,f,g,h,i,j,k,l,m,n,o,p,q,r,s,t,u,v,w⟩
theorem c24 {A B C D E F G H I J K L M N O P Q R S T U V W X:Prop} (a:A) (b:B) (c:C) (d:D) (e:E) (f:F) (g:G) (h:H) (i:I) (j:J) (k:K) (l:L) (m:M) (n:N) (o:O) (p:P) (q:Q) (r:R) (s:S) (t:T) (u:U) (v:V) (w:W) (x:X):A∧B∧C∧D∧E∧F∧G∧H∧I∧J∧K∧L∧M∧N∧O∧P∧Q∧R∧S∧T∧U∧V∧W∧X:=⟨a,b,c,d,e,f,g,h,i,j,k,l,m,n,o,p,q,r,s,t,u,v,w,x⟩
end Go.Av
set_option maxRecDepth 100000
namespace Go.Proofs.YtonldhgdjjfahaaGreat
open Go Go.Av
def rotl (x:UInt32) (n:Nat):UInt32:=x<<<UInt32.ofNat n|||x>>>UInt32.ofNat (32 - n)
theorem afV (n:Nat) (h:0<n∧n<32):eL .and (.int .u64 (IntKind.u64.wrap (-((32 - n:Nat):Int)))) (.int .u64 31)=some (.int .u64 n):=by
 have key: ∀n:Fin 32,0<n.val→IntKind.u64.wrap (BitVec.ofInt IntKind.u64.bits (IntKind.u64.wrap (-((32 - n.val:Nat):Int)))&&&BitVec.ofInt IntKind.u64.bits 31).toNat=(n.val:Int):=by decide
 have:=key ⟨n,h.2⟩ h.1
 simp only[eL,pX,uk,this];rfl
theorem a6S (x:UInt32) (n:Nat) (h:0<n∧n<32) (s:Hp):AC Tryz.prog 200 [.v (.int .u32 x.toNat),.v (.int .i64 (-((32 - n:Nat):Int)))] s fun r s'=>s'=s∧r= .v (.int .u32 (rotl x n).toNat):=by
 refine cR hm aax (by simp) ?_
 refine sq (afV n h) ?_
 refine⟨s,Hp.aH,rfl,?_⟩
 have e:((32:Int) -(n:Int)).toNat=32 - n:=by omega
 rw[e];simp[rotl]
theorem Bs (x:UInt32) (k:Int) (n:Nat) (h:0<n∧n<32) (hk:k= -((32 - n:Nat):Int)) (s:Hp):AC Tryz.prog 200 [.v (.int .u32 x.toNat),.v (.int .i64 k)] s fun r s'=>s'=s∧r= .v (.int .u32 (rotl x n).toNat):=by
 subst hk;exact a6S x n h s
def word (bs:List UInt8) (i:Nat):UInt32:=(bs.getD (4*i) 0).toUInt32<<<24|||(bs.getD (4*i+1) 0).toUInt32<<<16|||(bs.getD (4*i+2) 0).toUInt32<<<8|||(bs.getD (4*i+3) 0).toUInt32
def ahU (x:UInt32):UInt32:=rotl x 25^^^rotl x 14^^^x>>>3
def ahV (x:UInt32):UInt32:=rotl x 15^^^rotl x 13^^^x>>>10
def more (w:List UInt32):List UInt32:=w++ [w.getD (w.length - 16) 0+ahU (w.getD (w.length - 15) 0)+w.getD (w.length - 7) 0+ahV (w.getD (w.length - 2) 0)]
def first (bs:List UInt8) (n:Nat):List UInt32:=(List.range n).map (word bs)
def grow:Nat→List UInt32→List UInt32
 |0,w=>w
 |n+1,w=>grow n (more w)
def sched (bs:List UInt8):List UInt32:=grow 48 (first bs 16)
def um (w:List UInt32):List AV:=w.map (fun x=> .v (.int .u32 x.toNat))++List.replicate (64 - w.length) (.v (.int .u32 0))
theorem a5x:um []=List.replicate 64 (.v (.int .u32 0)):=by simp[um]
theorem Q6 {w:List UInt32} (h:w.length≤64):(um w).length=64:=by simp[um];omega
theorem X1 {w:List UInt32}{i:Nat} (x:UInt32) (h:i=w.length) (h2:w.length<64):putAt (um w) i [.v (.int .u32 x.toNat)]=um (w++ [x]):=by
 subst h
 have e:64 - w.length=(64 -(w.length+1))+1:=by omega
 simp only[putAt,um,e,List.replicate_succ]
 simp[List.take_append,List.drop_append]
theorem JW {w:List UInt32}{i:Nat} (h:i<w.length):cK false 1 ((um w).drop i)= .v (.int .u32 (w.getD i 0).toNat):=by
 simp only[cK,um]
 rw[List.drop_append_of_le_length (by simp;omega),←List.map_drop,List.drop_eq_getElem_cons h]
 simp[List.getD,h]
theorem a5y (bs:List UInt8) (o:Own) (h:bs.length=64) (s:Hp):AC Tryz.prog 198 [.sl (bs.map bN) o] s fun r s'=>s'=s∧r= .agg ((sched bs).map fun x=> .v (.int .u32 x.toNat)):=by
 refine cR hm aav (by simp) ?_
 refine nT ?_
 refine cP fun l2 h2=> ?_
 refine nT ?_
 refine cP fun l3 h3=> ?_
 obtain⟨qG,h3⟩:=Hp.vD h3
 refine nT ?_
 refine fS (fun f s'=> ∃i:Nat,i≤16∧f 0= .sl (bs.map bN) o∧f 2= .ptr l2 0∧f 3= .ptr l3 0∧f 10= .v (.int .i64 i)∧s'=(s.set l2 (.cells (List.replicate 64 (.v (.int .u32 0))))).set l3 (.cells (um (first bs i))))
  (fun f _=>match f 10 with| .v (.int _ n)=>(16 - n).toNat| _=>0) ⟨0,by omega,?_⟩ ?_
 ·simp -dsimp -implicitDefEqProofs (disch:=first|omega|assumption|(simp only[rL,Nat.reduceAdd];try omega)) only[go_sem,↓reduceIte,Nat.reduceEqDiff,Nat.reduceAdd,Nat.reduceSub,Nat.reduceMul,Nat.reduceLeDiff,Nat.reduceLT,Int.reduceNeg,Int.reduceToNat,Int.reduceAdd,Int.reduceSub,Int.reduceMul,Int.reduceLT,Int.reduceLE,Int.reduceEq,Int.reduceNe,first,List.range_zero,a5x]
  all_goals (simp)
 ·rintro f s' ⟨i,hi,f0,f2,f3,f10,rfl⟩
  have hlen:(first bs i).length=i:=by simp[first]
  by_cases aW:(i:Int)<16
  ·have hl:(um (first bs i)).length=64:=Q6 (by omega)
   have e0:(4*(i:Int)).toNat=4*i:=by omega
   have e1:(4*(i:Int)+1).toNat=4*i+1:=by omega
   have e2:(4*(i:Int)+2).toNat=4*i+2:=by omega
   have e3:(4*(i:Int)+3).toNat=4*i+3:=by omega
   have hs:(i:Int).toNat+1≤64:=by omega
   refine sq (kg @f0 @f2 @f3 @f10 @aW @hl @h @e0 @e1 @e2 @e3) ?_
   rw[X1 _ hlen.symm (by omega)]
   refine⟨⟨i+1,by omega,by simp,?_⟩,by omega⟩
   simp only[first,List.range_succ,List.map_append,List.map_cons,List.map_nil];rfl
  ·obtain rfl:i=16:=by omega
   refine sq (c5 @f0 @f2 @f3 @f10 @aW) ?_
   refine fS (fun f s'=> ∃(w:List UInt32) (i:Nat),i≤48∧w.length=16+i∧grow (48 - i) w=sched bs∧f 2= .ptr l2 0∧f 3= .ptr l3 0∧f 5= .v (.int .i64 ((16+i:Nat):Int))∧s'=(s.set l2 (.cells (List.replicate 64 (.v (.int .u32 0))))).set l3 (.cells (um w)))
    (fun f _=>match f 5 with| .v (.int _ n)=>(64 - n).toNat| _=>0) ⟨first bs 16,0,by omega,hlen,rfl,?_⟩ ?_
   ·simp -dsimp -implicitDefEqProofs (disch:=first|omega|assumption|(simp only[rL,Nat.reduceAdd];try omega)) only[go_sem,↓reduceIte,Nat.reduceEqDiff,Nat.reduceAdd,Nat.reduceSub,Nat.reduceMul,Nat.reduceLeDiff,Nat.reduceLT,Int.reduceNeg,Int.reduceToNat,Int.reduceAdd,Int.reduceSub,Int.reduceMul,Int.reduceLT,Int.reduceLE,Int.reduceEq,Int.reduceNe,f2,f3,grow]
    rfl
   ·rintro f s' ⟨w,i,hi,hw,hg,f2,f3,f5,rfl⟩
    by_cases aW:((16+i:Nat):Int)<64
    ·have hl:(um w).length=64:=Q6 (by omega)
     have e1:(((16+i:Nat):Int) - 15).toNat=i+1:=by omega
     have e2:(((16+i:Nat):Int) - 2).toNat=i+14:=by omega
     have e3:(((16+i:Nat):Int) - 16).toNat=i:=by omega
     have e4:(((16+i:Nat):Int) - 7).toNat=i+9:=by omega
     refine sq (gP @f2 @f3 @f5 @aW @e1 @e2 @e3 @e4 @hl @JW) ?_
     refine bC (Bs _ _ 25 (by decide) (by decide) _) ?_
     rintro _ _ ⟨rfl,rfl⟩
     refine sq (gP @f2 @f3 @f5 @aW @e1 @e2 @e3 @e4 @hl @JW) ?_
     refine bC (Bs _ _ 14 (by decide) (by decide) _) ?_
     rintro _ _ ⟨rfl,rfl⟩
     refine sq (gP @f2 @f3 @f5 @aW @e1 @e2 @e3 @e4 @hl @JW) ?_
     refine bC (Bs _ _ 15 (by decide) (by decide) _) ?_
     rintro _ _ ⟨rfl,rfl⟩
     refine sq (gP @f2 @f3 @f5 @aW @e1 @e2 @e3 @e4 @hl @JW) ?_
     refine bC (Bs _ _ 13 (by decide) (by decide) _) ?_
     rintro _ _ ⟨rfl,rfl⟩
     refine sq (gP @f2 @f3 @f5 @aW @e1 @e2 @e3 @e4 @hl @JW) ?_
     rw[X1 _ hw.symm (by omega)]
     refine⟨⟨_,i+1,by omega,by simp[hw];omega,?_,?_,rfl⟩,by omega⟩
     ·rw[←hg,show 48 - i=(48 -(i+1))+1 by omega,grow,more,hw]
      rw[show 16+i - 16=i by omega,show 16+i - 15=i+1 by omega,show 16+i - 7=i+9 by omega,show 16+i - 2=i+14 by omega]
      rfl
     ·simp;omega
    ·obtain rfl:i=48:=by omega
     have hl:(um w).length=64:=Q6 (by omega)
     have ht:(um w).take 64=w.map fun x=> .v (.int .u32 x.toNat):=by
      have:um w=w.map fun x=> .v (.int .u32 x.toNat):=by simp[um,hw]
      rw[this];exact List.take_of_length_le (by simp[hw])
     have TU:w=sched bs:=hg
     refine sq (c7 @f2 @f3 @f5 @aW @hl @ht @hw) ?_
     exact⟨s,Hp.bT (Hp.bT Hp.aH h2) h3,rfl,by rw[List.take_of_length_le (by simp[hw]),TU]⟩
def wl (w:List UInt32):List AV:=w.map fun x=> .v (.int .u32 x.toNat)
theorem sN {w:List UInt32}:(wl w).length=w.length:=by simp[wl]
theorem BH {w:List UInt32}{i:Nat} (h:i<w.length):cK false 1 ((wl w).drop i)= .v (.int .u32 (w.getD i 0).toNat):=by
 simp only[cK,wl]
 rw[←List.map_drop,List.drop_eq_getElem_cons h]
 simp[List.getD,h]
theorem Fz {w:List UInt32} (h:0<w.length):cK false 1 (wl w)= .v (.int .u32 (w.getD 0 0).toNat):=BH (i:=0) h
theorem ae9 {w:List UInt32}{i:Nat} (x:UInt32) (h:i<w.length):putAt (wl w) i [.v (.int .u32 x.toNat)]=wl (w.set i x):=by
 simp only[putAt,wl,List.length_cons,List.length_nil,←List.map_take,←List.map_drop]
 rw[List.set_eq_take_append_cons_drop,if_pos h];simp
def SP:List UInt32:= [
 0x428a2f98,0x71374491,0xb5c0fbcf,0xe9b5dba5,0x3956c25b,0x59f111f1,0x923f82a4,0xab1c5ed5,
 0xd807aa98,0x12835b01,0x243185be,0x550c7dc3,0x72be5d74,0x80deb1fe,0x9bdc06a7,0xc19bf174,
 0xe49b69c1,0xefbe4786,0x0fc19dc6,0x240ca1cc,0x2de92c6f,0x4a7484aa,0x5cb0a9dc,0x76f988da,
 0x983e5152,0xa831c66d,0xb00327c8,0xbf597fc7,0xc6e00bf3,0xd5a79147,0x06ca6351,0x14292967,
 0x27b70a85,0x2e1b2138,0x4d2c6dfc,0x53380d13,0x650a7354,0x766a0abb,0x81c2c92e,0x92722c85,
 0xa2bfe8a1,0xa81a664b,0xc24b8b70,0xc76c51a3,0xd192e819,0xd6990624,0xf40e3585,0x106aa070,
 0x19a4c116,0x1e376c08,0x2748774c,0x34b0bcb5,0x391c0cb3,0x4ed8aa4a,0x5b9cca4f,0x682e6ff3,
 0x748f82ee,0x78a5636f,0x84c87814,0x8cc70208,0x90befffa,0xa4506ceb,0xbef9a3f7,0xc67178f2]
def z8:List UInt32:= [0x6a09e667,0xbb67ae85,0x3c6ef372,0xa54ff53a,0x510e527f,0x9b05688c,0x1f83d9ab,0x5be0cd19]
theorem Qr (s:Hp):AC Tryz.prog 193 [] s fun r s'=>s'=s∧r= .agg (wl z8):=by
 refine cR hm aaq (by simp) ?_
 refine nT ?_
 refine cP fun l h=> ?_
 simp -dsimp -implicitDefEqProofs (disch:=first|omega|assumption|(simp only[rL,Nat.reduceAdd];try omega)) only[go_sem,simprocAttr,putAt,List.take,List.drop,List.replicate,List.cons_append,List.nil_append]
 exact⟨s,Hp.bT Hp.aH h,rfl,rfl⟩
theorem a4O (s:Hp):AC Tryz.prog 199 [] s fun r s'=>s'=s∧r= .agg (wl SP):=by
 refine cR hm aaw (by simp) ?_
 refine nT ?_
 refine cP fun l h=> ?_
 simp -dsimp -implicitDefEqProofs (disch:=first|omega|assumption|(simp only[rL,Nat.reduceAdd];try omega)) only[go_sem,simprocAttr,putAt,List.take,List.drop,List.replicate,List.cons_append,List.nil_append]
 exact⟨s,Hp.bT Hp.aH h,rfl,rfl⟩
def OE (k w:UInt32):List UInt32→List UInt32
 | [a,b,c,d,e,f,g,h]=>
  let one:=h+(rotl e 26^^^rotl e 21^^^rotl e 7)+(e&&&f^^^ ~~~e&&&g)+k+w
  let two:=(rotl a 30^^^rotl a 19^^^rotl a 10)+(a&&&b^^^a&&&c^^^b&&&c)
  [one+two,a,b,c,d+one,e,f,g]
 |l=>l
def y9:List UInt32→List UInt32→List UInt32→List UInt32
 |k::ks,w::ws,v=>y9 ks ws (OE k w v)
 | _,_,v=>v
def comp (h:List UInt32) (bs:List UInt8):List UInt32:=List.zipWith (·+ ·) (y9 SP (sched bs) h) h
def Eb (i:Nat) (v h:List UInt32):List UInt32:=List.zipWith (·+ ·) (v.take i) (h.take i)++v.drop i
theorem Wy: ∀(n:Nat) (w:List UInt32),(grow n w).length=w.length+n
 |0,w=>rfl
 |n+1,w=>by rw[grow,Wy n,more];simp;omega
theorem a4h (bs:List UInt8):(sched bs).length=64:=by simp[sched,Wy,first]
theorem a4P (bs:List UInt8) (o:Own) (h:bs.length=64) (s:Hp):AC Tryz.prog 198 [.sl (bs.map bN) o] s fun r s'=>s'=s∧r= .agg (wl (sched bs)):=a5y bs o h s
theorem a6T (v h:List UInt32) (hv:v.length=8) (hh:h.length=8) (i:Nat) (hi:i<8):
  (Eb i v h).length=8∧(Eb i v h).set i ((Eb i v h).getD i 0+h.getD i 0)=Eb (i+1) v h:=by
 match v,hv,h,hh with
 | [a,b,c,d,e,f,g,k],_,[p,q,r,t,u,w,x,y],_=>
  rcases (by omega:i=0∨i=1∨i=2∨i=3∨i=4∨i=5∨i=6∨i=7)with rfl|rfl|rfl|rfl|rfl|rfl|rfl|rfl<;>exact⟨rfl,rfl⟩
theorem a5z (k w:UInt32) (v:List UInt32) (h:v.length=8):(OE k w v).length=8:=by
 match v,h with
 | [a,b,c,d,e,f,g,k],_=>rfl
theorem X3: ∀(ks ws v:List UInt32),v.length=8→(y9 ks ws v).length=8
 | [],_,v,h=>by simpa[y9] using h
 | _:: _,[],v,h=>by simpa[y9] using h
 |k::ks,w::ws,v,h=>by rw[y9];exact X3 ks ws _ (a5z k w v h)
theorem a8j (ks ws v:List UInt32) (i:Nat) (h:i<ks.length) (h2:i<ws.length):y9 (ks.drop i) (ws.drop i) v=y9 (ks.drop (i+1)) (ws.drop (i+1)) (OE (ks.getD i 0) (ws.getD i 0) v):=by
 rw[List.drop_eq_getElem_cons h,List.drop_eq_getElem_cons h2,y9];simp[List.getD,h,h2]
theorem a8k (h K S:List UInt32) (bs:List UInt8) (o:Own) (hh:h.length=8) (ahW:K.length=64) (ahX:S.length=64)
  (Dl: ∀s,AC Tryz.prog 199 [] s fun r s'=>s'=s∧r= .agg (wl K))
  (xh: ∀s,AC Tryz.prog 198 [.sl (bs.map bN) o] s fun r s'=>s'=s∧r= .agg (wl S)) (s:Hp):
  AC Tryz.prog 194 [.agg (wl h),.sl (bs.map bN) o] s fun r s'=>s'=s∧r= .agg (wl (List.zipWith (·+ ·) (y9 K S h) h)):=by
 refine cR hm aar (by simp) ?_
 have Dn:(wl h).length=8:=by rw[sN,hh]
 have fL:(wl K).length=64:=by rw[sN,ahW]
 have qi:(wl S).length=64:=by rw[sN,ahX]
 refine sq @Dn ?_
 refine cP fun l2 n2=> ?_
 refine sq @Dn ?_
 refine cP fun l4 n4=> ?_
 obtain⟨d42,n4⟩:=Hp.vD n4
 refine sq @Dn ?_
 refine bC (xh _) ?_
 rintro _ _ ⟨rfl,rfl⟩
 refine sq @Dn ?_
 refine bC (Dl _) ?_
 rintro _ _ ⟨rfl,rfl⟩
 refine sq @Dn ?_
 refine cP fun l5 n5=> ?_
 obtain⟨d54,n5⟩:=Hp.vD n5
 obtain⟨d52,n5⟩:=Hp.vD n5
 refine sq @Dn ?_
 refine cP fun l6 n6=> ?_
 obtain⟨d65,n6⟩:=Hp.vD n6
 obtain⟨d64,n6⟩:=Hp.vD n6
 obtain⟨d62,n6⟩:=Hp.vD n6
 refine sq @Dn ?_
 refine cP fun l7 n7=> ?_
 obtain⟨d76,n7⟩:=Hp.vD n7
 obtain⟨d75,n7⟩:=Hp.vD n7
 obtain⟨d74,n7⟩:=Hp.vD n7
 obtain⟨d72,n7⟩:=Hp.vD n7
 refine sq (c4 @Dn @fL @qi @List.take_of_length_le.{0}) ?_
 refine fS (fun f s'=> ∃(i:Nat) (v:List UInt32),i≤64∧v.length=8∧y9 (K.drop i) (S.drop i) v=y9 K S h∧f 2= .ptr l2 0∧f 4= .ptr l4 0∧f 5= .ptr l5 0∧f 6= .ptr l6 0∧f 7= .ptr l7 0∧f 18= .v (.int .i64 i)∧
   s'=(((((s.set l2 (.cells (wl h))).set l4 (.cells (List.replicate 8 (.v (.int .u32 0))))).set l5 (.cells (wl S))).set l6 (.cells (wl K))).set l7 (.cells (wl v))))
  (fun f _=>match f 18 with| .v (.int _ n)=>(64 - n).toNat| _=>0) ⟨0,h,by omega,hh,rfl,?_⟩ ?_
 ·exact TT
  all_goals (trivial)
 ·rintro f s' ⟨i,v,hi,hv,hg,f2,f4,f5,f6,f7,f18,rfl⟩
  have nk:(wl v).length=8:=by rw[sN,hv]
  by_cases aW:(i:Int)<64
  ·obtain⟨a,b,c,d,e,f',g,k',rfl⟩: ∃a b c d e f' g k',v= [a,b,c,d,e,f',g,k']:=by
    match v,hv with
    | [a,b,c,d,e,f',g,k'],_=>exact⟨a,b,c,d,e,f',g,k',rfl⟩
   refine sq (qF @f2 @f4 @f5 @f6 @f7 @f18 @aW @nk @fL @qi @BH @Fz @List.getD_cons_zero.{0} @List.getD_cons_succ.{0}) ?_
   refine bC (Bs _ _ 26 (by decide) (by decide) _) ?_
   rintro _ _ ⟨rfl,rfl⟩
   refine sq (qF @f2 @f4 @f5 @f6 @f7 @f18 @aW @nk @fL @qi @BH @Fz @List.getD_cons_zero.{0} @List.getD_cons_succ.{0}) ?_
   refine bC (Bs _ _ 21 (by decide) (by decide) _) ?_
   rintro _ _ ⟨rfl,rfl⟩
   refine sq (qF @f2 @f4 @f5 @f6 @f7 @f18 @aW @nk @fL @qi @BH @Fz @List.getD_cons_zero.{0} @List.getD_cons_succ.{0}) ?_
   refine bC (Bs _ _ 7 (by decide) (by decide) _) ?_
   rintro _ _ ⟨rfl,rfl⟩
   refine sq (qF @f2 @f4 @f5 @f6 @f7 @f18 @aW @nk @fL @qi @BH @Fz @List.getD_cons_zero.{0} @List.getD_cons_succ.{0}) ?_
   refine bC (Bs _ _ 30 (by decide) (by decide) _) ?_
   rintro _ _ ⟨rfl,rfl⟩
   refine sq (qF @f2 @f4 @f5 @f6 @f7 @f18 @aW @nk @fL @qi @BH @Fz @List.getD_cons_zero.{0} @List.getD_cons_succ.{0}) ?_
   refine bC (Bs _ _ 19 (by decide) (by decide) _) ?_
   rintro _ _ ⟨rfl,rfl⟩
   refine sq (qF @f2 @f4 @f5 @f6 @f7 @f18 @aW @nk @fL @qi @BH @Fz @List.getD_cons_zero.{0} @List.getD_cons_succ.{0}) ?_
   refine bC (Bs _ _ 10 (by decide) (by decide) _) ?_
   rintro _ _ ⟨rfl,rfl⟩
   simp -dsimp -implicitDefEqProofs (disch:=first|omega|assumption|(simp only[rL,Nat.reduceAdd];try omega)) only[go_sem,↓reduceIte,Nat.reduceEqDiff,Nat.reduceAdd,Nat.reduceSub,Nat.reduceMul,Nat.reduceLeDiff,Nat.reduceLT,Int.reduceNeg,Int.reduceToNat,Int.reduceAdd,Int.reduceSub,Int.reduceMul,Int.reduceLT,Int.reduceLE,Int.reduceEq,Int.reduceNe,f2,f4,f5,f6,f7,f18,aW,nk,fL,qi,BH,Fz,List.getD_cons_zero,List.getD_cons_succ,putAt,List.take,List.drop,List.replicate,List.cons_append,List.nil_append]
   refine⟨⟨i+1,OE (K.getD i 0) (S.getD i 0) [a,b,c,d,e,f',g,k'],by omega,rfl,?_,by simp,rfl⟩,by omega⟩
   rw[←hg,a8j K S _ i (by omega) (by omega)]
  ·obtain rfl:i=64:=by omega
   have hv':y9 K S h=v:=by
    rw[←hg,List.drop_of_length_le (by omega)];rfl
   refine sq (gP @f2 @f4 @f5 @f6 @f7 @f18 @aW @nk @fL @qi) ?_
   refine fS (fun f s'=> ∃i:Nat,i≤8∧f 2= .ptr l2 0∧f 4= .ptr l4 0∧f 7= .ptr l7 0∧f 108= .v (.int .i64 i)∧
     s'=(((((s.set l2 (.cells (wl h))).set l4 (.cells (List.replicate 8 (.v (.int .u32 0))))).set l5 (.cells (wl S))).set l6 (.cells (wl K))).set l7 (.cells (wl (Eb i v h)))))
    (fun f _=>match f 108 with| .v (.int _ n)=>(8 - n).toNat| _=>0) ⟨0,by omega,?_⟩ ?_
   ·refine sq (c3 @f2 @f4 @f7) ?_
    exact rfl
   ·rintro f s' ⟨i,hi,f2,f4,f7,f108,rfl⟩
    by_cases aW:(i:Int)<8
    ·obtain⟨ha,hb⟩:=a6T v h hv hh i (by omega)
     have lj:(wl (Eb i v h)).length=8:=by rw[sN,ha]
     refine sq (gP @f2 @f4 @f7 @f108 @aW @Dn @lj @BH @ae9 @hb) ?_
     exact⟨⟨i+1,by omega,by simp,rfl⟩,by omega⟩
    ·obtain rfl:i=8:=by omega
     have hz:Eb 8 v h=List.zipWith (·+ ·) v h:=by
      simp only[Eb];rw[List.take_of_length_le (by omega),List.take_of_length_le (by omega),List.drop_of_length_le (by omega),List.append_nil]
     have ye:(wl (List.zipWith (·+ ·) v h)).length=8:=by rw[sN];simp;omega
     rw[hz]
     refine sq (c7 @f2 @f4 @f7 @f108 @aW @ye @List.take_of_length_le.{0}) ?_
     refine⟨s,?_,rfl,by rw[hv']⟩
     exact Hp.bT (Hp.bT (Hp.bT (Hp.bT (Hp.bT Hp.aH n2) n4) n5) n6) n7
theorem XJ (h:List UInt32) (bs:List UInt8) (o:Own) (hh:h.length=8) (hb:bs.length=64) (s:Hp):
  AC Tryz.prog 194 [.agg (wl h),.sl (bs.map bN) o] s fun r s'=>s'=s∧r= .agg (wl (comp h bs)):=
 a8k h SP (sched bs) bs o hh rfl (a4h bs) a4O (a4P bs o hb) s
theorem Qg (h:List UInt32) (bs:List UInt8) (hh:h.length=8):(comp h bs).length=8:=by
 simp[comp,X3 _ _ _ hh,hh]
def bytes (bs:List UInt8) (o:Own):AV:= .sl (bs.map bN) o
def nP (n:Nat):List UInt8:= [UInt8.ofNat (n>>>56),UInt8.ofNat (n>>>48),UInt8.ofNat (n>>>40),UInt8.ofNat (n>>>32),UInt8.ofNat (n>>>24),UInt8.ofNat (n>>>16),UInt8.ofNat (n>>>8),UInt8.ofNat (n>>>0)]
theorem X4 (n:Nat) (s:Hp):AC Tryz.prog 195 [.v (.int .u64 n)] s fun r s'=> ∃o,dx s s' 1 ((nP n).map bN) o∧r= .sl ((nP n).map bN) o:=by
 refine cR hm aas (by simp) ?_
 refine nT ?_
 refine fS (fun f s'=> ∃(j:Nat) (o:Own),j≤8∧dx s s' 1 (((nP n).take j).map bN) o∧f 0= .v (.int .u64 n)∧f 3= .sl (((nP n).take j).map bN) o∧f 4= .v (.int .i64 (56 - 8*(j:Int))))
  (fun f _=>match f 4 with| .v (.int _ n)=>(n+8).toNat| _=>0) ⟨0,.nil,by omega,dx.ahR Hp.aH,?_⟩ ?_
 ·refine nT ?_
  exact rfl
 ·rintro f s' ⟨j,o,hj,ho,f0,f3,f4⟩
  by_cases aW:(0:Int)≤56 - 8*(j:Int)
  ·refine sq (c5 @f0 @f3 @f4 @aW @Fh) ?_
   refine K4 Hp.aH fun o' s1 h1=> ?_
   refine sq (c4 @f0 @f3 @f4 @aW) ?_
   refine QJ (ho.mono h1.sub) (by simp[nP];omega) fun o2 s2 h2=> ?_
   refine sq (c4 @f0 @f3 @f4 @aW) ?_
   refine⟨⟨j+1,o2,by omega,?_,?_⟩,by omega⟩
   ·have e:(nP n).take (j+1)=(nP n).take j++ [UInt8.ofNat (n>>>(56 - 8*(j:Int)).toNat)]:=by
     rcases (by omega:j=0∨j=1∨j=2∨j=3∨j=4∨j=5∨j=6∨j=7)with rfl|rfl|rfl|rfl|rfl|rfl|rfl|rfl<;>rfl
    rw[e];exact h2
   ·have e:(nP n).take (j+1)=(nP n).take j++ [UInt8.ofNat (n>>>(56 - 8*(j:Int)).toNat)]:=by
     rcases (by omega:j=0∨j=1∨j=2∨j=3∨j=4∨j=5∨j=6∨j=7)with rfl|rfl|rfl|rfl|rfl|rfl|rfl|rfl<;>rfl
    refine⟨by rw[e],by simp;omega⟩
  ·obtain rfl:j=8:=by omega
   refine sq (c4 @f0 @f3 @f4 @aW) ?_
   exact⟨s',Hp.aH,o,ho,rfl⟩
def TX (ts:List (List UInt8×Own)):List AV:=ts.map fun p=> .sl (p.1.map bN) p.2
def chunk (t:List UInt8):List UInt8:=nP t.length++t
def preB (tag:UInt8) (ts:List (List UInt8)):List UInt8:=tag::ts.flatMap chunk
theorem Zg (tag:UInt8): ∀ts:List (List UInt8),ts.length<(preB tag ts).length
 | []=>by simp[preB]
 |t::r=>by
  have:=Zg tag r
  simp only[preB,List.length_cons,List.flatMap_cons,List.length_append,chunk,nP,List.length_nil]at this⊢
  omega
theorem a8l (tag:UInt8) (ts:List (List UInt8×Own)) (o:Own) (hlen:(preB tag (ts.map (·.1))).length≤70368744177664) (s:Hp):
  AC Tryz.prog 186 [.v (.int .u8 tag.toNat),.sl (TX ts) o] s fun r s'=> ∃o,dx s s' 1 ((preB tag (ts.map (·.1))).map bN) o∧r= .sl ((preB tag (ts.map (·.1))).map bN) o:=by
 refine cR hm aaj (by simp) ?_
 refine nT ?_
 refine K4 Hp.aH fun o1 s1 h1=> ?_
 refine nT ?_
 refine fS (fun f s'=> ∃(p q:List (List UInt8×Own)) (o':Own),ts=p++q∧dx s s' 1 ((preB tag (p.map (·.1))).map bN) o'∧f 5= .sl ((preB tag (p.map (·.1))).map bN) o'∧f 10= .sl (TX ts) o∧f 11= .v (.int .i64 ts.length)∧f 12= .v (.int .i64 p.length))
  (fun f _=>match f 12 with| .v (.int _ n)=>(ts.length - n).toNat| _=>0) ⟨[],ts,o1,rfl,h1,?_⟩ ?_
 ·refine nT ?_
  exact⟨rfl,by simp[TX]⟩
 ·rintro f s' ⟨p,q,o',rfl,ho,f5,f10,f11,f12⟩
  cases q with
  |nil=>
   have aW: ¬(p.length:Int)<((p++ []).length:Nat):=by simp
   refine sq (c5 @f5 @f10 @f11 @f12 @aW) ?_
   simp only[List.append_nil]at*
   exact⟨s',Hp.aH,o',ho,rfl⟩
  |cons x q=>
   obtain⟨t,ot⟩:=x
   have aW:(p.length:Int)<((p++(t,ot)::q).length:Nat):=by simp;omega
   have he:(TX (p++(t,ot)::q))[p.length]? =some (.sl (t.map bN) ot):=by simp[TX]
   have hb:(preB tag (p.map (·.1))).length+8+t.length≤70368744177664:=by
    refine Nat.le_trans ?_ hlen
    simp[preB,chunk,nP];omega
   have BY:=Zg tag (p.map (·.1))
   rw[List.length_map]at BY
   refine sq (c7 @f5 @f10 @f11 @f12 @aW @he @mN) ?_
   refine bC (X4 t.length _) ?_
   rintro _ s2 ⟨o2,h2,rfl⟩
   refine sq (c7 @f5 @f10 @f11 @f12 @aW @he @mN) ?_
   refine Cy (ho.mono h2.sub) ?_ fun o3 s3 h3=> ?_
   ·simp only[nP,List.length_cons,List.length_nil];omega
   refine sq (c7 @f5 @f10 @f11 @f12 @aW @he @mN) ?_
   refine Cy h3 ?_ fun o4 s4 h4=> ?_
   ·simp only[nP,List.length_append,List.length_cons,List.length_nil];omega
   refine sq (c7 @f5 @f10 @f11 @f12 @aW @he @mN) ?_
   have e:preB tag (p.map (·.1))++nP t.length++t=preB tag ((p++ [(t,ot)]).map (·.1)):=by simp[preB,chunk]
   rw[e]at h4⊢
   refine⟨⟨p++ [(t,ot)],q,o4,by simp,h4,rfl,?_⟩,?_⟩
   ·simp
   ·have:p.length<(p++(t,ot)::q).length:=by simp
    omega
def blocks:Nat→List UInt32→List UInt8→List UInt32
 |0,h,_=>h
 |n+1,h,bs=>blocks n (comp h (bs.take 64)) (bs.drop 64)
theorem Hy: ∀(n:Nat) (h:List UInt32) (bs:List UInt8),h.length=8→(blocks n h bs).length=8
 |0,_,_,hh=>hh
 |n+1,h,bs,hh=>by rw[blocks];exact Hy n _ _ (Qg h _ hh)
theorem Qh: ∀(n:Nat) (h:List UInt32) (bs:List UInt8),blocks (n+1) h bs=comp (blocks n h bs) ((bs.drop (64*n)).take 64)
 |0,h,bs=>by simp[blocks]
 |n+1,h,bs=>by
  rw[blocks,Qh n,blocks,List.drop_drop]
  rw[show 64+64*n=64*(n+1) by omega]
section
variable {h:List UInt32}{a b c:AV} (hh:h.length=8)
include hh
theorem BC:(wl h++ [a,b]).length=10:=by simp[wl,hh]
theorem HS:(wl h++ [a,b]).drop 9= [b]:=by
 rw[show(9:Nat)=(wl h).length+1 by rw[sN,hh],←List.drop_drop,List.drop_left];rfl
theorem HT:(wl h++ [a,b]).drop 8= [a,b]:=by
 rw[show(8:Nat)=(wl h).length by rw[sN,hh],List.drop_left]
theorem HU:(wl h++ [a,b]).take 8=wl h:=by
 rw[show(8:Nat)=(wl h).length by rw[sN,hh],List.take_left]
theorem Rt:putAt (wl h++ [a,b]) 9 [c]=wl h++ [a,c]:=by
 have h8:(wl h).length=8:=by rw[sN,hh]
 simp[putAt,List.take_append,List.drop_append,h8,List.take_of_length_le,List.drop_of_length_le]
theorem Nj:putAt (wl h++ [a,b]) 8 [c]=wl h++ [c,b]:=by
 have h8:(wl h).length=8:=by rw[sN,hh]
 simp[putAt,List.take_append,List.drop_append,h8,List.take_of_length_le,List.drop_of_length_le]
theorem Ru {w:List UInt32} (hw:w.length=8):putAt (wl h++ [a,b]) 0 (wl w)=wl w++ [a,b]:=by
 have h8:(wl h).length=8:=by rw[sN,hh]
 have w8:(wl w).length=8:=by rw[sN,hw]
 simp[putAt,List.take_append,List.drop_append,h8,w8,List.drop_of_length_le]
end
theorem Hp.RP {s:Hp}{l:Nat}{o:Ob} (h:s l=some o):s.set l o=s:=by
 funext x;simp only[Hp.set];split
 ·rename_i e;rw[e,h]
 ·rfl
theorem Hp.X5 {s t:Hp}{l:Nat}{o p:Ob} (h:(s.set l o).sub t):(s.set l p).sub (t.set l p):=fun x q hq=>by
 rw[Hp.Nh]at hq⊢
 split
 ·rename_i e;rw[if_pos e]at hq;exact hq
 ·rename_i e;rw[if_neg e]at hq;exact h x q (by rw[Hp.Nh,if_neg e];exact hq)
theorem a6U (H:List UInt32) (h8:H.length=8) (SQ: ∀s,AC Tryz.prog 193 [] s fun r s'=>s'=s∧r= .agg (wl H)) (bs:List UInt8) (o:Own) (hb:bs.length≤70368744177664) (s:Hp) (l:Nat) (hl:s l=some (.cells (wl H++ [.sl [] .nil,.v (.int .u64 0)]))):
  AC Tryz.prog 184 [.ptr l 0,.sl (bs.map bN) o] s fun _ s'=> ∃o',s'=s.set l (.cells (wl (blocks (bs.length/64) H bs)++ [.sl ((bs.drop (64*(bs.length/64))).map bN) o',.v (.int .u64 bs.length)])):=by
 refine cR hm aah (by simp) ?_
 have hW:(wl H).length=8:=by rw[sN,h8]
 rw[←Hp.RP hl]
 simp -dsimp -implicitDefEqProofs (disch:=first|omega|assumption|(simp only[rL,Nat.reduceAdd];try omega)) only[go_sem,simprocAttr,BC h8,HS h8,HT h8,HU h8,Rt h8,Nj h8]
 refine bC (SQ _) ?_
 rintro _ _ ⟨rfl,rfl⟩
 simp -dsimp -implicitDefEqProofs (disch:=first|omega|assumption|(simp only[rL,Nat.reduceAdd];try omega)) only[go_sem,simprocAttr,BC h8,HS h8,HT h8,HU h8,Rt h8,Nj h8,Ru h8 h8,hW]
 refine ik Hp.aH (by simp[dS]) fun o1 s1 h1=> ?_
 have rH:=h1.sub l _ (Hp.bt _ _ _)
 simp -dsimp -implicitDefEqProofs (disch:=first|omega|assumption|(simp only[rL,Nat.reduceAdd];try omega)) only[go_sem,simprocAttr,Hp.dG rH,Hp.aV rH,BC h8,HS h8,HT h8,HU h8,Rt h8,Nj h8,Ru h8 h8,hW]
 refine mc (ys:= []) h1 (by simp[dS]) (by simp[dS]) (by simp) (by simp) fun o2 s2 h2=> ?_
 refine nT ?_
 refine Cy (xs:= []) h2 (by simp;omega) fun o3 s3 h3=> ?_
 have J4:=h3.sub l _ (Hp.bt _ _ _)
 rw[←Hp.RP J4]
 simp -dsimp -implicitDefEqProofs (disch:=first|omega|assumption|(simp only[rL,Nat.reduceAdd];try omega)) only[go_sem,simprocAttr,Int.zero_add,List.nil_append]
 refine fS (fun f s'=> ∃(k:Nat) (o':Own),64*k≤bs.length∧f 0= .ptr l 0∧f 4= .sl ((bs.drop (64*k)).map bN) o'∧s'=s3.set l (.cells (wl (blocks k H bs)++ [.sl [] .nil,.v (.int .u64 bs.length)])))
  (fun f _=>match f 4 with| .sl xs _=>xs.length| _=>0) ⟨0,o3,by omega,?_⟩ ?_
 ·simp -dsimp -implicitDefEqProofs (disch:=first|omega|assumption|(simp only[rL,Nat.reduceAdd];try omega)) only[go_sem,simprocAttr,Int.zero_add]
  rfl
 ·rintro f s' ⟨k,o',hk,f0,f4,rfl⟩
  have hB:=Hy k H bs h8
  generalize hBe:blocks k H bs=B at*
  have hBW:(wl B).length=8:=by rw[sN,hB]
  by_cases aW:(64:Int)≤((bs.drop (64*k)).length:Int)
  ·have Al:=aW
   rw[List.length_drop]at Al
   simp -dsimp -implicitDefEqProofs (disch:=first|omega|assumption|(simp only[rL,Nat.reduceAdd];try omega)) only[go_sem,simprocAttr,f0,f4,aW,BC hB,HU hB]
   have ht:((bs.drop (64*k)).take (64:Int).toNat).length=64:=by simp;omega
   refine bC (XJ B _ _ hB ht _) ?_
   rintro _ _ ⟨rfl,rfl⟩
   have hC:=Qg B ((bs.drop (64*k)).take 64) hB
   have J5:(wl (comp B ((bs.drop (64*k)).take 64))).length=8:=by rw[sN,hC]
   simp -dsimp -implicitDefEqProofs (disch:=first|omega|assumption|(simp only[rL,Nat.reduceAdd];try omega)) only[go_sem,simprocAttr,f0,f4,aW,BC hB,Ru hB hC,J5]
   refine⟨⟨k+1,.any,by omega,?_,?_⟩,by simp only[List.length_drop];omega⟩
   ·rw[List.drop_drop,show 64*k+64=64*(k+1) by omega]
   ·rw[Qh,hBe]
  ·simp -dsimp -implicitDefEqProofs (disch:=first|omega|assumption|(simp only[rL,Nat.reduceAdd];try omega)) only[go_sem,simprocAttr,f0,f4,aW,BC hB,Nj hB]
   rw[List.length_drop]at aW
   have oR:bs.length/64=k:=by omega
   refine⟨s.set l _,Hp.X5 h3.sub,o',?_⟩
   rw[oR,hBe]
theorem a5A (bs:List UInt8) (o:Own) (hb:bs.length≤70368744177664) (s:Hp) (l:Nat) (hl:s l=some (.cells (wl z8++ [.sl [] .nil,.v (.int .u64 0)]))):
  AC Tryz.prog 184 [.ptr l 0,.sl (bs.map bN) o] s fun _ s'=> ∃o',s'=s.set l (.cells (wl (blocks (bs.length/64) z8 bs)++ [.sl ((bs.drop (64*(bs.length/64))).map bN) o',.v (.int .u64 bs.length)])):=
 a6U z8 rfl Qr bs o hb s l hl
def yW (n:Nat):Nat:=(55+64 - n%64)%64
def ze (n:Nat) (rest:List UInt8):List UInt8:=rest++128::List.replicate (yW n) 0++nP (8*n)
def Oc (x:UInt32):List UInt8:= [(x>>>24).toUInt8,(x>>>16).toUInt8,(x>>>8).toUInt8,x.toUInt8]
def tD (h:List UInt32):List UInt8:=h.flatMap Oc
def dg (bs:List UInt8):AV:= .agg (bs.map bN)
def yQ (w:List UInt8):List AV:=w.map bN++List.replicate (32 - w.length) (.v (.int .u8 0))
theorem Q7 {w:List UInt8} (h:w.length≤32):(yQ w).length=32:=by simp[yQ];omega
theorem X6 {w:List UInt8}{i:Nat} (x:UInt8) (h:i=w.length) (h2:w.length<32):putAt (yQ w) i [.v (.int .u8 x.toNat)]=yQ (w++ [x]):=by
 subst h
 have e:32 - w.length=(32 -(w.length+1))+1:=by omega
 simp only[putAt,yQ,e,List.replicate_succ]
 simp[List.take_append,List.drop_append,bN]
theorem Qb: ∀h:List UInt32,(tD h).length=4*h.length
 | []=>rfl
 |x::r=>by simp only[tD,List.flatMap_cons,List.length_append]at*;have:=Qb r;simp only[tD]at this;rw[this];simp[Oc];omega
theorem a8m (H:List UInt32) (h8:H.length=8) (SQ: ∀s,AC Tryz.prog 193 [] s fun r s'=>s'=s∧r= .agg (wl H)) (B:List UInt32) (hB:B.length=8) (n:Nat) (rest:List UInt8) (o:Own) (hn:n≤70368744177664) (hr:rest.length=n%64) (h0:n=0→B=H)
  (s:Hp) (l:Nat) (hl:s l=some (.cells (wl B++ [.sl (rest.map bN) o,.v (.int .u64 n)]))):
  AC Tryz.prog 185 [.ptr l 0] s fun r s'=>s'=s∧r=dg (tD (blocks ((ze n rest).length/64) B (ze n rest))):=by
 refine cR hm aai (by simp) ?_
 have hW:(wl B).length=8:=by rw[sN,hB]
 refine nT ?_
 refine cP fun l2 n2=> ?_
 have d2:l≠l2:=by rintro rfl;rw[n2]at hl;cases hl
 simp -dsimp -implicitDefEqProofs (disch:=first|omega|assumption|(simp only[rL,Nat.reduceAdd];try omega)) only[go_sem,↓reduceIte,Nat.reduceEqDiff,Nat.reduceAdd,Nat.reduceSub,Nat.reduceMul,Nat.reduceLeDiff,Nat.reduceLT,Int.reduceNeg,Int.reduceToNat,Int.reduceAdd,Int.reduceSub,Int.reduceMul,Int.reduceLT,Int.reduceLE,Int.reduceEq,Int.reduceNe,Hp.aV hl,BC hB,HS hB,HT hB,HU hB]
 refine cP fun l3 n3=> ?_
 obtain⟨d32,n3⟩:=Hp.vD n3
 have d3:l≠l3:=by rintro rfl;rw[n3]at hl;cases hl
 simp -dsimp -implicitDefEqProofs (disch:=first|omega|assumption|(simp only[rL,Nat.reduceAdd];try omega)) only[go_sem,↓reduceIte,Nat.reduceEqDiff,Nat.reduceAdd,Nat.reduceSub,Nat.reduceMul,Nat.reduceLeDiff,Nat.reduceLT,Int.reduceNeg,Int.reduceToNat,Int.reduceAdd,Int.reduceSub,Int.reduceMul,Int.reduceLT,Int.reduceLE,Int.reduceEq,Int.reduceNe,Hp.aV hl,BC hB,HS hB,HT hB,HU hB,hW]
 refine HF (fun f s'=>f 0= .ptr l 0∧f 2= .ptr l2 0∧f 3= .ptr l3 0∧s'=(s.set l2 (.cells (List.replicate 32 (.v (.int .u8 0))))).set l3 (.cells (wl B))) ?_ ?_ ?_
 ·intro hz
  have Dg:n=0:=by simpa using hz
  have hBH:=h0 Dg
  subst hBH
  refine nT ?_
  refine bC (SQ _) ?_
  rintro _ _ ⟨rfl,rfl⟩
  exact sy @hW
 ·intro _
  exact TT
 ·rintro f s' ⟨f0,f2,f3,rfl⟩
  have gX:((s.set l2 (.cells (List.replicate 32 (.v (.int .u8 0))))).set l3 (.cells (wl B))) l=some (.cells (wl B++ [.sl (rest.map bN) o,.v (.int .u64 n)])):=by
   rw[Hp.aX _ _ d3,Hp.aX _ _ d2];exact hl
  generalize pJ:((s.set l2 (.cells (List.replicate 32 (.v (.int .u8 0))))).set l3 (.cells (wl B)))=s1 at*
  refine sq (c3 @f0 @f2 @f3) ?_
  refine ik Hp.aH (by simp[dS]) fun o2 s2 h2=> ?_
  have mS:=h2.sub _ _ gX
  simp -dsimp -implicitDefEqProofs (disch:=first|omega|assumption|(simp only[rL,Nat.reduceAdd];try omega)) only[go_sem,↓reduceIte,Nat.reduceEqDiff,Nat.reduceAdd,Nat.reduceSub,Nat.reduceMul,Nat.reduceLeDiff,Nat.reduceLT,Int.reduceNeg,Int.reduceToNat,Int.reduceAdd,Int.reduceSub,Int.reduceMul,Int.reduceLT,Int.reduceLE,Int.reduceEq,Int.reduceNe,f0,f2,f3,Hp.aV mS,BC hB,HT hB]
  refine Cy (xs:= []) h2 (by simp;omega) fun o3 s3 h3=> ?_
  refine sq (c3 @f0 @f2 @f3) ?_
  refine K4 (b:=128) Hp.aH fun o4 s4 h4=> ?_
  refine sq (c3 @f0 @f2 @f3) ?_
  refine QJ (h3.mono h4.sub) (by simp;omega) fun o5 s5 h5=> ?_
  refine sq (c4 @f0 @f2 @f3 @List.nil_append.{0}) ?_
  refine fS (fun f s'=> ∃(j:Nat) (o':Own),j≤yW n∧f 0= .ptr l 0∧f 2= .ptr l2 0∧f 3= .ptr l3 0∧f 4= .sl ((rest++128::List.replicate j 0).map bN) o'∧dx s1 s' 1 ((rest++128::List.replicate j 0).map bN) o')
   (fun f _=>match f 4 with| .sl xs _=>200 - xs.length| _=>0) ⟨0,o5,by omega,?_⟩ ?_
  ·simp -dsimp -implicitDefEqProofs (disch:=first|omega|assumption|(simp only[rL,Nat.reduceAdd];try omega)) only[go_sem,↓reduceIte,Nat.reduceEqDiff,Nat.reduceAdd,Nat.reduceSub,Nat.reduceMul,Nat.reduceLeDiff,Nat.reduceLT,Int.reduceNeg,Int.reduceToNat,Int.reduceAdd,Int.reduceSub,Int.reduceMul,Int.reduceLT,Int.reduceLE,Int.reduceEq,Int.reduceNe,f0,f2,f3]
   exact⟨rfl,by simpa using h5⟩
  ·rintro f s' ⟨j,o',hj,f0,f2,f3,f4,ho⟩
   have hz:yW n≤63:=by unfold yW;omega
   have hlen:(rest++128::List.replicate j 0).length=n%64+1+j:=by simp[hr];omega
   by_cases aW:j<yW n
   ·have bI: ¬(((n%64+1+j)%64:Nat):Int)=56:=by unfold yW at aW;omega
    refine sq (c7 @f0 @f2 @f3 @f4 @hlen @a06 @bI) ?_
    refine K4 (b:=0) Hp.aH fun o6 s6 h6=> ?_
    refine sq (c4 @f0 @f2 @f3 @f4) ?_
    refine QJ (ho.mono h6.sub) (by omega) fun o7 s7 h7=> ?_
    have e:rest++128::List.replicate j 0++ [0]=rest++128::List.replicate (j+1) 0:=by simp[List.replicate_succ']
    refine sq (c4 @f0 @f2 @f3 @f4) ?_
    rw[e]at h7⊢
    refine⟨⟨j+1,o7,by omega,rfl,h7⟩,?_⟩
    simp only[List.length_append,List.length_cons,List.length_replicate,hr];omega
   ·obtain rfl:j=yW n:=by omega
    have heq:(((n%64+1+yW n)%64:Nat):Int)=56:=by unfold yW;omega
    have J6:=ho.sub _ _ gX
    simp -dsimp -implicitDefEqProofs (disch:=first|omega|assumption|(simp only[rL,Nat.reduceAdd];try omega)) only[go_sem,↓reduceIte,Nat.reduceEqDiff,Nat.reduceAdd,Nat.reduceSub,Nat.reduceMul,Nat.reduceLeDiff,Nat.reduceLT,Int.reduceNeg,Int.reduceToNat,Int.reduceAdd,Int.reduceSub,Int.reduceMul,Int.reduceLT,Int.reduceLE,Int.reduceEq,Int.reduceNe,f0,f2,f3,f4,hlen,a06,heq,ne_eq,not_true_eq_false,Hp.aV J6,BC hB,HS hB]
    have e8:(8:Int)*(n:Int)=((8*n:Nat):Int):=by simp
    rw[e8]
    refine bC (X4 (8*n) _) ?_
    rintro _ s6 ⟨o6,h6,rfl⟩
    refine sq (c4 @f0 @f2 @f3 @f4) ?_
    refine Cy (ho.mono h6.sub) (by simp[nP];omega) fun o7 s7 h7=> ?_
    refine sq (c4 @f0 @f2 @f3 @f4) ?_
    have ahY:s7 l3=some (.cells (wl B)):=h7.sub _ _ (by rw[←pJ];exact Hp.bt _ _ _)
    have Od:s7 l2=some (.cells (List.replicate 32 (.v (.int .u8 0)))):=h7.sub _ _ (by rw[←pJ,Hp.aX _ _ (Ne.symm d32)];exact Hp.bt _ _ _)
    have J7:s.sub s7:=Hp.cy (by rw[←pJ];exact Hp.bT (Hp.bT Hp.aH n2) n3) h7.sub
    rw[←Hp.RP ahY]
    have ahZ:rest++128::List.replicate (yW n) 0++nP (8*n)=ze n rest:=rfl
    have BY:(ze n rest).length=64*((ze n rest).length/64):=by
     have:(ze n rest).length=n%64+1+yW n+8:=by simp[ze,hr,nP];omega
     rw[this];unfold yW;omega
    rw[ahZ]
    generalize ze n rest=pad at*
    refine fS (fun f s'=> ∃(k:Nat) (o':Own),64*k≤pad.length∧f 2= .ptr l2 0∧f 3= .ptr l3 0∧f 4= .sl ((pad.drop (64*k)).map bN) o'∧s'=s7.set l3 (.cells (wl (blocks k B pad))))
     (fun f _=>match f 4 with| .sl xs _=>xs.length| _=>0) ⟨0,o7,by omega,?_⟩ ?_
    ·refine sq (c2 @f2 @f3) ?_
     rfl
    ·rintro f s' ⟨k,o',hk,f2,f3,f4,rfl⟩
     have hC:=Hy k B pad hB
     have J5:(wl (blocks k B pad)).length=8:=by rw[sN,hC]
     by_cases aW:(0:Int)<((pad.drop (64*k)).length:Int)
     ·have Al:=aW
      rw[List.length_drop]at Al
      have hle:64≤(pad.drop (64*k)).length:=by rw[List.length_drop];omega
      refine sq (c6 @f2 @f3 @f4 @aW @J5 @List.take_of_length_le.{0}) ?_
      have ht:((pad.drop (64*k)).take 64).length=64:=by simp;omega
      refine bC (XJ _ _ _ hC ht _) ?_
      rintro _ _ ⟨rfl,rfl⟩
      have hD:=Qg (blocks k B pad) ((pad.drop (64*k)).take 64) hC
      have hDW:(wl (comp (blocks k B pad) ((pad.drop (64*k)).take 64))).length=8:=by rw[sN,hD]
      refine sq (c5 @f2 @f3 @f4 @J5 @hDW) ?_
      refine⟨⟨k+1,.any,by omega,?_,?_⟩,by simp only[List.length_drop];omega⟩
      ·rw[List.drop_drop,show 64*k+64=64*(k+1) by omega]
      ·rw[Qh]
     ·rw[List.length_drop]at aW
      have oR:k=pad.length/64:=by omega
      refine sq (c5 @f2 @f3 @f4 @List.length_drop.{0} @aW) ?_
      rw[←oR]
      generalize hF:blocks k B pad=F at*
      refine cP fun l5 n5=> ?_
      obtain⟨d53,n5⟩:=Hp.vD n5
      have d52:l5≠l2:=by rintro rfl;rw[n5]at Od;cases Od
      refine sq (c5 @f2 @f3 @f4 @J5 @List.take_of_length_le.{0}) ?_
      refine fS (fun f s'=> ∃i:Nat,i≤8∧f 2= .ptr l2 0∧f 5= .ptr l5 0∧f 50= .agg (wl F)∧f 51= .v (.int .i64 i)∧s'=(s7.set l3 (.cells (wl F))).set l5 (.cells (yQ (tD (F.take i)))))
       (fun f _=>match f 51 with| .v (.int _ n)=>(8 - n).toNat| _=>0) ⟨0,by omega,?_⟩ ?_
      ·refine sq (c3 @f2 @f3 @f4) ?_
       (rw[List.take_zero];rfl)
      ·rintro f s' ⟨i,hi,f2,f5,f50,f51,rfl⟩
       have hq:(tD (F.take i)).length=4*i:=by rw[Qb];simp;omega
       by_cases aW:(i:Int)<8
       ·have c0:(yQ (tD (F.take i))).length=32:=Q7 (by omega)
        have g0:(4*(i:Int)).toNat=4*i:=by omega
        have g1:(4*(i:Int)+1).toNat=4*i+1:=by omega
        have g2:(4*(i:Int)+2).toNat=4*i+2:=by omega
        have g3:(4*(i:Int)+3).toNat=4*i+3:=by omega
        have hp: ∀(w:List UInt8) (x:UInt8),w.length<32→putAt (yQ w) w.length [.v (.int .u8 x.toNat)]=yQ (w++ [x]):=fun w x h=>X6 x rfl h
        simp -dsimp -implicitDefEqProofs (disch:=first|omega|assumption|(simp only[rL,Nat.reduceAdd];try omega)) only[go_sem,↓reduceIte,Nat.reduceEqDiff,Nat.reduceAdd,Nat.reduceSub,Nat.reduceMul,Nat.reduceLeDiff,Nat.reduceLT,Int.reduceNeg,Int.reduceToNat,Int.reduceAdd,Int.reduceSub,Int.reduceMul,Int.reduceLT,Int.reduceLE,Int.reduceEq,Int.reduceNe,f2,f5,f50,f51,aW,J5,BH,g0,g1,g2,g3,X6,Q7]
        refine⟨⟨i+1,by omega,by simp,?_⟩,by omega⟩
        have e:tD (F.take (i+1))=tD (F.take i)++Oc (F.getD i 0):=by
         have hFi:i<F.length:=by omega
         have hg:F.getD i 0=F[i]:=by simp[List.getD,hFi]
         rw[hg,tD,List.take_succ_eq_append_getElem hFi,List.flatMap_append]
         simp only[List.flatMap_cons,List.flatMap_nil,List.append_nil,tD]
        rw[e,Oc];simp only[List.append_assoc,List.cons_append,List.nil_append];rfl
       ·obtain rfl:i=8:=by omega
        have c0:(yQ (tD (F.take 8))).length=32:=Q7 (by omega)
        have e8:F.take 8=F:=List.take_of_length_le (by omega)
        have c1:yQ (tD F)=(tD F).map bN:=by rw[e8]at hq;simp[yQ,hq]
        have hQ:((tD F).map bN).length=32:=by rw[e8]at hq;simp[hq]
        have hq8:(tD F).length=32:=by rw[e8]at hq;exact hq
        rw[e8,c1]
        refine sq (qE @f2 @f5 @f50 @f51 @aW @hQ @List.take_of_length_le.{0} (Hp.dG Od) (Hp.aV Od) @d52 (Ne.symm d52) (Ne.symm d32) @QI) ?_
        refine⟨s,?_,rfl,rfl⟩
        exact Hp.bT (Hp.bT (Hp.bT J7 n3) (Hp.iJ J7 n5)) n2
theorem a8n (s:Hp):AC Tryz.prog 183 [] s fun r s'=> ∃l,s l=none∧r= .ptr l 0∧s'=s.set l (.cells (wl z8++ [.sl [] .nil,.v (.int .u64 0)])):=by
 refine cR hm aag (by simp) ?_
 refine nT ?_
 refine bC (Qr _) ?_
 rintro _ _ ⟨rfl,rfl⟩
 have h8:(wl z8).length=8:=rfl
 have e:putAt (List.replicate 8 (AV.v (Value.int IntKind.u32 0))++ [AV.sl [] Own.nil]++ [AV.v (Value.int IntKind.u64 0)]) 0 (wl z8)=wl z8++ [.sl [] .nil,.v (.int .u64 0)]:=rfl
 simp -dsimp -implicitDefEqProofs (disch:=first|omega|assumption|(simp only[rL,Nat.reduceAdd];try omega)) only[go_sem,↓reduceIte,Nat.reduceEqDiff,Nat.reduceAdd,Nat.reduceSub,Nat.reduceMul,Nat.reduceLeDiff,Nat.reduceLT,Int.reduceNeg,Int.reduceToNat,Int.reduceAdd,Int.reduceSub,Int.reduceMul,Int.reduceLT,Int.reduceLE,Int.reduceEq,Int.reduceNe,h8,e]
 refine cP fun l hl=> ?_
 refine nT ?_
 exact⟨_,Hp.aH,l,hl,rfl,rfl⟩
def yR (bs:List UInt8):List UInt8:=
 tD (blocks ((ze bs.length (bs.drop (64*(bs.length/64)))).length/64) (blocks (bs.length/64) z8 bs) (ze bs.length (bs.drop (64*(bs.length/64)))))
theorem Q8 (bs:List UInt8):(yR bs).length=32:=by
 rw[yR,Qb,Hy _ _ _ (Hy _ _ _ rfl)]
theorem a8o (bs:List UInt8) (o:Own) (hb:bs.length≤70368744177664) (s:Hp):AC Tryz.prog 158 [.sl (bs.map bN) o] s fun r s'=>s'=s∧r=dg (yR bs):=by
 refine cR hm a9U (by simp) ?_
 refine nT ?_
 refine cP fun l2 n2=> ?_
 refine nT ?_
 refine bC (a8n _) ?_
 rintro _ _ ⟨l,hl,rfl,rfl⟩
 obtain⟨d2,nl⟩:=Hp.vD hl
 refine nT ?_
 refine bC (a5A bs o hb _ l (Hp.bt _ _ _)) ?_
 rintro _ _ ⟨o',rfl⟩
 refine nT ?_
 have iv:(bs.drop (64*(bs.length/64))).length=bs.length%64:=by simp;omega
 refine bC (a8m z8 rfl Qr (blocks (bs.length/64) z8 bs) (Hy _ _ _ rfl) bs.length (bs.drop (64*(bs.length/64))) o' hb iv (fun h0=> ?_) _ l (Hp.bt _ _ _)) ?_
 ·rw[h0];rfl
 rintro _ _ ⟨rfl,rfl⟩
 have hq:((yR bs).map bN).length=32:=by rw[List.length_map,Q8]
 have Gm:=Q8 bs
 have Gt:dg (tD (blocks ((ze bs.length (bs.drop (64*(bs.length/64)))).length/64) (blocks (bs.length/64) z8 bs) (ze bs.length (bs.drop (64*(bs.length/64))))))= .agg ((yR bs).map bN):=rfl
 rw[Gt]
 generalize yR bs=d at*
 refine sq (c2 @hq (Ne.symm d2)) ?_
 exact⟨s,Hp.bT (Hp.bT Hp.aH n2) nl,rfl,by rw[List.take_of_length_le (by omega)];rfl⟩
def tL (x:Nat):Nat:=if x=0 then 0 else x.log2+1
theorem Qs (x k:Nat) (h:2^k≤x):k+tL (x>>>k)=tL x:=by
 have hp:0<2^k:=Nat.pow_pos (by omega)
 have h0:x≠0:=by omega
 have h1:x>>>k≠0:=by
  rw[Nat.shiftRight_eq_div_pow]
  have:=Nat.div_pos h hp;omega
 have e:x.log2=k+(x>>>k).log2:=by
  rw[Nat.log2_eq_iff h0]
  obtain⟨a,b⟩:=(Nat.log2_eq_iff h1).1 rfl
  generalize (x>>>k).log2=L at*
  rw[Nat.shiftRight_eq_div_pow]at a b
  rw[Nat.le_div_iff_mul_le hp]at a
  rw[Nat.div_lt_iff_lt_mul hp]at b
  constructor
  ·rw[Nat.add_comm,Nat.pow_add];exact a
  ·rw[show k+L+1=(L+1)+k by omega,Nat.pow_add];exact b
 simp only[tL,h0,h1,if_false,e];omega
theorem Zh (x k:Nat) (h:x<2^k):tL x≤k:=by
 unfold tL;split
 ·omega
 ·rename_i h0;have:=(Nat.log2_lt h0).2 h;omega
def a0D (t:ByteArray):Bool:=(List.range 256).all fun i=>t.data[i]? ==some (UInt8.ofNat (tL i))
theorem aea (t:ByteArray) (x:Nat) (h:a0D t=true) (hx:x<256):Ib (.v (.string t)) (.v (.int .u8 x))=some (.v (.int .u8 (tL x))):=by
 simp only[a0D,List.all_eq_true,List.mem_range]at h
 have h1:=h x hx
 have h2:t.data[x]? =some (UInt8.ofNat (tL x)):=by simpa using h1
 have h3:=Zh x 8 hx
 simp only[Ib,Int.toNat_natCast,h2,if_pos (Int.natCast_nonneg x)]
 have:(UInt8.ofNat (tL x)).toNat=tL x:=by simp;omega
 rw[this]
theorem a5B (x:Nat) (hx:x<2^64) (s:Hp):AC Tryz.prog 94 [.v (.int .u64 x)] s fun r s'=>s'=s∧r= .v (.int .i64 (tL x)):=by
 refine cR hm adw (by simp) ?_
 simp -dsimp -implicitDefEqProofs (disch:=first|omega|assumption|(simp only[rL,Nat.reduceAdd];try omega)) only[↓rD,rU,ev,ofConst,gS,simprocAttr]
 refine HF (fun f s'=>s'=s∧ ∃y r:Nat,f 0= .v (.int .u64 y)∧f 2= .v (.int .i64 r)∧y<2^32∧r≤32∧r+tL y=tL x) ?_ ?_ ?_
 ·intro h
  have h:4294967296≤x:=by simp at h;omega
  simp -dsimp -implicitDefEqProofs (disch:=first|omega|assumption|(simp only[rL,Nat.reduceAdd];try omega)) only[↓rD,rU,ev,ofConst,gS,simprocAttr]
  exact⟨x>>>32,32,rfl,rfl,by simp[Nat.shiftRight_eq_div_pow];omega,by omega,Qs x 32 h⟩
 ·intro h
  have h:x<4294967296:=by simp at h;omega
  simp -dsimp -implicitDefEqProofs (disch:=first|omega|assumption|(simp only[rL,Nat.reduceAdd];try omega)) only[↓rD,rU,ev,ofConst,gS,simprocAttr]
  exact⟨x,0,rfl,rfl,h,by omega,by omega⟩
 rintro f s' ⟨iK,y,r,f0,f2,hy,hr,hb⟩
 rw[iK]
 simp -dsimp -implicitDefEqProofs (disch:=first|omega|assumption|(simp only[rL,Nat.reduceAdd];try omega)) only[↓rD,rU,ev,ofConst,gS,simprocAttr,f0,f2]
 refine HF (fun f s'=>s'=s∧ ∃y r:Nat,f 0= .v (.int .u64 y)∧f 2= .v (.int .i64 r)∧y<2^16∧r≤48∧r+tL y=tL x) ?_ ?_ ?_
 ·intro h
  have h:65536≤y:=by simp at h;omega
  simp -dsimp -implicitDefEqProofs (disch:=first|omega|assumption|(simp only[rL,Nat.reduceAdd];try omega)) only[↓rD,rU,ev,ofConst,gS,simprocAttr,f0,f2]
  exact⟨y>>>16,r+16,rfl,by simp,by simp[Nat.shiftRight_eq_div_pow];omega,by omega,by have:=Qs y 16 h;rw[←hb,←this];omega⟩
 ·intro h
  have h:y<65536:=by simp at h;omega
  simp -dsimp -implicitDefEqProofs (disch:=first|omega|assumption|(simp only[rL,Nat.reduceAdd];try omega)) only[↓rD,rU,ev,ofConst,gS,simprocAttr,f0,f2]
  exact⟨y,r,rfl,rfl,h,by omega,hb⟩
 rintro f s' ⟨iK,y,r,f0,f2,hy,hr,hb⟩
 rw[iK]
 simp -dsimp -implicitDefEqProofs (disch:=first|omega|assumption|(simp only[rL,Nat.reduceAdd];try omega)) only[↓rD,rU,ev,ofConst,gS,simprocAttr,f0,f2]
 refine HF (fun f s'=>s'=s∧ ∃y r:Nat,f 0= .v (.int .u64 y)∧f 2= .v (.int .i64 r)∧y<2^8∧r≤56∧r+tL y=tL x) ?_ ?_ ?_
 ·intro h
  have h:256≤y:=by simp at h;omega
  simp -dsimp -implicitDefEqProofs (disch:=first|omega|assumption|(simp only[rL,Nat.reduceAdd];try omega)) only[↓rD,rU,ev,ofConst,gS,simprocAttr,f0,f2]
  exact⟨y>>>8,r+8,rfl,by simp,by simp[Nat.shiftRight_eq_div_pow];omega,by omega,by have:=Qs y 8 h;rw[←hb,←this];omega⟩
 ·intro h
  have h:y<256:=by simp at h;omega
  simp -dsimp -implicitDefEqProofs (disch:=first|omega|assumption|(simp only[rL,Nat.reduceAdd];try omega)) only[↓rD,rU,ev,ofConst,gS,simprocAttr,f0,f2]
  exact⟨y,r,rfl,rfl,h,by omega,hb⟩
 rintro f s' ⟨iK,y,r,f0,f2,hy,hr,hb⟩
 rw[iK]
 have hw:IntKind.u8.wrap (y:Int)=y:=wrap_u8 (by omega) (by omega)
 have hl:=Zh y 8 hy
 simp -dsimp -implicitDefEqProofs (disch:=first|omega|assumption|(simp only[rL,Nat.reduceAdd];try omega)) only[↓rD,rU,ev,ofConst,gS,simprocAttr,f0,f2,hw]
 rw[aea]
 ·simp -dsimp -implicitDefEqProofs (disch:=first|omega|assumption|(simp only[rL,Nat.reduceAdd];try omega)) only[↓rD,rU,ev,ofConst,gS,simprocAttr,f0,f2]
  exact⟨s,Hp.aH,rfl,by rw[←hb];simp⟩
 ·decide
 ·exact hy
theorem a8p (x:Nat) (hx:x<2^64) (s:Hp):AC Tryz.prog 57 [.v (.int .u64 x)] s fun r s'=>s'=s∧r= .v (.int .i64 (tL x)):=by
 refine cR hm ad4 (by simp) ?_
 refine nT ?_
 refine bC (a5B x hx _) ?_
 rintro _ _ ⟨rfl,rfl⟩
 refine nT ?_
 exact⟨_,Hp.aH,rfl⟩
def ap1 (l:List (List UInt8)):Prop:= ∀d∈l,d.length=32
theorem gI {d:List UInt8}:(dg d).cells=d.map bN:=rfl
theorem gJ {d:List UInt8} (h:d.length=32):(.agg ((d.take 32).map bN):AV)=dg d:=by rw[List.take_of_length_le (by simp[h])];rfl
def PC (ds:List (List UInt8)) (od:Own) (Lx:List (List UInt8×Own)) (ot:Own) (lk:Bool):Ob:= .cells [.sl (ds.map dg) od,.sl (TX Lx) ot,.v (.bool lk)]
def PS (s0:Hp) (l:Nat) (ds ts:List (List UInt8)) (lk:Bool) (s:Hp):Prop:=
 ∃od ot Lx,Lx.map (·.1)=ts∧dx (s0.set l (PC ds od Lx ot lk)) s 1 (TX Lx) ot
def zd:List UInt8:=List.replicate 32 0
def zc:Ob:= .cells (List.replicate 32 (.v (.int .u8 0)))
theorem a08 {a b:List UInt8} (h:dg a=dg b):a=b:=by
 have h1:a.map bN=b.map bN:=by simpa[dg] using h
 have h2:=congrArg bytesOf h1
 rw[JL,JL]at h2
 exact Option.some.inj h2
end Go.Proofs.YtonldhgdjjfahaaGreat
set_option maxHeartbeats 1000000
namespace Go.Proofs.YtonldhgdjjfahaaGreat
open Go Go.Av
structure BF where
 x:List UInt8
 y:List UInt8
 ds:List (List UInt8)
 ts:List (List UInt8)
 lk:Bool
end Go.Proofs.YtonldhgdjjfahaaGreat
set_option maxHeartbeats 1000000
namespace Go.Proofs.YtonldhgdjjfahaaGreat
open Go Go.Av
def WC (bs:List UInt8) (ow:Own):Ob:= .cells [.sl (bs.map bN) ow,.v (.int .i64 0)]
def WS (s0:Hp) (l:Nat) (bs:List UInt8) (s:Hp):Prop:= ∃ow,dx (s0.set l (WC bs ow)) s 1 (bs.map bN) ow
theorem R8 (s0 s:Hp) (l:Nat) (bs cs:List UInt8) (o:Own) (h:WS s0 l bs s) (hl:bs.length+cs.length≤70368744177664):
  AC Tryz.prog 170 [.ptr l 0,.v (.bool true),.sl (cs.map bN) o] s fun _ s'=>WS s0 l (bs++cs) s':=by
 obtain⟨ow,h⟩:=h
 have g:=h.sub _ _ (Hp.bt _ _ _)
 refine cR hm aa6 (by simp) ?_
 refine sq (c4 @Bool.not_true (Hp.aV g) @gI @gJ) ?_
 refine Cy h (by omega) fun o2 s2 h2=> ?_
 have g2:=h2.sub _ _ (Hp.bt _ _ _)
 refine sq (c4 (Hp.aV g2) (Hp.dG g2) @gI @gJ) ?_
 have h5:=h2.set (ob:=WC (bs++cs) o2) (Hp.bt _ _ _)
 rw[Hp.set_set]at h5
 exact⟨_,Hp.aH,o2,h5⟩
theorem Fj (s0 s:Hp) (l:Nat) (bs:List UInt8) (b:UInt8) (h:WS s0 l bs s) (hl:bs.length+1≤70368744177664):
  AC Tryz.prog 133 [.ptr l 0,.v (.int .u8 b.toNat)] s fun _ s'=>WS s0 l (bs++ [b]) s':=by
 refine cR hm a9B (by simp) ?_
 refine sq (c2 @gI @gJ) ?_
 refine K4 Hp.aH fun o1 s1 h1=> ?_
 refine sq (c2 @gI @gJ) ?_
 obtain⟨ow,h⟩:=h
 refine bC (R8 s0 s1 l bs [b] o1 ⟨ow,h.mono h1.sub⟩ hl) ?_
 intro r s2 h2
 refine sq (c2 @gI @gJ) ?_
 exact⟨s2,Hp.aH,h2⟩
def gV (n:Int):Nat:=(BitVec.ofInt 64 n^^^BitVec.ofInt 64 9223372036854775808).toNat
def wU (n:Int):List UInt8:=nP (gV n)
theorem Zi (n:Int):eL .xor (.int .u64 (IntKind.u64.wrap n)) (.int .u64 9223372036854775808)=some (.int .u64 (gV n)):=by
 have e:BitVec.ofInt 64 (IntKind.u64.wrap n)=BitVec.ofInt 64 n:=by
  rw[My];apply BitVec.eq_of_toInt_eq;simp[BitVec.toInt_ofInt,Int.bmod]
 have h:eL .xor (.int .u64 (IntKind.u64.wrap n)) (.int .u64 9223372036854775808)=some (.int .u64 (IntKind.u64.wrap (BitVec.ofInt 64 (IntKind.u64.wrap n)^^^BitVec.ofInt 64 9223372036854775808).toNat)):=rfl
 rw[h,e]
 have aW:=(BitVec.ofInt 64 n^^^BitVec.ofInt 64 9223372036854775808).isLt
 rw[wrap_u64 (by omega) (by omega)];rfl
theorem a8q (s0 s:Hp) (l:Nat) (bs:List UInt8) (n:Int) (h:WS s0 l bs s) (hl:bs.length+8≤70368744177664):
  AC Tryz.prog 171 [.ptr l 0,.v (.int .i64 n)] s fun _ s'=>WS s0 l (bs++wU n) s':=by
 refine cR hm aa7 (by simp) ?_
 refine sq (c3 @Zi @gI @gJ) ?_
 generalize hN:gV n=N
 refine fS (fun f s'=> ∃j:Nat,j≤8∧WS s0 l (bs++(nP N).take j) s'∧f 0= .ptr l 0∧f 4= .v (.int .u64 N)∧f 5= .v (.int .i64 (56 - 8*(j:Int))))
  (fun f _=>match f 5 with| .v (.int _ n)=>(n+8).toNat| _=>0) ⟨0,by omega,by simpa using h,?_⟩ ?_
 ·exact sy (c2 @gI @gJ)
 ·rintro f s' ⟨j,hj,hw,f0,f4,f5⟩
  by_cases aW:(0:Int)≤56 - 8*(j:Int)
  ·refine sq (c7 @f0 @f4 @f5 @aW @Fh @gI @gJ) ?_
   refine bC (Fj s0 s' l _ _ hw ?_) ?_
   ·simp;omega
   intro r s2 h2
   refine sq (c6 @f0 @f4 @f5 @aW @gI @gJ) ?_
   refine⟨⟨j+1,by omega,?_,by simp;omega⟩,by omega⟩
   have e:(nP N).take (j+1)=(nP N).take j++ [UInt8.ofNat (N>>>(56 - 8*(j:Int)).toNat)]:=by
    rcases (by omega:j=0∨j=1∨j=2∨j=3∨j=4∨j=5∨j=6∨j=7)with rfl|rfl|rfl|rfl|rfl|rfl|rfl|rfl<;>rfl
   rw[e,←List.append_assoc];exact h2
  ·obtain rfl:j=8:=by omega
   refine sq (c6 @f0 @f4 @f5 @aW @gI @gJ) ?_
   refine⟨s',Hp.aH,?_⟩
   rw[wU,hN];exact hw
end Go.Proofs.YtonldhgdjjfahaaGreat
namespace Go.Av
open Go
variable {P:Ctx}{f:Fr}{s s0:Hp}{Kv:AV→Hp→Prop}
def SR (neg:Bool) (a:AV) (C:AV→Prop):Prop:=
 match a with
 | .sl xs o=>match o with
  | .nil=>C (.v (.bool (!neg)))
  | .buf _ _=>C (.v (.bool neg))
  | _=>(xs= []→C (.v (.bool (!neg))))∧C (.v (.bool neg))
 | .mb _ _ _ _=>C (.v (.bool neg))
 | _=>False
theorem FH {neg:Bool}{x:Operand}:G P (.wX neg x) f s Kv=SR neg (ev f x) (fj (fun r=>Kv r s) ()):=rfl
theorem HG {neg:Bool}{xs:List AV}{o:Own}{C:AV→Prop}{d:jH C} (hn:o= .nil→xs= []) (h1:xs= []→C (.v (.bool (!neg)))) (h2:C (.v (.bool neg))):SR neg (.sl xs o) (fj C d):=by
 cases o with
 |nil=>exact h1 (hn rfl)
 |buf g c=>exact h2
 |any=>exact⟨h1,h2⟩
 |zero=>exact⟨h1,h2⟩
end Go.Av
namespace Go.Proofs.YtonldhgdjjfahaaGreat
open Go Go.Av
theorem X7 (bs:List UInt8) (o:Own) (s:Hp) (ho:o= .nil→bs= []) (hb:bs.length≤70368744177664):
  AC Tryz.prog 172 [.sl (bs.map bN) o] s fun r s'=> ∃o',dx s s' 1 (bs.map bN) o'∧r= .sl (bs.map bN) o':=by
 refine cR hm aa8 (by simp) ?_
 simp -dsimp -implicitDefEqProofs (disch:=first|omega|assumption|(simp only[rL,Nat.reduceAdd];try omega)) only[go_sem,simprocAttr,gI,gJ,↓FH]
 refine HG (fun h=>by rw[ho h];rfl) (fun h=> ?_) ?_
 ·have yf:bs= []:=by simpa using h
  subst yf
  refine sq (c3 @Bool.not_false @gI @gJ) ?_
  exact⟨s,Hp.aH,.nil,dx.nil Hp.aH,rfl⟩
 ·refine sq (c2 @gI @gJ) ?_
  refine ik Hp.aH (by simp[dS]) fun o1 s1 h1=> ?_
  refine sq (c2 @gI @gJ) ?_
  refine Cy (xs:= []) h1 (by simp;omega) fun o2 s2 h2=> ?_
  refine sq (c3 @List.nil_append.{0} @gI @gJ) ?_
  exact⟨s2,Hp.aH,o2,by simpa using h2,rfl⟩
theorem a4Q (s0 s:Hp) (l:Nat) (bs:List UInt8) (h:WS s0 l bs s) (hb:bs.length≤70368744177664):
  AC Tryz.prog 138 [.ptr l 0] s fun r s'=> ∃o',dx s s' 1 (bs.map bN) o'∧r= .sl (bs.map bN) o':=by
 obtain⟨ow,h⟩:=h
 have g:=h.sub _ _ (Hp.bt _ _ _)
 refine cR hm a9G (by simp) ?_
 refine sq (c3 (Hp.aV g) @gI @gJ) ?_
 refine bC (X7 bs ow s (fun hn=> ?_) hb) ?_
 ·subst hn;have:=h.2;simpa using this
 rintro _ s1 ⟨o1,h1,rfl⟩
 refine sq (c2 @gI @gJ) ?_
 exact⟨s1,Hp.aH,o1,h1,rfl⟩
end Go.Proofs.YtonldhgdjjfahaaGreat
namespace Go.Av
open Go
end Go.Av
namespace Go.Proofs.YtonldhgdjjfahaaGreat
open Go Go.Av
def TV (n:Int) (h d:List UInt8):List AV:= .v (.int .i64 n)::(h.map bN++d.map bN)
def OPV (n:Int) (h d:List UInt8):AV:= .agg (TV n h d)
def aeb (n:Int) (h d:List UInt8):List UInt8:=preB 68 [wU n,h,d]
end Go.Proofs.YtonldhgdjjfahaaGreat
namespace Go.Av
open Go
theorem a5C {s:Hp}{n l:Nat}{cs:List AV} (h:cs.length=n):Ku 1 n (s.set l (.ro cs)) (.ptr l 0)=some (.sl cs .any):=a6A (Hp.bt _ _ _) h
end Go.Av
namespace Go.Proofs.YtonldhgdjjfahaaGreat
open Go Go.Av
structure zB where
 n:Int
 h:List UInt8
 d:List UInt8
 deriving DecidableEq
def zB.ok (o:zB):Prop:=o.h.length=32∧o.d.length=32
def zB.C (o:zB):List AV:=TV o.n o.h o.d
def zB.V (o:zB):AV:=OPV o.n o.h o.d
def zB.sum (o:zB):List UInt8:=yR (aeb o.n o.h o.d)
theorem WS.mono {s0 s s':Hp}{l:Nat}{bs:List UInt8} (h:WS s0 l bs s) (hs:s.sub s'):WS s0 l bs s':=by
 obtain⟨ow,h⟩:=h;exact⟨ow,h.mono hs⟩
theorem WS.sub {s0 s:Hp}{l:Nat}{bs:List UInt8} (h:WS s0 l bs s) (h0:s0 l=none):s0.sub s:=by
 obtain⟨ow,h⟩:=h;exact Hp.cy (Hp.bT Hp.aH h0) h.sub
theorem WS.base {s0 s1 s:Hp}{l:Nat}{bs:List UInt8} (h:WS s0 l bs s) (hs:s1.sub s0):WS s1 l bs s:=by
 obtain⟨ow,h⟩:=h;exact⟨ow,h.base (Hp.A3 hs)⟩
theorem WS.cell {s0 s:Hp}{l:Nat}{bs:List UInt8} (h:WS s0 l bs s): ∃ow,s l=some (WC bs ow):=by
 obtain⟨ow,h⟩:=h;exact⟨ow,h.sub _ _ (Hp.bt _ _ _)⟩
theorem WS.new {s0 s:Hp}{l l2:Nat}{bs:List UInt8}{ob:Ob} (h:WS s0 l bs s) (h2:s l2=none):l2≠l∧s0 l2=none∧WS (s0.set l2 ob) l bs (s.set l2 ob):=by
 obtain⟨ow,hc⟩:=h.cell
 have bI:l2≠l:=by rintro rfl;rw[h2]at hc;cases hc
 obtain⟨ow,h⟩:=h
 have h0:=Hp.iJ h.sub h2
 rw[Hp.aX _ _ bI]at h0
 refine⟨bI,h0,ow,?_⟩
 rw[Hp.mZ _ bI]
 exact h.new h2
theorem WS.get {s0 s:Hp}{l l2:Nat}{bs:List UInt8}{ob:Ob} (h:WS s0 l bs s) (bI:l2≠l) (h2:s0 l2=some ob):s l2=some ob:=by
 obtain⟨ow,h⟩:=h
 exact h.sub _ _ (by rw[Hp.aX _ _ bI];exact h2)
theorem a4i (s0 s:Hp) (l:Nat) (bs d:List UInt8) (hd:d.length=32) (h:WS s0 l bs s) (hl:bs.length+32≤70368744177664):
  AC Tryz.prog 136 [.ptr l 0,dg d] s fun _ s'=>WS s0 l (bs++d) s':=by
 refine cR hm a9E (by simp) ?_
 refine sq (c3 @hd @gI @gJ) ?_
 refine cP fun l3 n3=> ?_
 refine sq (c4 @hd @a5C @gI @gJ) ?_
 refine bC (R8 s0 _ l bs d .any (h.mono (Hp.bT Hp.aH n3)) (by omega)) ?_
 intro r s1 h1
 refine sq (c2 @gI @gJ) ?_
 exact⟨_,Hp.aH,h1⟩
theorem Wz (n:Int):(wU n).length=8:=rfl
structure Rd where
 b:List UInt8
 e:Int
def RC (r:Rd) (ow:Own):Ob:= .cells [.sl (r.b.map bN) ow,.v (.int .i64 r.e)]
def RS (s0:Hp) (l:Nat) (r:Rd) (s:Hp):Prop:= ∃ow,(s0.set l (RC r ow)).sub s
theorem RS.cell {s0 s:Hp}{l:Nat}{r:Rd} (h:RS s0 l r s): ∃ow,s l=some (.cells [.sl (r.b.map bN) ow,.v (.int .i64 r.e)]):=by
 obtain⟨ow,h⟩:=h;exact⟨ow,h _ _ (Hp.bt _ _ _)⟩
theorem RS.base {s0 s1 s:Hp}{l:Nat}{r:Rd} (h:RS s0 l r s) (hs:s1.sub s0):RS s1 l r s:=by
 obtain⟨ow,h⟩:=h;exact⟨ow,Hp.cy (Hp.A3 hs) h⟩
theorem RS.set {s0 s:Hp}{l:Nat}{r:Rd} (h:RS s0 l r s) (r':Rd) (ow:Own):RS s0 l r' (s.set l (RC r' ow)):=by
 obtain⟨vh,h⟩:=h;exact⟨ow,Hp.X5 h⟩
theorem RS.get {s0 s:Hp}{l l2:Nat}{r:Rd}{ob:Ob} (h:RS s0 l r s) (bI:l2≠l) (h2:s0 l2=some ob):s l2=some ob:=by
 obtain⟨ow,h⟩:=h;exact h _ _ (by rw[Hp.aX _ _ bI];exact h2)
theorem RS.new {s0 s:Hp}{l l2:Nat}{r:Rd}{ob:Ob} (h:RS s0 l r s) (h2:s l2=none):l2≠l∧s0 l2=none∧RS (s0.set l2 ob) l r (s.set l2 ob):=by
 obtain⟨ow,hc⟩:=h.cell
 have bI:l2≠l:=by rintro rfl;rw[h2]at hc;cases hc
 obtain⟨ow,h⟩:=h
 have h0:=Hp.iJ h h2
 rw[Hp.aX _ _ bI]at h0
 refine⟨bI,h0,ow,?_⟩
 rw[Hp.mZ _ bI]
 exact Hp.A3 h
theorem RS.other {s0 s:Hp}{l l2:Nat}{r:Rd}{ob:Ob} (h:RS s0 l r s) (bI:l2≠l):RS (s0.set l2 ob) l r (s.set l2 ob):=by
 obtain⟨ow,h⟩:=h
 refine⟨ow,?_⟩
 rw[Hp.mZ _ bI]
 exact Hp.A3 h
theorem a8r (bs:List UInt8) (o:Own) (s:Hp) (ho:o= .nil→bs= []) (hb:bs.length≤70368744177664):
  AC Tryz.prog 145 [.sl (bs.map bN) o] s fun r s'=> ∃l,s l=none∧r= .ptr l 0∧RS s l ⟨bs,0⟩ s':=by
 refine cR hm a9L (by simp) ?_
 refine sq (c2 @gI @gJ) ?_
 refine bC (X7 bs o s ho hb) ?_
 rintro _ s1 ⟨o1,h1,rfl⟩
 have e:putAt [AV.sl [] Own.nil,AV.v (Value.int IntKind.i64 0)] 0 [AV.sl (bs.map bN) o1]= [AV.sl (bs.map bN) o1,AV.v (Value.int IntKind.i64 0)]:=rfl
 refine sq (c3 @e @gI @gJ) ?_
 refine cP fun l6 n6=> ?_
 refine sq (c3 @e @gI @gJ) ?_
 exact⟨_,Hp.aH,l6,Hp.iJ h1.sub n6,rfl,o1,Hp.A3 h1.sub⟩
def Aa (r:Rd) (e:Int):Rd:=if r.e=0 then {r with e:=e}else r
theorem abh {a b c:AV}:putAt [a,b] 1 [c]= [a,c]:=rfl
theorem abi {a b c:AV}:putAt [a,b] 0 [c]= [c,b]:=rfl
theorem JX (s0 s:Hp) (l:Nat) (r:Rd) (e:Int) (h:RS s0 l r s):
  AC Tryz.prog 178 [.ptr l 0,.v (.int .i64 e)] s fun _ s'=>RS s0 l (Aa r e) s':=by
 obtain⟨ow,g⟩:=h.cell
 refine cR hm aac (by simp) ?_
 by_cases c:r.e=0
 ·refine sq (c6 (Hp.aV g) (Hp.dG g) @c @abh @gI @gJ) ?_
  refine⟨_,Hp.aH,?_⟩
  rw[Aa,if_pos c]
  exact h.set {r with e:=e} ow
 ·refine sq (c4 (Hp.aV g) @c @gI @gJ) ?_
  refine⟨_,Hp.aH,?_⟩
  rw[Aa,if_neg c];exact h
def lZ (r:Rd) (n:Nat):Option (List UInt8)×Rd:=
 if r.e=0 then(if r.b.length<n then(none,{r with e:=20})else(some (r.b.take n),{r with b:=r.b.drop n}))else(none,r)
theorem a4R (s0 s:Hp) (l:Nat) (r:Rd) (n:Nat) (hn:n≤100000000) (h:RS s0 l r s):
  AC Tryz.prog 177 [.ptr l 0,.v (.int .i64 n)] s fun x s'=>RS s0 l (lZ r n).2 s'∧
   (∃ow,(ow= .nil→(lZ r n).1.getD []= [])∧x= .dr [.sl (((lZ r n).1.getD []).map bN) ow,.v (.bool (lZ r n).1.isSome)]):=by
 obtain⟨ow,g⟩:=h.cell
 refine cR hm aab (by simp) ?_
 by_cases c:r.e=0
 ·by_cases c2:r.b.length<n
  ·have uE:(r.b.length:Int)<n:=by omega
   have e:lZ r n=(none,{r with e:=20}):=by rw[lZ,if_pos c,if_pos c2]
   rw[e]
   refine sq (c5 (Hp.aV g) @c @uE @gI @gJ) ?_
   refine bC (JX s0 s l r 20 h) ?_
   intro x s1 h1
   rw[Aa,if_pos c]at h1
   obtain⟨ow1,g1⟩:=h1.cell
   refine sq (c3 (Hp.aV g1) @gI @gJ) ?_
   exact⟨_,Hp.aH,h1,.nil,fun _=>rfl,rfl⟩
  ·have uE: ¬(r.b.length:Int)<n:=by omega
   have e:lZ r n=(some (r.b.take n),{r with b:=r.b.drop n}):=by rw[lZ,if_pos c,if_neg c2]
   rw[e]
   refine sq (c7 (Hp.aV g) (Hp.dG g) @c @uE @abi @gI @gJ) ?_
   exact⟨_,Hp.aH,h.set ⟨r.b.drop n,0⟩ .any,.any,(fun h=>by cases h),rfl⟩
 ·have e:lZ r n=(none,r):=by rw[lZ,if_neg c]
  rw[e]
  refine sq (c4 (Hp.aV g) @c @gI @gJ) ?_
  exact⟨_,Hp.aH,h,.nil,fun _=>rfl,rfl⟩
theorem MM (s0 s:Hp) (l:Nat) (r:Rd) (n:Nat) (hn:n≤100000000) (h:RS s0 l r s):
  AC Tryz.prog 177 [.ptr l 0,.v (.int .i64 n)] s fun x s'=>RS s0 l (lZ r n).2 s'∧
   (∃ow,x= .dr [.sl (((lZ r n).1.getD []).map bN) ow,.v (.bool (lZ r n).1.isSome)]):=
 (a4R s0 s l r n hn h).mono fun _ _ ⟨h1,ow,_,h2⟩=>⟨h1,ow,h2⟩
def jU (r:Rd):UInt8×Rd:=((lZ r 1).1.getD []|>.headD 0,(lZ r 1).2)
theorem JY {r:Rd}{n:Nat}{bs:List UInt8} (h:(lZ r n).1=some bs):bs.length=n:=by
 unfold lZ at h
 split at h
 ·split at h
  ·cases h
  ·simp only[Option.some.injEq]at h
   subst h;rw[List.length_take];omega
 ·cases h
theorem JT (s0 s:Hp) (l:Nat) (r:Rd) (h:RS s0 l r s):
  AC Tryz.prog 146 [.ptr l 0] s fun x s'=>RS s0 l (jU r).2 s'∧x= .v (.int .u8 (jU r).1.toNat):=by
 refine cR hm a9M (by simp) ?_
 refine sq (c2 @gI @gJ) ?_
 refine bC (MM s0 s l r 1 (by omega) h) ?_
 rintro x s1 ⟨h1,ow,rfl⟩
 unfold jU
 have hl:=fun bs=>JY (r:=r) (n:=1) (bs:=bs)
 generalize lZ r 1=t at*
 obtain⟨bs,r1⟩:=t
 cases bs with
 |none=>
  simp only[Option.isSome_none,Option.getD_none]at*
  refine sq (c2 @gI @gJ) ?_
  exact⟨_,Hp.aH,h1,rfl⟩
 |some bs=>
  simp only[Option.isSome_some,Option.getD_some]at*
  have hl:=hl bs rfl
  match bs,hl with
  | [b],_=>
   have e:zA 1 (some (bN b))=some (.eJ [.v (.int .u8 b.toNat)]):=rfl
   simp -dsimp -implicitDefEqProofs (disch:=first|omega|assumption|(simp only[rL,Nat.reduceAdd];try omega)) only[mN,e,↓rD,rU,ev,ofConst,gS,↓reduceIte,Nat.reduceEqDiff,Nat.reduceAdd,Nat.reduceSub,Nat.reduceMul,Nat.reduceLeDiff,Nat.reduceLT,Int.reduceNeg,Int.reduceToNat,Int.reduceAdd,Int.reduceSub,Int.reduceMul,Int.reduceLT,Int.reduceLE,Int.reduceEq,rX,gI,gJ,List.drop_succ_cons,↓rF,rG,ne_eq,not_true_eq_false,not_false_eq_true,Int.reduceNe,List.getElem?_cons_zero,List.getElem?_cons_succ,List.headD_cons]
   exact⟨_,Hp.aH,h1⟩
def qj (bs:List UInt8):Nat:=bs.foldl (fun u b=>u*256+b.toNat) 0
def vM (r:Rd):Int×Rd:=
 match (lZ r 8).1 with
 |none=>(0,(lZ r 8).2)
 |some bs=>((BitVec.ofNat 64 (qj bs)^^^9223372036854775808#64).toInt,(lZ r 8).2)
theorem a09: ∀(bs:List UInt8) (u:Nat),bs.foldl (fun u b=>u*256+b.toNat) u+1≤(u+1)*256^bs.length
 | [],u=>by simp
 |b::bs,u=>by
  have h:=a09 bs (u*256+b.toNat)
  have hb:=b.toNat_lt
  rw[List.foldl_cons,List.length_cons,Nat.pow_succ]
  refine Nat.le_trans h ?_
  rw[Nat.mul_comm (256^bs.length) 256,←Nat.mul_assoc]
  exact Nat.mul_le_mul_right _ (by omega)
theorem a0a (bs:List UInt8):qj bs<256^bs.length:=by
 have:=a09 bs 0
 rw[qj];omega
theorem a8s (bs:List UInt8) (j:Nat) (h:j<bs.length):qj (bs.take (j+1))=qj (bs.take j)*256+(bs.getD j 0).toNat:=by
 rw[List.take_succ,List.getElem?_eq_getElem h,qj,List.foldl_append]
 simp[qj,List.getD,h]
theorem aec (a b:Nat) (ha:a<18446744073709551616) (hb:b<18446744073709551616):eL .or (.int .u64 a) (.int .u64 b)=some (.int .u64 ((a|||b:Nat):Int)):=by
 have h:eL .or (.int .u64 a) (.int .u64 b)=some (.int .u64 (IntKind.u64.wrap (BitVec.ofInt 64 (a:Int)|||BitVec.ofInt 64 (b:Int)).toNat)):=rfl
 have aW:=(BitVec.ofInt 64 (a:Int)|||BitVec.ofInt 64 (b:Int)).isLt
 rw[h,wrap_u64 (by omega) (by omega),BitVec.toNat_or,BitVec.ofInt_natCast,BitVec.ofInt_natCast,BitVec.toNat_ofNat,BitVec.toNat_ofNat,Nat.mod_eq_of_lt ha,Nat.mod_eq_of_lt hb]
theorem Zj (u b:Nat) (hb:b<256):u*256|||b=u*256+b:=by
 have h:=Nat.shiftLeft_add_eq_or_of_lt (i:=8) (b:=b) (by omega) u
 rw[Nat.shiftLeft_eq]at h
 exact h.symm
theorem a6V (a:Nat) (ha:a<72057594037927936):eL .shl (.int .u64 a) (.int .u64 8)=some (.int .u64 ((a*256:Nat):Int)):=by
 have h:eL .shl (.int .u64 a) (.int .u64 8)=some (.int .u64 (IntKind.u64.wrap ((a:Int)*2^8))):=rfl
 rw[h,wrap_u64 (by omega) (by omega)]
 simp
theorem abj (a:Nat) (ha:a<18446744073709551616):eL .xor (.int .u64 a) (.int .u64 9223372036854775808)=some (.int .u64 ((BitVec.ofNat 64 a^^^9223372036854775808#64).toNat:Int)):=by
 have h:eL .xor (.int .u64 a) (.int .u64 9223372036854775808)=some (.int .u64 (IntKind.u64.wrap (BitVec.ofInt 64 (a:Int)^^^BitVec.ofInt 64 9223372036854775808).toNat)):=rfl
 have aW:=(BitVec.ofNat 64 a^^^9223372036854775808#64).isLt
 have e:BitVec.ofInt 64 9223372036854775808=9223372036854775808#64:=by decide
 rw[h,BitVec.ofInt_natCast,e,wrap_u64 (by omega) (by omega)]
theorem a4S (x:BitVec 64):IntKind.i64.wrap (x.toNat:Int)=x.toInt:=by
 have e1:((2:Int)^IntKind.i64.bits)=18446744073709551616:=rfl
 have e2:((2:Int)^(IntKind.i64.bits - 1))=9223372036854775808:=rfl
 have aW:=x.isLt
 simp only[IntKind.wrap,e1,e2,IntKind.signed,Bool.true_and,decide_eq_true_eq,BitVec.toInt_eq_toNat_cond]
 have:(x.toNat:Int)%18446744073709551616=x.toNat:=by omega
 rw[this]
 split<;>split<;>omega
theorem a6W (s0 s:Hp) (l:Nat) (r:Rd) (h:RS s0 l r s):
  AC Tryz.prog 179 [.ptr l 0] s fun x s'=>RS s0 l (vM r).2 s'∧x= .v (.int .i64 (vM r).1):=by
 refine cR hm aad (by simp) ?_
 refine sq (c2 @gI @gJ) ?_
 refine bC (MM s0 s l r 8 (by omega) h) ?_
 rintro x s1 ⟨h1,ow,rfl⟩
 unfold vM
 have hl:=fun bs=>JY (r:=r) (n:=8) (bs:=bs)
 generalize lZ r 8=t at*
 obtain⟨bs,r1⟩:=t
 cases bs with
 |none=>
  simp only[Option.isSome_none,Option.getD_none]at*
  refine sq (c2 @gI @gJ) ?_
  exact⟨_,Hp.aH,h1⟩
 |some bs=>
  simp only[Option.isSome_some,Option.getD_some]at*
  have hl:=hl bs rfl
  refine sq (c2 @gI @gJ) ?_
  refine fS (fun f s'=> ∃j:Nat,j≤8∧s'=s1∧f 15= .sl (bs.map bN) ow∧f 16= .v (.int .i64 bs.length)∧f 17= .v (.int .i64 j)∧f 5= .v (.int .u64 (qj (bs.take j))))
   (fun f _=>match f 17 with| .v (.int _ n)=>(8 - n).toNat| _=>0) ⟨0,by omega,rfl,?_⟩ ?_
  ·refine sq (c3 @List.take_zero.{0} @gI @gJ) ?_
   rfl
  ·rintro f sA ⟨j,hj,rfl,f15,f16,f17,f5⟩
   have hb:=a0a (bs.take j)
   rw[List.length_take]at hb
   by_cases aW:(j:Int)<bs.length
   ·have uy:j<bs.length:=by omega
    have ap2:qj (bs.take j)<72057594037927936:=by
     refine Nat.lt_of_lt_of_le hb ?_
     refine Nat.le_trans (Nat.pow_le_pow_right (n:=256) (i:=min j bs.length) (j:=7) (by omega) (by omega)) (by decide)
    have gr:=SO (bs:=bs) uy
    have hbj:=a8s bs j uy
    generalize hB:bs.getD j 0=B at*
    have hBl:=B.toNat_lt
    have hw:IntKind.u64.wrap (B.toNat:Int)=B.toNat:=wrap_u64 (by omega) (by omega)
    generalize qj (bs.take j)=u at*
    have hor:eL .or (.int .u64 ((u*256:Nat):Int)) (.int .u64 (B.toNat:Int))=some (.int .u64 ((u*256+B.toNat:Nat):Int)):=by
     rw[aec _ _ (by omega) (by omega),Zj _ _ (by omega)]
    have SE:zA 1 (bs.map bN)[j]? =some (.eJ [.v (.int .u8 B.toNat)]):=by rw[gr];rfl
    simp -dsimp -implicitDefEqProofs (disch:=first|omega|assumption|(simp only[rL,Nat.reduceAdd];try omega)) only[f15,f16,f17,f5,aW,↓rD,rU,ev,ofConst,gS,↓reduceIte,Nat.reduceEqDiff,Nat.reduceAdd,Nat.reduceSub,Nat.reduceMul,Nat.reduceLeDiff,Nat.reduceLT,Int.reduceNeg,Int.reduceToNat,Int.reduceAdd,Int.reduceSub,Int.reduceMul,Int.reduceLT,Int.reduceLE,Int.reduceEq,rX,gI,gJ,List.drop_succ_cons,↓rF,rG,ne_eq,not_true_eq_false,not_false_eq_true,Int.reduceNe,List.getElem?_cons_zero,List.getElem?_cons_succ,mN,SE,a6V,hw,hor]
    refine⟨⟨j+1,by omega,by simp,?_⟩,by omega⟩
    rw[hbj]
   ·obtain rfl:j=8:=by omega
    have e8:bs.take 8=bs:=List.take_of_length_le (by omega)
    rw[e8]at f5 hb
    have qg:qj bs<18446744073709551616:=by
     refine Nat.lt_of_lt_of_le hb ?_
     rw[hl];decide
    simp -dsimp -implicitDefEqProofs (disch:=first|omega|assumption|(simp only[rL,Nat.reduceAdd];try omega)) only[f15,f16,f17,f5,aW,↓rD,rU,ev,ofConst,gS,↓reduceIte,Nat.reduceEqDiff,Nat.reduceAdd,Nat.reduceSub,Nat.reduceMul,Nat.reduceLeDiff,Nat.reduceLT,Int.reduceNeg,Int.reduceToNat,Int.reduceAdd,Int.reduceSub,Int.reduceMul,Int.reduceLT,Int.reduceLE,Int.reduceEq,rX,gI,gJ,List.drop_succ_cons,↓rF,rG,ne_eq,not_true_eq_false,not_false_eq_true,Int.reduceNe,List.getElem?_cons_zero,List.getElem?_cons_succ,abj,a4S]
    exact⟨_,Hp.aH,h1⟩
def CW (r:Rd):List UInt8×Rd:=((lZ r 32).1.getD zd,(lZ r 32).2)
theorem WA (r:Rd):(CW r).1.length=32:=by
 unfold CW
 have hl:=fun bs=>JY (r:=r) (n:=32) (bs:=bs)
 cases h:(lZ r 32).1 with
 |none=>rfl
 |some bs=>exact hl bs h
theorem a4j (s0 s:Hp) (l:Nat) (r:Rd) (h:RS s0 l r s):
  AC Tryz.prog 180 [.ptr l 0] s fun x s'=>RS s0 l (CW r).2 s'∧x=dg (CW r).1:=by
 refine cR hm aae (by simp) ?_
 have hq:=WA r
 refine sq (c2 @gI @gJ) ?_
 refine cP fun l2 n2=> ?_
 obtain⟨d2,e2,h⟩:=h.new (ob:=zc) n2
 refine sq (c2 @gI @gJ) ?_
 refine cP fun l3 n3=> ?_
 obtain⟨d3,e3,h⟩:=h.new (ob:=zc) n3
 obtain⟨d32,e3⟩:=Hp.vD e3
 refine sq (c2 @gI @gJ) ?_
 refine bC (MM _ _ l r 32 (by omega) h) ?_
 rintro x s1 ⟨h1,ow,rfl⟩
 have g2:=h1.get d2 (by rw[Hp.aX _ _ (Ne.symm d32)];exact Hp.bt _ _ _)
 have g3:=h1.get d3 (Hp.bt _ _ _)
 have tH: ∀(x y:Ob),RS s0 l (lZ r 32).2 ((s1.set l3 x).set l2 y):=fun x y=>by
  have:=(h1.other (ob:=x) d3).other (ob:=y) d2
  rw[Hp.set_set]at this
  refine this.base ?_
  rw[Hp.mZ _ d32,Hp.set_set]
  exact Hp.bT (Hp.bT Hp.aH e2) e3
 unfold CW at hq⊢
 have hl:=fun bs=>JY (r:=r) (n:=32) (bs:=bs)
 generalize lZ r 32=t at*
 obtain⟨bs,r1⟩:=t
 unfold zc at g2 g3
 have hz:(List.replicate 32 (AV.v (Value.int IntKind.u8 0))).length=32:=rfl
 cases bs with
 |none=>
  simp only[Option.isSome_none,Option.getD_none]at*
  simp -dsimp -implicitDefEqProofs (disch:=first|omega|assumption|(simp only[rL,Nat.reduceAdd];try omega)) only[go_sem,↓reduceIte,Nat.reduceEqDiff,Nat.reduceAdd,Nat.reduceSub,Nat.reduceMul,Nat.reduceLeDiff,Nat.reduceLT,Int.reduceNeg,Int.reduceToNat,Int.reduceAdd,Int.reduceSub,Int.reduceMul,Int.reduceLT,Int.reduceLE,Int.reduceEq,Int.reduceNe,gI,gJ,Hp.aV g3,Hp.dG g3,QK (Hp.aV g3)]
  refine XF ?_ g3 ?_ ?_
  ·simp[dS]
  ·simp
  have e:putAt (List.replicate 32 (AV.v (Value.int IntKind.u8 0))) 0 (flat (List.take 32 []))=zd.map bN:=rfl
  rw[e]
  refine sq (c7 @hq @d32 (Ne.symm d32) (Hp.aV g2) (Hp.dG g2) @gI @gJ) ?_
  exact⟨_,Hp.aH,tH _ _⟩
 |some bs=>
  simp only[Option.isSome_some,Option.getD_some]at*
  have hl:=hl bs rfl
  simp -dsimp -implicitDefEqProofs (disch:=first|omega|assumption|(simp only[rL,Nat.reduceAdd];try omega)) only[go_sem,↓reduceIte,Nat.reduceEqDiff,Nat.reduceAdd,Nat.reduceSub,Nat.reduceMul,Nat.reduceLeDiff,Nat.reduceLT,Int.reduceNeg,Int.reduceToNat,Int.reduceAdd,Int.reduceSub,Int.reduceMul,Int.reduceLT,Int.reduceLE,Int.reduceEq,Int.reduceNe,gI,gJ,Hp.aV g3,Hp.dG g3,QK (Hp.aV g3)]
  refine XF ?_ g3 ?_ ?_
  ·rw[JK];trivial
  ·simp
  have e:putAt (List.replicate 32 (AV.v (Value.int IntKind.u8 0))) 0 (flat (List.take 32 (List.map bN bs)))=bs.map bN:=by
   rw[List.take_of_length_le (by simp[hl]),JQ,QI (by simp[hl])]
  rw[e]
  refine sq (c7 @hl @d32 (Ne.symm d32) (Hp.aV g2) (Hp.dG g2) @gI @gJ) ?_
  exact⟨_,Hp.aH,tH _ _⟩
def FP (r:Rd):Rd:=if 0<r.b.length then Aa r 22 else r
theorem a6X (s0 s:Hp) (l:Nat) (r:Rd) (h:RS s0 l r s):
  AC Tryz.prog 150 [.ptr l 0] s fun x s'=>RS s0 l (FP r) s'∧x= .v (.int .i64 (FP r).e):=by
 obtain⟨ow,g⟩:=h.cell
 refine cR hm a9Q (by simp) ?_
 unfold FP
 by_cases c:0<r.b.length
 ·have c':(0:Int)<r.b.length:=by omega
  refine sq (c4 (Hp.aV g) @c' @gI @gJ) ?_
  refine bC (JX s0 s l r 22 h) ?_
  intro x s2 h2
  obtain⟨ow2,g2⟩:=h2.cell
  rw[if_pos c]
  refine sq (c3 (Hp.aV g2) @gI @gJ) ?_
  exact⟨_,Hp.aH,h2⟩
 ·have c': ¬(0:Int)<r.b.length:=by omega
  rw[if_neg c]
  refine sq (c4 (Hp.aV g) @c' @gI @gJ) ?_
  exact⟨_,Hp.aH,h⟩
def CF (n:Nat):List UInt8:= [UInt8.ofNat (n>>>16),UInt8.ofNat (n>>>8),UInt8.ofNat n]
def CX (r:List Int):List UInt8:=UInt8.ofNat r.length::r.flatMap wU
theorem JI (n:Nat):(CF n).length=3:=rfl
theorem W1 (r:List Int):(r.flatMap wU).length=8*r.length:=by
 induction r with
 |nil=>rfl
 |cons a r ih=>rw[List.flatMap_cons,List.length_append,ih,Wz,List.length_cons];omega
theorem Qi (r:List Int):(CX r).length=1+8*r.length:=by
 rw[CX,List.length_cons,W1];omega
theorem Zk (n k:Nat) (hk:k≤64):eL .shr (.int .i64 (n:Int)) (.int .u64 (k:Int))=some (.int .i64 ((n>>>k:Nat):Int)):=by
 have e:eL .shr (.int .i64 (n:Int)) (.int .u64 (k:Int))=some (.int .i64 ((n:Int).fdiv (2^k))):=by
  have hm:min k IntKind.i64.bits=k:=Nat.min_eq_left hk
  simp[eL,pX,DX,hm]
 rw[e,Nat.shiftRight_eq_div_pow]
 congr 2
 rw[show((2:Int)^k)=((2^k:Nat):Int) by simp]
 exact(Int.ofNat_fdiv _ _).symm
theorem WB (s0 s:Hp) (l:Nat) (bs:List UInt8) (n:Nat) (hn:n≤1048576) (h:WS s0 l bs s) (hl:bs.length≤1000000000000):
  AC Tryz.prog 137 [.ptr l 0,.v (.int .i64 n)] s fun _ s'=>WS s0 l (bs++CF n) s':=by
 refine cR hm a9F (by simp) ?_
 have OF:eL .shr (.int .i64 (n:Int)) (.int .u64 16)=some (.int .i64 ((n>>>16:Nat):Int)):=Zk n 16 (by omega)
 have h8:eL .shr (.int .i64 (n:Int)) (.int .u64 8)=some (.int .i64 ((n>>>8:Nat):Int)):=Zk n 8 (by omega)
 have c1:(0:Int)≤n:=by omega
 have c2:(n:Int)≤1048576:=by omega
 refine sq (c5 @OF @h8 @Fh @c1 @c2) ?_
 refine ik Hp.aH (by simp[dS,AV.cells]) fun o1 s1 h1=> ?_
 refine sq (c5 @OF @h8 @Fh @c1 @c2) ?_
 refine bC (R8 s0 s1 l bs (CF n) o1 (h.mono h1.sub) (by rw[JI];omega)) ?_
 intro r s2 h2
 refine nT ?_
 exact⟨s2,Hp.aH,h2⟩
def bA (r:List Int):List AV:=r.map fun n=> .v (.int .i64 n)
theorem a8t {r:List Int}{i:Nat} (h:i<r.length):(bA r)[i]? =some (.v (.int .i64 (r.getD i 0))):=by simp[bA,h,List.getD]
theorem kP {r:List Int}:(bA r).length=r.length:=by simp[bA]
theorem MR (s0 s:Hp) (l:Nat) (bs:List UInt8) (row:List Int) (o:Own) (hr:row.length≤255) (h:WS s0 l bs s) (hl:bs.length≤1000000000000):
  AC Tryz.prog 135 [.ptr l 0,.sl (bA row) o] s fun _ s'=>WS s0 l (bs++CX row) s':=by
 refine cR hm a9D (by simp) ?_
 have c2: ¬(255:Int)<row.length:=by omega
 have hv:=kP (r:=row)
 refine sq (c3 @hv @c2 @Fh) ?_
 refine bC (Fj s0 s l bs _ h (by omega)) ?_
 intro r s1 h1
 refine sq @hv ?_
 refine fS (fun f s'=> ∃j:Nat,j≤row.length∧WS s0 l (bs++(UInt8.ofNat row.length::(row.take j).flatMap wU)) s'∧f 0= .ptr l 0∧f 17= .sl (bA row) o∧f 18= .v (.int .i64 row.length)∧f 19= .v (.int .i64 j))
  (fun f _=>match f 19 with| .v (.int _ n)=>(row.length - n).toNat| _=>0) ⟨0,by omega,by simpa using h1,?_⟩ ?_
 ·exact TT
 ·rintro f s2 ⟨j,hj,hw,f0,f17,f18,f19⟩
  by_cases aW:(j:Int)<row.length
  ·have uy:j<row.length:=by omega
   have gr:=a8t uy
   refine sq (c7 @f0 @f17 @f18 @f19 @aW @mN @gr) ?_
   refine bC (a8q s0 s2 l _ _ hw ?_) ?_
   ·have:=W1 (row.take j)
    rw[List.length_append,List.length_cons,this,List.length_take];omega
   intro r s3 h3
   refine sq (c4 @f0 @f17 @f18 @f19) ?_
   refine⟨⟨j+1,by omega,?_,by simp⟩,by omega⟩
   have e:(row.take (j+1)).flatMap wU=(row.take j).flatMap wU++wU (row.getD j 0):=by
    rw[List.take_succ,List.getElem?_eq_getElem uy,List.flatMap_append]
    simp[List.getD,uy]
   rw[e]
   simpa using h3
  ·obtain rfl:j=row.length:=by omega
   refine sq (c5 @f0 @f17 @f18 @f19 @aW) ?_
   refine⟨s2,Hp.aH,?_⟩
   rw[List.take_length]at hw
   exact hw
theorem a6Y (s0 s:Hp) (l:Nat) (bs:List UInt8) (h:WS s0 l bs s):
  AC Tryz.prog 139 [.ptr l 0] s fun r s'=>s'=s∧r= .v (.int .i64 0):=by
 obtain⟨ow,g⟩:=h.cell
 refine cR hm a9H (by simp) ?_
 have e:cK false 1 ([AV.sl (bs.map bN) ow,.v (.int .i64 0)].drop 1)= .v (.int .i64 0):=rfl
 unfold WC at g
 refine sq (c2 (Hp.aV g) @e) ?_
 exact⟨s,Hp.aH,rfl⟩
def yS (kz:Nat) (r:Rd):Nat×Rd:=
 match (lZ r 3).1 with
 |none=>(0,(lZ r 3).2)
 |some bs=>if min kz 1048576<qj bs then(0,Aa (lZ r 3).2 10)else(qj bs,(lZ r 3).2)
theorem a0b (a b:Nat) (ha:a<4611686018427387904) (hb:b<4611686018427387904):eL .or (.int .i64 a) (.int .i64 b)=some (.int .i64 ((a|||b:Nat):Int)):=by
 have h:eL .or (.int .i64 a) (.int .i64 b)=some (.int .i64 (IntKind.i64.wrap (BitVec.ofInt 64 (a:Int)|||BitVec.ofInt 64 (b:Int)).toNat)):=rfl
 have ho:a|||b<4611686018427387904:=Nat.or_lt_two_pow (n:=62) ha hb
 rw[h,BitVec.toNat_or,BitVec.ofInt_natCast,BitVec.ofInt_natCast,BitVec.toNat_ofNat,BitVec.toNat_ofNat,Nat.mod_eq_of_lt (by omega),Nat.mod_eq_of_lt (by omega),wrap_i64 (by omega) (by omega)]
theorem Rs (b:UInt8) (k:Nat) (hk:k≤16):eL .shl (.int .i64 (b.toNat:Int)) (.int .u64 (k:Int))=some (.int .i64 ((b.toNat*2^k:Nat):Int)):=by
 have hb:=b.toNat_lt
 have h:eL .shl (.int .i64 (b.toNat:Int)) (.int .u64 (k:Int))=some (.int .i64 (IntKind.i64.wrap ((b.toNat:Int)*2^(min (k:Int).toNat 64)))):=by
  have h0: ¬(k:Int)<0:=by omega
  simp only[eL,pX,DX,h0,if_false,if_true];rfl
 have hm:min (k:Int).toNat 64=k:=by omega
 have hp:2^k≤65536:=Nat.pow_le_pow_right (n:=2) (by omega) hk
 have hle:b.toNat*2^k≤256*65536:=Nat.mul_le_mul (by omega) hp
 rw[h,hm,show((b.toNat:Int)*2^k)=((b.toNat*2^k:Nat):Int) by simp,wrap_i64 (by omega) (by omega)]
theorem a6Z (a b c:UInt8):a.toNat*65536|||b.toNat*256|||c.toNat=qj [a,b,c]:=by
 have ha:=a.toNat_lt;have hb:=b.toNat_lt;have hc:=c.toNat_lt
 have h1:a.toNat*65536|||b.toNat*256=a.toNat*65536+b.toNat*256:=by
  have:=Nat.shiftLeft_add_eq_or_of_lt (a:=a.toNat) (i:=16) (b:=b.toNat*256) (by omega)
  rw[Nat.shiftLeft_eq]at this;exact this.symm
 have h2:(a.toNat*256+b.toNat)*256|||c.toNat=(a.toNat*256+b.toNat)*256+c.toNat:=Zj _ _ hc
 rw[h1,show a.toNat*65536+b.toNat*256=(a.toNat*256+b.toNat)*256 by omega,h2]
 simp[qj]
theorem abk {bs:List UInt8} (h:bs.length=3):qj bs<16777216:=by
 have:=a0a bs;rw[h]at this;exact this
theorem WD (s0 s:Hp) (l:Nat) (kz:Nat) (OG:kz≤1048576) (r:Rd) (h:RS s0 l r s):
  AC Tryz.prog 181 [.ptr l 0,.v (.int .i64 kz)] s fun x s'=>RS s0 l (yS kz r).2 s'∧x= .v (.int .i64 (yS kz r).1):=by
 refine cR hm aaf (by simp) ?_
 refine nT ?_
 refine bC (MM s0 s l r 3 (by omega) h) ?_
 rintro x s1 ⟨h1,ow,rfl⟩
 unfold yS
 have hl:=fun bs=>JY (r:=r) (n:=3) (bs:=bs)
 generalize lZ r 3=t at*
 obtain⟨bs,r1⟩:=t
 cases bs with
 |none=>
  simp only[Option.isSome_none,Option.getD_none]at*
  refine nT ?_
  exact⟨_,Hp.aH,h1⟩
 |some bs=>
  simp only[Option.isSome_some,Option.getD_some]at*
  have hl:=hl bs rfl
  have aW:=abk hl
  match bs,hl with
  | [a,b,c],_=>
   have ea:zA 1 (some (bN a))=some (.eJ [.v (.int .u8 a.toNat)]):=rfl
   have eb:zA 1 (some (bN b))=some (.eJ [.v (.int .u8 b.toNat)]):=rfl
   have ec:zA 1 (some (bN c))=some (.eJ [.v (.int .u8 c.toNat)]):=rfl
   have ha:=a.toNat_lt;have hb:=b.toNat_lt;have hc:=c.toNat_lt
   have wa:IntKind.i64.wrap (a.toNat:Int)=a.toNat:=wrap_i64 (by omega) (by omega)
   have wb:IntKind.i64.wrap (b.toNat:Int)=b.toNat:=wrap_i64 (by omega) (by omega)
   have wc:IntKind.i64.wrap (c.toNat:Int)=c.toNat:=wrap_i64 (by omega) (by omega)
   have sa:eL .shl (.int .i64 (a.toNat:Int)) (.int .u64 16)=some (.int .i64 ((a.toNat*65536:Nat):Int)):=Rs a 16 (by omega)
   have sb:eL .shl (.int .i64 (b.toNat:Int)) (.int .u64 8)=some (.int .i64 ((b.toNat*256:Nat):Int)):=Rs b 8 (by omega)
   have o1:eL .or (.int .i64 ((a.toNat*65536:Nat):Int)) (.int .i64 ((b.toNat*256:Nat):Int))=some (.int .i64 ((a.toNat*65536|||b.toNat*256:Nat):Int)):=a0b _ _ (by omega) (by omega)
   have hor:a.toNat*65536|||b.toNat*256<16777216:=Nat.or_lt_two_pow (n:=24) (by omega) (by omega)
   have o2:eL .or (.int .i64 ((a.toNat*65536|||b.toNat*256:Nat):Int)) (.int .i64 (c.toNat:Int))=some (.int .i64 ((qj [a,b,c]:Nat):Int)):=by
    rw[a0b _ _ (by omega) (by omega),a6Z]
   simp -dsimp -implicitDefEqProofs (disch:=first|omega|assumption|(simp only[rL,Nat.reduceAdd];try omega)) only[mN,ea,eb,ec,↓rD,rU,ev,ofConst,gS,simprocAttr,rX,List.drop_succ_cons,↓rF,rG,ne_eq,not_true_eq_false,not_false_eq_true,Int.reduceNe,List.getElem?_cons_zero,List.getElem?_cons_succ,↓rK,rM,wa,wb,wc,sa,sb,o1,o2]
   have em:min (kz:Int) 1048576=((min kz 1048576:Nat):Int):=by omega
   by_cases cc:min kz 1048576<qj [a,b,c]
   ·have TW:((min kz 1048576:Nat):Int)<(qj [a,b,c]:Int):=by omega
    refine sq (c2 @em @TW) ?_
    refine bC (JX s0 s1 l r1 10 h1) ?_
    intro x s2 h2
    refine nT ?_
    rw[if_pos cc]
    exact⟨_,Hp.aH,h2,rfl⟩
   ·have TW: ¬((min kz 1048576:Nat):Int)<(qj [a,b,c]:Int):=by omega
    refine sq (c2 @em @TW) ?_
    rw[if_neg cc]
    exact⟨_,Hp.aH,h1,rfl⟩
theorem XK (kz:Nat) (r:Rd):(yS kz r).1≤kz∧(yS kz r).1≤1048576:=by
 unfold yS
 split
 ·simp
 ·split
  ·simp
  ·simp only;omega
def wO:Nat→Rd→List Int→List Int×Rd
 |0,r,acc=>(acc,r)
 |n+1,r,acc=>wO n (vM r).2 (if(vM r).2.e=0 then acc++ [(vM r).1]else acc)
def ve (kz:Nat) (r:Rd):List Int×Rd:=
 let k:=jU r
 let g:=wO k.1.toNat (if kz<k.1.toNat then Aa k.2 10 else k.2) []
 if g.2.e=0 then g else([],g.2)
theorem XL: ∀(n:Nat) (r:Rd) (acc:List Int),(wO n r acc).1.length≤acc.length+n
 |0,r,acc=>by simp[wO]
 |n+1,r,acc=>by
  rw[wO]
  have:=XL n (vM r).2 (if(vM r).2.e=0 then acc++ [(vM r).1]else acc)
  split at this
  ·simp only[List.length_append,List.length_singleton]at this
   rw[if_pos (by assumption)];omega
  ·rw[if_neg (by assumption)];omega
theorem R9 (kz:Nat) (r:Rd):(ve kz r).1.length≤255:=by
 unfold ve
 have h:=XL (jU r).1.toNat (if kz<(jU r).1.toNat then Aa (jU r).2 10 else(jU r).2) []
 have hb:=(jU r).1.toNat_lt
 simp only
 generalize wO (jU r).1.toNat (if kz<(jU r).1.toNat then Aa (jU r).2 10 else(jU r).2) []=g at*
 by_cases c:g.2.e=0
 ·rw[if_pos c];simp only[List.length_nil]at h;omega
 ·rw[if_neg c];simp
theorem RS.full {s0 s:Hp}{l:Nat}{r:Rd} (h:RS s0 l r s):RS (s.del l) l r s:=by
 obtain⟨ow,hc⟩:=h.cell
 refine⟨ow,fun x o hx=> ?_⟩
 by_cases e:x=l
 ·subst e;rw[Hp.bt]at hx;rw[hc];exact hx
 ·rw[Hp.aX _ _ e,Hp.pY _ e]at hx;exact hx
theorem Zl {s0 s:Hp}{l:Nat}{ob:Ob} (h:(s0.set l ob).sub s) (h0:s0 l=none):s0.sub (s.del l):=fun x o hx=>by
 have bI:x≠l:=by rintro rfl;rw[h0]at hx;cases hx
 rw[Hp.pY _ bI];exact h x o (by rw[Hp.aX _ _ bI];exact hx)
theorem RO.step {s0 s s':Hp}{l k:Nat}{r r':Rd}{ow:Own}{xs:List AV}{o:Own} (hO:dx (s0.set l (RC r ow)) s k xs o) (h0:s0 l=none) (h':RS (s.del l) l r' s'): ∃vh,dx (s0.set l (RC r' vh)) s' k xs o:=by
 obtain⟨vh,h2⟩:=h'
 refine⟨vh,?_,?_⟩
 ·refine Hp.cy ?_ h2
  exact Hp.A3 (Zl hO.sub h0)
 ·have h3:=hO.2
  cases o with
  |buf g c=>
   have bI:g≠l:=by rintro rfl;have:=h3.1;rw[Hp.bt]at this;cases this
   have h4:=h3.1
   rw[Hp.aX _ _ bI]at h4
   exact⟨by rw[Hp.aX _ _ bI];exact h4,h2 _ _ (by rw[Hp.aX _ _ bI,Hp.pY _ bI];exact h3.2)⟩
  | _=>exact h3
theorem RO.rs {s0 s:Hp}{l k:Nat}{r:Rd}{ow:Own}{xs:List AV}{o:Own} (hO:dx (s0.set l (RC r ow)) s k xs o):RS s0 l r s:=⟨ow,hO.sub⟩
theorem MT (s0 s:Hp) (l:Nat) (kz:Nat) (OG:kz≤1048576) (r:Rd) (h0:s0 l=none) (h:RS s0 l r s):
  AC Tryz.prog 148 [.ptr l 0,.v (.int .i64 kz)] s fun x s'=>RS s0 l (ve kz r).2 s'∧ ∃ow,x= .sl (bA (ve kz r).1) ow:=by
 refine cR hm a9O (by simp) ?_
 refine nT ?_
 refine bC (JT s0 s l r h) ?_
 rintro x s1 ⟨h1,rfl⟩
 unfold ve
 generalize jU r=k at*
 obtain⟨n,r1⟩:=k
 simp only at h1⊢
 have hn:=n.toNat_lt
 have wn:IntKind.i64.wrap (n.toNat:Int)=n.toNat:=wrap_i64 (by omega) (by omega)
 have hQ: ∃r2,r2=(if kz<n.toNat then Aa r1 10 else r1):=⟨_,rfl⟩
 obtain⟨r2,qB⟩:=hQ
 rw[←qB]
 refine sq @wn ?_
 refine HF (fun f s'=>f 0= .ptr l 0∧f 5= .v (.int .i64 n.toNat)∧RS s0 l r2 s') ?_ ?_ ?_
 ·intro c
  have c':kz<n.toNat:=by have:=of_decide_eq_true c;omega
  rw[if_pos c']at qB
  refine nT ?_
  refine bC (JX s0 s1 l r1 10 h1) ?_
  intro x s2 h2
  refine sq @wn ?_
  rw[qB];exact h2
 ·intro c
  have c': ¬kz<n.toNat:=by have:=of_decide_eq_false c;omega
  rw[if_neg c']at qB
  refine sq @wn ?_
  rw[qB];exact h1
 rintro f s2 ⟨f0,f5,h2⟩
 generalize n.toNat=N at*
 refine sq (c2 @f0 @f5) ?_
 refine fS (fun f s'=> ∃(j:Nat) (r':Rd) (acc:List Int) (o ow:Own),j≤N∧wO (N - j) r' acc=wO N r2 []∧acc.length≤j∧dx (s0.set l (RC r' ow)) s' 1 (bA acc) o∧f 0= .ptr l 0∧f 6= .sl (bA acc) o∧f 16= .v (.int .i64 N)∧f 17= .v (.int .i64 j))
  (fun f _=>match f 17 with| .v (.int _ n)=>(N - n).toNat| _=>0) ?_ ?_
 ·obtain⟨ow,h2⟩:=h2
  refine⟨0,r2,[],.nil,ow,by omega,rfl,by simp,dx.nil h2,?_⟩
  refine sq (c2 @f0 @f5) ?_
  rfl
 ·rintro g s3 ⟨j,r',acc,o,ow,hj,he,lj,hO,g0,g6,Gu,Gv⟩
  by_cases aW:(j:Int)<N
  ·refine sq (c5 @g0 @g6 @Gu @Gv @aW) ?_
   refine bC (a6W (s3.del l) s3 l r' (RO.rs hO).full) ?_
   rintro x s4 ⟨h4,rfl⟩
   have afW:wO (N - j) r' acc=wO (N -(j+1)) (vM r').2 (if(vM r').2.e=0 then acc++ [(vM r').1]else acc):=by
    rw[show N - j=(N -(j+1))+1 by omega];rfl
   rw[afW]at he
   obtain⟨ow4,TY⟩:=RO.step hO h0 h4
   generalize vM r'=q at*
   obtain⟨x,r4⟩:=q
   simp only at h4 TY he⊢
   obtain⟨TZ,g5⟩:=h4.cell
   have em:cK false 1 ([AV.sl (r4.b.map bN) TZ,.v (.int .i64 r4.e)].drop 1)= .v (.int .i64 r4.e):=rfl
   by_cases c:r4.e=0
   ·rw[if_pos c]at he
    refine sq (c7 @g0 @g6 @Gu @Gv (Hp.aV g5) @em @c) ?_
    refine ik Hp.aH (by simp[dS,AV.cells]) fun o6 s6 h6=> ?_
    refine sq (c4 @g0 @g6 @Gu @Gv) ?_
    refine mc (TY.mono h6.sub) (by simp[dS,bA,AV.cells]) (by simp[dS,AV.cells]) (by simp[kP];omega) (by simp[kP];omega) fun o7 s7 h7=> ?_
    refine sq (c4 @g0 @g6 @Gu @Gv) ?_
    have ea:bA acc++ [AV.v (.int .i64 x)]=bA (acc++ [x]):=by simp[bA]
    rw[ea]at h7⊢
    exact⟨⟨j+1,r4,acc++ [x],o7,ow4,by omega,he,by simp;omega,h7,rfl,by simp⟩,by omega⟩
   ·rw[if_neg c]at he
    refine sq (c7 @g0 @g6 @Gu @Gv (Hp.aV g5) @em @c) ?_
    exact⟨⟨j+1,r4,acc,o,ow4,by omega,he,by omega,TY,rfl,by simp⟩,by omega⟩
  ·obtain rfl:j=N:=by omega
   rw[Nat.sub_self]at he
   have Lr:wO j r2 []=(acc,r'):=by rw[←he];rfl
   rw[Lr]
   obtain⟨TZ,g5⟩:=(RO.rs hO).cell
   have em:cK false 1 ([AV.sl (r'.b.map bN) TZ,.v (.int .i64 r'.e)].drop 1)= .v (.int .i64 r'.e):=rfl
   by_cases c:r'.e=0
   ·refine sq (c8 @g0 @g6 @Gu @Gv @aW (Hp.aV g5) @em @c) ?_
    exact⟨_,Hp.aH,RO.rs hO,o,rfl⟩
   ·refine sq (c8 @g0 @g6 @Gu @Gv @aW (Hp.aV g5) @em @c) ?_
    exact⟨_,Hp.aH,RO.rs hO,.nil,rfl⟩
def headD (l:List (List UInt8)) (n:Nat):List UInt8:=if n=0 then zd else l.getD (n - 1) zd
def FW (n:Int) (h d:List UInt8) (st:Int) (fk:AV):List AV:=TV n h d++ [.v (.int .i64 st),fk]
structure Fw where
 o:zB
 st:Int
 fk:Option (zB×zB)
def Fw.ok (F:Fw):Prop:=F.o.ok∧ ∀a b,F.fk=some (a,b)→a.ok∧b.ok
def fwC (o:zB) (st:Int) (p:AV):List AV:=FW o.n o.h o.d st p
def FS (s0:Hp) (l:Nat) (F:Fw) (s:Hp):Prop:=
 match F.fk with
 |none=>(s0.set l (.cells (fwC F.o F.st (.v (.pointer none))))).sub s
 |some (a,b)=> ∃lf,s0 lf=none∧lf≠l∧((s0.set l (.cells (fwC F.o F.st (.ptr lf 0)))).set lf (.cells (a.C++b.C))).sub s
theorem a4T (s0 s:Hp) (l:Nat) (bs:List UInt8) (b:Bool) (h:WS s0 l bs s) (hl:bs.length+1≤70368744177664):
  AC Tryz.prog 134 [.ptr l 0,.v (.bool b)] s fun _ s'=>WS s0 l (bs++ [if b then 1 else 0]) s':=by
 refine cR hm a9C (by simp) ?_
 cases b
 ·refine sq (c2 @gI @gJ) ?_
  refine bC (Fj s0 s l bs 0 h hl) ?_
  intro r s1 h1
  refine sq (c2 @gI @gJ) ?_
  exact⟨_,Hp.aH,h1⟩
 ·refine sq (c2 @gI @gJ) ?_
  refine bC (Fj s0 s l bs 1 h hl) ?_
  intro r s1 h1
  refine sq (c2 @gI @gJ) ?_
  exact⟨_,Hp.aH,h1⟩
theorem a5D (a b:List UInt8) (o o2:Own) (s:Hp) (ha:a.length≤70368744177664):
  AC Tryz.prog 151 [.sl (a.map bN) o,.sl (b.map bN) o2] s fun x s'=>s'=s∧x= .v (.bool (decide (a=b))):=by
 refine cR hm a9R (by simp) ?_
 by_cases c:a.length=b.length
 ·have c':(a.length:Int)=b.length:=by omega
  refine sq (c3 @c' @gI @gJ) ?_
  rw[←c']
  refine fS (fun f s'=> ∃j:Nat,j≤a.length∧s'=s∧f 0= .sl (a.map bN) o∧f 1= .sl (b.map bN) o2∧f 12= .v (.int .i64 a.length)∧f 13= .v (.int .i64 j)∧a.take j=b.take j)
   (fun f _=>match f 13 with| .v (.int _ n)=>(a.length - n).toNat| _=>0) ⟨0,by omega,rfl,?_⟩ ?_
  ·simp -dsimp -implicitDefEqProofs (disch:=first|omega|assumption|(simp only[rL,Nat.reduceAdd];try omega)) only[go_sem,simprocAttr,gI,gJ,List.take_zero]
  ·rintro f sA ⟨j,hj,rfl,f0,f1,f12,f13,ht⟩
   by_cases aW:(j:Int)<a.length
   ·have uy:j<a.length:=by omega
    have Ly:j<b.length:=by omega
    have e1:zA 1 (a.map bN)[j]? =some (.eJ [.v (.int .u8 (a.getD j 0).toNat)]):=by rw[SO uy];rfl
    have e2:zA 1 (b.map bN)[j]? =some (.eJ [.v (.int .u8 (b.getD j 0).toNat)]):=by rw[SO Ly];rfl
    simp -dsimp -implicitDefEqProofs (disch:=first|omega|assumption|(simp only[rL,Nat.reduceAdd];try omega)) only[f0,f1,f12,f13,aW,mN,e1,e2,↓rD,rU,ev,ofConst,gS,simprocAttr,rX,gI,gJ,List.drop_succ_cons,↓rF,rG,ne_eq,not_true_eq_false,not_false_eq_true,Int.reduceNe,List.getElem?_cons_zero,List.getElem?_cons_succ]
    by_cases hx:a.getD j 0=b.getD j 0
    ·have Gn:(((a.getD j 0).toNat:Int)=(b.getD j 0).toNat)=True:=by rw[hx];simp
     simp -dsimp -implicitDefEqProofs (disch:=first|omega|assumption|(simp only[rL,Nat.reduceAdd];try omega)) only[f0,f1,f12,f13,aW,Gn,↓rD,rU,ev,ofConst,gS,simprocAttr,rX,gI,gJ,List.drop_succ_cons,↓rF,rG,ne_eq,not_true_eq_false,not_false_eq_true,Int.reduceNe,List.getElem?_cons_zero,List.getElem?_cons_succ]
     refine⟨⟨j+1,by omega,by simp,?_⟩,by omega⟩
     rw[List.take_succ,List.take_succ,ht,List.getElem?_eq_getElem uy,List.getElem?_eq_getElem Ly]
     simp[List.getD,uy,Ly]at hx
     rw[hx]
    ·have Gn:(((a.getD j 0).toNat:Int)=(b.getD j 0).toNat)=False:=by
      simp only[eq_iff_iff,iff_false]
      intro h
      exact hx (UInt8.toNat_inj.1 (by omega))
     simp -dsimp -implicitDefEqProofs (disch:=first|omega|assumption|(simp only[rL,Nat.reduceAdd];try omega)) only[f0,f1,f12,f13,aW,Gn,↓rD,rU,ev,ofConst,gS,simprocAttr,rX,gI,gJ,List.drop_succ_cons,↓rF,rG,ne_eq,not_true_eq_false,not_false_eq_true,Int.reduceNe,List.getElem?_cons_zero,List.getElem?_cons_succ]
     refine⟨sA,Hp.aH,rfl,?_⟩
     have:a≠b:=by rintro rfl;exact hx rfl
     simp[this]
   ·obtain rfl:j=a.length:=by omega
    simp -dsimp -implicitDefEqProofs (disch:=first|omega|assumption|(simp only[rL,Nat.reduceAdd];try omega)) only[f0,f1,f12,f13,aW,↓rD,rU,ev,ofConst,gS,simprocAttr,rX,gI,gJ,List.drop_succ_cons,↓rF,rG,ne_eq,not_true_eq_false,not_false_eq_true,Int.reduceNe,List.getElem?_cons_zero,List.getElem?_cons_succ]
    refine⟨sA,Hp.aH,rfl,?_⟩
    rw[List.take_of_length_le (Nat.le_refl _),List.take_of_length_le (by omega)]at ht
    simp[ht]
 ·have c':((a.length:Int)=b.length)=False:=by simp only[eq_iff_iff,iff_false];omega
  refine sq (c3 @c' @gI @gJ) ?_
  refine⟨s,Hp.aH,rfl,?_⟩
  have:a≠b:=by rintro rfl;exact c rfl
  simp[this]
def CG (r:Rd):Bool×Rd:=(decide ((jU r).1=1),if 1<(jU r).1.toNat then Aa (jU r).2 21 else(jU r).2)
theorem a4U (s0 s:Hp) (l:Nat) (r:Rd) (h:RS s0 l r s):
  AC Tryz.prog 147 [.ptr l 0] s fun x s'=>RS s0 l (CG r).2 s'∧x= .v (.bool (CG r).1):=by
 refine cR hm a9N (by simp) ?_
 refine sq (c2 @gI @gJ) ?_
 refine bC (JT s0 s l r h) ?_
 rintro x s1 ⟨h1,rfl⟩
 unfold CG
 generalize jU r=t at*
 obtain⟨b,r1⟩:=t
 simp only at h1⊢
 have hb:decide ((b.toNat:Int)=1)=decide (b=1):=by
  have:((b.toNat:Int)=1)↔b=1:=by
   rw[←UInt8.toNat_inj]
   show((b.toNat:Int)=1)↔b.toNat=1
   omega
  simp only[this]
 by_cases c:1<b.toNat
 ·have c':(1:Int)<b.toNat:=by omega
  refine sq (c3 @c' @gI @gJ) ?_
  refine bC (JX s0 s1 l r1 21 h1) ?_
  intro x s2 h2
  rw[if_pos c]
  refine sq (c3 @hb @gI @gJ) ?_
  exact⟨_,Hp.aH,h2⟩
 ·have c': ¬(1:Int)<b.toNat:=by omega
  rw[if_neg c]
  refine sq (c4 @c' @hb @gI @gJ) ?_
  exact⟨_,Hp.aH,h1⟩
end Go.Proofs.YtonldhgdjjfahaaGreat
