import Derived.Test.YtonldhgdjjfahaaGreatMB
import Derived.Test.YtonldhgdjjfahaaGreatProg
import Derived.KernelRfl
set_option linter.all false
namespace Go.Av
open Go
inductive Ex where
 |norm
 |exit (id:Nat)
 |ret
inductive uq where
 |skip
 |plain (ops:List gi)
 |draw (ops:List gi) (order:List CO)
 |seq (a b:uq)
 |cond (c:Operand) (a b:uq)
 |block (id:Nat) (a:uq)
 |loop (a:uq)
 |exit (id:Nat)
 |ret
 |refuse
def nth (xs:List gi) (i:Nat):gi:=xs.getD i {dst:=none,op:= .mv (.const (.bool true)),guard:=none}
def vd (n:Fr→Hp→Prop) (K:Ex→Fr→Hp→Prop):Ex→Fr→Hp→Prop
 | .norm=>n
 |e=>K e
def BB (id:Nat) (K:Ex→Fr→Hp→Prop):Ex→Fr→Hp→Prop
 | .exit j=>if j=id then K .norm else K (.exit j)
 |e=>K e
def je (P:Ctx):uq→(Ex→Fr→Hp→Prop)→Fr→Hp→Prop
 | .skip,K=>K .norm
 | .plain ops,K=>z7 P ops (K .norm)
 | .draw ops order,K=>can P (nth ops) (K .norm) order
 | .seq a b,K=>je P a (vd (je P b K) K)
 | .cond c a b,K=>fun f s=>match ev f c with
  | .v (.bool t)=>(t=true→je P a K f s)∧(t=false→je P b K f s)
  | _=>False
 | .block id a,K=>je P a (BB id K)
 | .loop a,K=>fun f s=> ∃(I:Fr→Hp→Prop) (m:Fr→Hp→Nat),I f s∧ ∀f s,I f s→je P a (vd (fun f' s'=>I f' s'∧m f' s'<m f s) K) f s
 | .exit id,K=>K (.exit id)
 | .ret,K=>K .ret
 | .refuse,_=>fun _ _=>False
def QG (ops:Array Oper) (o:Oper):Option (Option (Nat×Bool)):=
 match o.guard with
 |none=>some none
 |some (j,want)=>match (ops[j]?).bind (·.dst)with
  |some g=>some (some (g,want))
  |none=>none
def a0z (n:Nat):Option Nat→Bool
 |some d=>decide (d<n)
 |none=>true
def So (l:List Nat):Option Nat→Bool
 |some d=> !l.contains d
 |none=>true
def HP (P:Program) (env:Env) (n:Nat) (ops:Array Oper) (o:Oper):Option gi:=
 match RJ P env o,QG ops o with
 |some ao,some g=>if a0z n o.dst=true∧So env.pins o.dst=true then some {dst:=o.dst,op:=ao,guard:=g}else none
 | _,_=>none
def qt {α β:Type} (f:α→Option β):List α→Option (List β)
 | []=>some []
 |x::r=>match f x,qt f r with
  |some y,some ys=>some (y::ys)
  | _,_=>none
def RK (sP:Nat→List Nat) (done:List Nat) (p:Nat→Bool) (left:List Nat):Option Nat:=left.find? fun i=>(sP i).all (fun j=>done.contains j)&&p i
def Z2 (sP:Nat→List Nat) (xs:Nat→gi):Nat→List Nat→List Nat→List Nat
 |0,_,_=> []
 |fuel+1,done,left=>
  match (RK sP done (fun i=>CE (xs i).op||E4 (xs i).op) left).or ((RK sP done (fun i=> !A1 (xs i).op) left).or (RK sP done (fun _=>true) left))with
  |some i=>i::Z2 sP xs fuel (i::done) (left.filter (·!=i))
  |none=> []
def Yl (x:gi):Bool:=CE x.op||E4 x.op
def marks (xs:Nat→gi) (dp:Nat→Nat→Bool):List Nat→List Nat→List CO
 | _,[]=> []
 |ahead,i::r=>
  let pre:=if Yl (xs i)then []else r.filter fun j=>(A1 (xs j).op||CE (xs j).op)&& !dp i j
  let qD:=if Yl (xs i)||A1 (xs i).op then []else ahead.filter fun j=>E4 (xs j).op&& !dp j i
  ⟨i,pre,qD⟩::marks xs dp (ahead++ [i]) r
def Z3 (ops:Array Oper) (xs:Nat→gi):List CO:=
 marks xs (dep (NF (wK ops) ops.size [] 0)) [] (Z2 (wK ops) xs ops.size [] (List.range ops.size))
def Rq (ops:Array Oper) (xs:Nat→gi) (l:List CO):Bool:=
 (List.range ops.size).all (fun i=>(wK ops i).all (fun j=>decide (j<i)))&&decide (l.length≤ops.size)&&(List.range ops.size).all (fun i=>(l.map (·.i)).contains i)&&l.all (fun c=>decide (c.i<ops.size))&&
  decide ((l.map (·.i)).Nodup)&&CD xs (NF (wK ops) ops.size [] 0) l
def NG:Code→List Oper
 | .region _ ops _=>ops.toList
 | .seq a b| .cond _ a b=>NG a++NG b
 | .block _ a| .loop a=>NG a
 | _=> []
def Ka (l:List Nat):Operand→Bool
 | .tmp u=>l.contains u
 | _=>false
def derive (l:List Nat):List Oper→List Nat
 | []=>l
 |o::r=>match o.op,o.dst with
  | .fieldAddr _ x _,some d| .indexAddr _ x _,some d| .nilCheck x,some d=>derive (if Ka l x then d::l else l) r
  | _,_=>derive l r
def afa (l:List Nat) (o:Oper):Bool:=
 match o.op with
 | .fieldAddr _ _ _| .indexAddr _ _ _| .nilCheck _| .load _ _| .slice _ _ _ _ _=>false
 |op=>op.operands.toList.any (Ka l)
def acm (l:List Nat) (o:Oper):Bool:=
 match o.op with
 | .slice _ x _ _ _=>Ka l x
 | _=>false
def a9l (l:List Nat) (o:Oper):List Nat:=
 let add (l:List Nat) (x:Operand):List Nat:=match x with| .tmp u=>if l.contains u then l else u::l| _=>l
 let both (x:Operand):List Nat:=match o.dst with
  |some d=>if l.contains d then add l x else if Ka l x then(if l.contains d then l else d::l)else l
  |none=>l
 match o.op with
 | .move x| .assign x=>both x
 | .slice _ x _ _ _=>both x
 | .call c=>match c.callee,c.args.toList with
  | .builtin .append,[x,_]=>both x
  | _,_=>l
 | _=>l
def Sp (ops:List Oper):Nat→List Nat→List Nat
 |0,l=>l
 |n+1,l=>let l':=ops.foldl a9l l;if l'.length=l.length then l else Sp ops n l'
def Ym (P:Program) (ops:List Oper):List Nat:=
 ops.filterMap fun o=>match o.op,o.dst with
  | .indexAddr t (.tmp u) _,some d=>if !(match P.underlying t with|some (.slice _)=>true| _=>false)then none else let l:=derive [d] ops;if ops.any (fun p=>match p.op with| .store _ a _=>Ka l a| _=>false)then some u else none
  | _,_=>none
def acn (P:Program) (l:List Nat) (o:Oper):Bool:=
 match o.op,o.dst with
 | .convert st _ _,some d=>(match P.underlying st with|some .string=>true| _=>false)&&l.contains d
 | _,_=>false
def afb (P:Program) (c:Code):Env:=
 let ops:=NG c
 let boxes:=(ops.filterMap fun o=>match o.op with| .box _ _=>o.dst| _=>none).filter fun t=>let l:=derive [t] ops;ops.any (acm l)&& !ops.any (afa l)
 {Az:=boxes,roD:=derive boxes ops,wr:=ops.filterMap fun o=>match o.op with| .call c=>(match c.callee,c.args.toList with| .builtin .copy,.tmp u:: _=>some u| _,_=>none)| _=>none,mu:=Sp ops 40 (Ym P ops),ty:=false,sx:=ops.any (acn P (Sp ops 40 (Ym P ops)))}
def tz (P:Program) (env:Env) (n:Nat):Code→Option uq
 | .skip=>some .skip
 | .region _ ops false=>match qt (HP P env n ops) ops.toList with
  |some xs=>some (.plain xs)
  |none=>if env.rf=true then some .refuse else none
 | .region _ ops true=>match qt (HP P env n ops) ops.toList with
  |some xs=>if Rq ops (nth xs) (Z3 ops (nth xs))=true then some (.draw xs (Z3 ops (nth xs)))else none
  |none=>none
 | .seq a b=>match tz P env n a,tz P env n b with
  |some x,some y=>some (.seq x y)
  | _,_=>none
 | .cond c a b=>match tz P env n a,tz P env n b with
  |some x,some y=>if cd c=true then some (.cond c x y)else none
  | _,_=>none
 | .block id a=>(tz P env n a).map (.block id)
 | .loop a=>(tz P env n a).map .loop
 | .exit id=>some (.exit id)
 | .ret=>some .ret
 | .refuse _=>some .refuse
 | _=>none
def DP (D:List Deferred×List (Nat×Value)) (a:Act):Prop:=a.defers=D.1∧ ∀p∈D.2,a.tmps.getD p.1 undef=p.2
theorem DP.put {D:List Deferred×List (Nat×Value)}{a:Act} (h:DP D a) {d:Option Nat}{v:Value}{l:List Nat} (hl: ∀p∈D.2,p.1∈l) (hd:So l d=true):DP D (a.put d v):=by
 refine⟨by rw[←h.1];cases d<;>rfl,fun p hp=> ?_⟩
 cases d with
 |none=>exact h.2 p hp
 |some d=>
  have bI:p.1≠d:=by
   rintro rfl
   simp only[So,Bool.not_eq_true',List.contains_eq_mem,decide_eq_false_iff_not]at hd
   exact hd (hl p hp)
  rw[←h.2 p hp]
  simp only[Act.put]
  rw[Array.getD_eq_getD_getElem?,Array.getD_eq_getD_getElem?,Array.getElem?_setIfInBounds_ne (Ne.symm bI)]
def vk (D:List Deferred×List (Nat×Value)) (n:Nat) (H0:PH) (s0:Hp) (w0:World) (f:Fr) (s:Hp) (a:Act) (w:World):Prop:=
 a.tmps.size=n∧DP D a∧ ∃H,eo H a f∧Step H0 s0 w0 H s w
def post (D:List Deferred×List (Nat×Value)) (kp:AV→Hp→Prop) (n:Nat) (H0:PH) (s0:Hp) (w0:World) (K:Ex→Fr→Hp→Prop):Exit→Act→World→Prop
 | .normal,a,w=> ∃f s,vk D n H0 s0 w0 f s a w∧K .norm f s
 | .exit id,a,w=> ∃f s,vk D n H0 s0 w0 f s a w∧K (.exit id) f s
 | .ret,a,w=> ∃f s,vk D n H0 s0 w0 f s a w∧K .ret f s
 | .panic ch,a,w=>DP D a∧ ∃v r H' s',ch= [{v,recovered:=false}]∧Step H0 s0 w0 H' s' w∧RV H' v r∧up kp r s'∧ ∃f,eo H' a f
 | _,_,_=>False
section
variable {P:Program}{kp:AV→Hp→Prop}{env:Env}{n:Nat}{H0:PH}{s0:Hp}{w0:World}{D:List Deferred×List (Nat×Value)}
theorem size_put (a:Act) (d:Option Nat) (v:Value):(a.put d v).tmps.size=a.tmps.size:=by cases d<;>simp[Act.put]
theorem Wt {α β:Type}{g:α→Option β}: ∀ {l:List α}{ys:List β},qt g l=some ys→l.length=ys.length∧ ∀(j:Nat) (x:α),l[j]? =some x→ ∃y,ys[j]? =some y∧g x=some y
 | [],ys,h=>by simp only[qt,Option.some.injEq]at h;subst h;exact⟨rfl,fun j x h=>by simp at h⟩
 |x::r,ys,h=>by
  simp only[qt]at h
  split at h
  case h_2=>cases h
  rename_i y IU hy sZ
  obtain rfl:=Option.some.inj h
  obtain⟨h1,h2⟩:=Wt sZ
  refine⟨by simp[h1],fun j x' hx=> ?_⟩
  match j,hx with
  |0,hx=>
   obtain rfl:x=x':=by simpa using hx
   exact⟨y,rfl,hy⟩
  |j+1,hx=>exact h2 j x' (by simpa using hx)
theorem a4f {ops:Array Oper}{o:Oper}{gd:Option (Nat×Bool)} (h:QG ops o=some gd) {H:PH}{a:Act}{f:Fr} (hf:eo H a f):
  match gd with
  |none=>Region.wanted o (yielded ops a.tmps)=true
  |some (g,want)=>(∀b,f g= .v (.bool b)→Region.wanted o (yielded ops a.tmps)=(b==want))∧(f g= .dr []→Region.wanted o (yielded ops a.tmps)=false):=by
 unfold QG at h
 split at h
 ·rename_i hg
  obtain rfl:=Option.some.inj h
  simp[Region.wanted,hg]
 ·rename_i j want hg
  split at h
  case h_2=>cases h
  rename_i g hd
  obtain rfl:=Option.some.inj h
  have hv:=hf g
  refine⟨fun b hb=> ?_,fun hb=> ?_⟩
  ·rw[hb]at hv
   have eT:=hv.jc
   have Sn:a.tmps[g]? =some (.bool b):=by
    rw[Array.getD_eq_getD_getElem?]at eT
    cases hx:a.tmps[g]? with
    |none=>rw[hx]at eT;cases eT
    |some x=>rw[hx]at eT;simpa using eT
   have hy:yielded ops a.tmps j=some b:=by simp[yielded,hd,Sn]
   simp[Region.wanted,hg,hy]
  ·rw[hb]at hv
   have pZ:yielded ops a.tmps j=none:=by
    unfold yielded
    rw[hd]
    simp only[Option.bind_some]
    cases hx:a.tmps[g]? with
    |none=>rfl
    |some x=>
     rw[Array.getD_eq_getD_getElem?,hx]at hv
     simp only[Option.getD_some]at hv
     cases hv;rfl
   simp[Region.wanted,hg,pZ]
theorem WX (tI: ∀p∈D.2,p.1∈env.pins) {ops:Array Oper}{o:Oper}{x:gi} (h:HP P env n ops o=some x) {f:Fr}{s:Hp}{a:Act}{w:World} (hs:vk D n H0 s0 w0 f s a w) {K:Fr→Hp→Prop} (hT:T ⟨P,kp⟩ x K f s) (Q:Exit→Act→World→Prop) (Ez: ∀v r H' s' w',(∃f,eo H' a f)→Step H0 s0 w0 H' s' w'→RV H' v r→up kp r s'→Q (.panic [{v,recovered:=false}]) a w'):
  if Region.wanted o (yielded ops a.tmps)then o.wp P a w (fun a' w'=> ∃f' s',vk D n H0 s0 w0 f' s' a' w'∧K f' s') Q else∃f' s',vk D n H0 s0 w0 f' s' (a.put o.dst undef) w∧K f' s':=by
 obtain⟨fK,EA,H,hf,dT⟩:=hs
 unfold HP at h
 split at h
 case h_2=>cases h
 rename_i ao gd hao Ow
 split at h
 case isFalse=>cases h
 rename_i aW
 obtain rfl:=Option.some.inj h
 have hd: ∀t,o.dst=some t→t<a.tmps.size:=fun t ht=>by have:=aW.1;rw[ht]at this;rw[fK];simpa[a0z] using this
 have hw:=a4f Ow hf
 have run:G ⟨P,kp⟩ ao f s (fun r s'=>K (lO f o.dst r) s')→o.wp P a w (fun a' w'=> ∃f' s',vk D n H0 s0 w0 f' s' a' w'∧K f' s') Q:=fun hG=>by
  have:=a4e hao hf dT.holds hG Q (fun v r H' s' w' h1 h2 h3=>Ez v r H' s' w' ⟨f,hf.mono h1.le⟩ (dT.trans h1) h2 h3)
  refine Oper.wp_mono (fun a' w' hh=> ?_) this
  obtain⟨v,H',s',r,rfl,Eg,hv,hK⟩:=hh
  exact⟨lO f o.dst r,s',⟨by rw[size_put];exact fK,EA.put tI aW.2,H',(hf.mono Eg.le).put o.dst hd hv,dT.trans Eg⟩,hK⟩
 have skp:K (lO f o.dst (.dr [])) s→ ∃f' s',vk D n H0 s0 w0 f' s' (a.put o.dst undef) w∧K f' s':=fun hK=>
  ⟨lO f o.dst (.dr []),s,⟨by rw[size_put];exact fK,EA.put tI aW.2,H,hf.put o.dst hd (RV.undef H),dT⟩,hK⟩
 unfold T E at hT
 cases gd with
 |none=>
  simp only at hT hw
  rw[if_pos hw]
  exact run hT
 |some gw=>
  obtain⟨g,want⟩:=gw
  simp only at hT hw
  split at hT
  ·rename_i b hb
   have Gp:=hw.1 b hb
   split at hT
   ·rename_i J0;rw[if_pos (by rw[Gp];simp[J0])];exact run hT
   ·rename_i J0;rw[if_neg (by rw[Gp];simp[J0])];exact skp hT
  ·rename_i hb
   rw[if_neg (by rw[hw.2 hb];simp)]
   exact skp hT
  ·exact hT.elim
theorem WY (tI: ∀p∈D.2,p.1∈env.pins) {ops:Array Oper}{Q:Exit→Act→World→Prop}{K:Fr→Hp→Prop} (hQ: ∀f s a w,vk D n H0 s0 w0 f s a w→K f s→Q .normal a w) (Ez: ∀a v r H' s' w',(DP D a∧ ∃f,eo H' a f)→Step H0 s0 w0 H' s' w'→RV H' v r→up kp r s'→Q (.panic [{v,recovered:=false}]) a w'): ∀(l:List Oper) (ys:List gi),qt (HP P env n ops) l=some ys→
  ∀(f:Fr) (s:Hp) (a:Act) (w:World),vk D n H0 s0 w0 f s a w→z7 ⟨P,kp⟩ ys K f s→wpList P ops Q l a w
 | [],ys,h,f,s,a,w,hs,hr=>by
  simp only[qt,Option.some.injEq]at h;subst h
  exact hQ f s a w hs hr
 |o::l,ys,h,f,s,a,w,hs,hr=>by
  simp only[qt]at h
  split at h
  case h_2=>cases h
  rename_i y IU hy sZ
  obtain rfl:=Option.some.inj h
  have ih:=WY tI hQ Ez l IU sZ
  have:=WX tI hy hs hr Q (fun v r H' s' w' hg=>Ez a v r H' s' w' ⟨hs.2.1,hg⟩)
  simp only[wpList]
  split
  ·rename_i hw
   rw[if_pos hw]at this
   exact .inl (Oper.wp_mono (fun a' w' ⟨f',s',iK,qA⟩=>ih f' s' a' w' iK qA) this)
  ·rename_i hw
   rw[if_neg hw]at this
   obtain⟨f',s',iK,qA⟩:=this
   exact ih f' s' _ w iK qA
theorem Qp (tI: ∀p∈D.2,p.1∈env.pins) {ops:Array Oper}{Q:Exit→Act→World→Prop}{K:Fr→Hp→Prop} (hQ: ∀f s a w,vk D n H0 s0 w0 f s a w→K f s→Q .normal a w) (Ez: ∀a v r H' s' w',(DP D a∧ ∃f,eo H' a f)→Step H0 s0 w0 H' s' w'→RV H' v r→up kp r s'→Q (.panic [{v,recovered:=false}]) a w') {ys:List gi} (h:qt (HP P env n ops) ops.toList=some ys):
  ∀(fuel:Nat) (iV:Array Bool) (f:Fr) (s:Hp) (a:Act) (w:World),vk D n H0 s0 w0 f s a w→O4 ⟨P,kp⟩ (nth ys) ops K fuel iV f s→wpAny P .any ops Q fuel iV a w
 |0,iV,f,s,a,w,hs,hr=>⟨hr.1,hQ f s a w hs hr.2⟩
 |fuel+1,iV,f,s,a,w,hs,hr=>by
  refine⟨fun h0=>hQ f s a w hs (hr.1 h0),fun i hi=> ?_⟩
  have hT:=hr.2 i hi
  obtain⟨_,o,ho,_⟩:=mem_ready.1 hi
  obtain⟨y,vR,vS⟩:=(Wt h).2 i o (by simpa using ho)
  have hy:nth ys i=y:=by simp[nth,List.getD,vR]
  rw[hy]at hT
  have:=WX tI vS hs hT Q (fun v r H' s' w' hg=>Ez a v r H' s' w' ⟨hs.2.1,hg⟩)
  unfold wpOp
  simp only[ho]
  split
  ·rename_i hw
   rw[if_pos hw]at this
   exact .inl (Oper.wp_mono (fun a' w' ⟨f',s',iK,qA⟩=>Qp tI hQ Ez h fuel _ f' s' a' w' iK qA) this)
  ·rename_i hw
   rw[if_neg hw]at this
   obtain⟨f',s',iK,qA⟩:=this
   exact Qp tI hQ Ez h fuel _ f' s' _ w iK qA
theorem a4B {P:Ctx}{ops:Array Oper}{xs:Nat→gi}{l:List CO} (h:Rq ops xs l=true) {K:Fr→Hp→Prop}{f:Fr}{s:Hp} (hc:can P xs K l f s):O4 P xs ops K ops.size (Array.replicate ops.size false) f s:=by
 simp only[Rq,Bool.and_eq_true,List.all_eq_true,decide_eq_true_eq,List.mem_range]at h
 obtain⟨⟨⟨⟨⟨h1,h2⟩,J1⟩,h3⟩,h4⟩,h5⟩:=h
 have aW: ∀i j,j∈wK ops i→j<i:=fun i j hj=>by
  have hi:i<ops.size:=by
   obtain⟨o,ho,_⟩:=QF.1 hj
   exact(Array.getElem?_eq_some_iff.1 ho).1
  exact h1 i hi j hj
 refine a9k (WV aW ops.size [] 0 rfl (fun i c h=>by simp[dep]at h)) aW ops.size _ l (by simp) (by omega) (fun i=> ?_) h4 h5 (fun i hi hl=> ?_) f s hc
 ·constructor
  ·intro hi
   obtain⟨c,hc,rfl⟩:=List.mem_map.1 hi
   have:=h3 c hc
   exact⟨this,by simp[this]⟩
  ·rintro ⟨hi,_⟩
   simpa using J1 i hi
 ·simp[hi]at hl
theorem Fm (hm:P.follows .mixedOrders=true) (tI: ∀p∈D.2,p.1∈env.pins): ∀(c:Code) (x:uq),tz P env n c=some x→ ∀(K:Ex→Fr→Hp→Prop) (f:Fr) (s:Hp) (a:Act) (w:World),vk D n H0 s0 w0 f s a w→je ⟨P,kp⟩ x K f s→c.wp P (post D kp n H0 s0 w0 K) a w
 | .skip,x,h,K,f,s,a,w,hs,ha=>by
  simp only[tz,Option.some.injEq]at h;subst h
  exact wp_skip ⟨f,s,hs,ha⟩
 | .region id ops d,x,h,K,f,s,a,w,hs,ha=>by
  cases d with
  |false=>
   simp only[tz]at h
   split at h
   case h_2=>
    split at h
    ·obtain rfl:=Option.some.inj h
     exact ha.elim
    ·cases h
   rename_i ys sZ
   obtain rfl:=Option.some.inj h
   refine wp_region_list ?_
   exact WY tI (K:=K .norm) (fun f s a w hs hK=>⟨f,s,hs,hK⟩) (fun a v r H' s' w' h1 h2 h3 h4=>⟨h1.1,v,r,H',s',rfl,h2,h3,h4,h1.2⟩) ops.toList ys sZ f s a w hs ha
  |true=>
   simp only[tz]at h
   split at h
   case h_2=>cases h
   rename_i ys sZ
   split at h
   case isFalse=>cases h
   rename_i cj
   obtain rfl:=Option.some.inj h
   refine wp_region_any hm ?_
   obtain⟨fK,EA,H,hf,dT⟩:=hs
   exact Qp tI (K:=K .norm) (fun f s a w hs hK=>⟨f,s,hs,hK⟩) (fun a v r H' s' w' h1 h2 h3 h4=>⟨h1.1,v,r,H',s',rfl,h2,h3,h4,h1.2⟩) sZ ops.size _ f s a _ ⟨fK,EA,H,hf,dT.trans (Step.drew dT.holds)⟩ (a4B cj ha)
 | .seq c1 c2,x,h,K,f,s,a,w,hs,ha=>by
  simp only[tz]at h
  split at h
  case h_2=>cases h
  rename_i x1 x2 h1 h2
  obtain rfl:=Option.some.inj h
  refine wp_seq (wp_mono (Fm hm tI c1 x1 h1 _ f s a w hs ha) fun e a' w' hq=> ?_)
  cases e with
  |normal=>obtain⟨f',s',iK,hK⟩:=hq;exact Fm hm tI c2 x2 h2 K f' s' a' w' iK hK
  |exit id=>exact hq
  |ret=>exact hq
  |goto l=>exact hq
  |panic ch=>exact hq
  |outgrown=>exact hq
 | .cond c c1 c2,x,h,K,f,s,a,w,hs,ha=>by
  simp only[tz]at h
  split at h
  case h_2=>cases h
  rename_i x1 x2 h1 h2
  split at h
  case isFalse=>cases h
  rename_i hc
  obtain rfl:=Option.some.inj h
  simp only[je]at ha
  split at ha
  case h_2=>exact ha.elim
  rename_i t he
  have hv:=(hs.2.2.choose_spec.1).ev c hc
  rw[he]at hv
  refine wp_cond_split hv.jc (fun ht=> ?_) (fun ht=> ?_)
  ·exact Fm hm tI c1 x1 h1 K f s a w hs (ha.1 ht)
  ·exact Fm hm tI c2 x2 h2 K f s a w hs (ha.2 ht)
 | .block id c,x,h,K,f,s,a,w,hs,ha=>by
  simp only[tz]at h
  obtain⟨y,hy,rfl⟩:=Option.map_eq_some_iff.1 h
  refine wp_block (wp_mono (Fm hm tI c y hy _ f s a w hs ha) fun e a' w' hq=> ?_)
  cases e with
  |normal=>exact hq
  |exit id'=>
   obtain⟨f',s',iK,hK⟩:=hq
   simp only[Exit.inBlock]
   simp only[BB]at hK
   split
   ·rename_i TP;rw[if_pos TP]at hK;exact⟨f',s',iK,hK⟩
   ·rename_i TP;rw[if_neg TP]at hK;exact⟨f',s',iK,hK⟩
  |ret=>exact hq
  |goto l=>exact hq
  |panic ch=>exact hq
  |outgrown=>exact hq
 | .loop c,x,h,K,f,s,a,w,hs,ha=>by
  simp only[tz]at h
  obtain⟨y,hy,rfl⟩:=Option.map_eq_some_iff.1 h
  obtain⟨I,m,hI,aco⟩:=ha
  intro b k cs
  have key: ∀N f s a w,m f s=N→I f s→vk D n H0 s0 w0 f s a w→
    ∃e a' w',post D kp n H0 s0 w0 K e a' w'∧Arrives P (lone (b.at a (.code c:: .inLoop c::k)) cs w) b k cs e a' w':=by
   intro N
   induction N using Nat.strongRecOn with
   | _ N ih=>
    intro f s a w hN hI hs
    obtain⟨e,a1,w1,hq,Iv⟩:=Fm hm tI c y hy _ f s a w hs (aco f s hI) b (.inLoop c::k) cs
    cases e with
    |normal=>
     obtain⟨f',s',iK,Lu,aW⟩:=hq
     obtain⟨e2,a2,w2,TQ,afc⟩:=ih (m f' s') (hN▸aW) f' s' a1 w1 rfl Lu iK
     exact⟨e2,a2,w2,TQ,.of_steps (Steps.trans Iv (.one step_inLoop)) afc⟩
    |exit id=>exact⟨.exit id,a1,w1,hq,.pass (x:= .inLoop c) rfl (fun _ _=> .inl (by simp)) Iv⟩
    |goto l=>exact hq.elim
    |ret=>exact⟨.ret,a1,w1,hq,.pass (x:= .inLoop c) rfl (fun _ _=> .inl (by simp)) Iv⟩
    |panic ch=>exact⟨.panic ch,a1,w1,hq,.pass (x:= .inLoop c) rfl (fun _ _=> .inl (by simp)) Iv⟩
    |outgrown=>exact hq.elim
  obtain⟨e,a',w',hq,Iv⟩:=key _ f s a w rfl hI hs
  exact⟨e,a',w',hq,.of_steps (.one step_loop) Iv⟩
 | .exit id,x,h,K,f,s,a,w,hs,ha=>by
  simp only[tz,Option.some.injEq]at h;subst h
  exact wp_exit ⟨f,s,hs,ha⟩
 | .ret,x,h,K,f,s,a,w,hs,ha=>by
  simp only[tz,Option.some.injEq]at h;subst h
  exact wp_ret ⟨f,s,hs,ha⟩
 | .refuse why,x,h,K,f,s,a,w,hs,ha=>by
  simp only[tz,Option.some.injEq]at h;subst h
  exact ha.elim
structure cT where
 ntmps:Nat
 nparams:Nat
 code:uq
 results:List (Nat×Option (Bool×Nat))
def I2 (P:Program):ResultVar→Option (Nat×Option (Bool×Nat))
 | .tmp t=>some (t,none)
 | .cell a t=>match P.underlying t,vK P t with
  |some d,some n=>if d.isRow=true∨n=1 then some (a,some (d.isRow,n))else none
  | _,_=>none
def Env.all (env:Env) (m:Nat) (n:Nat):Env:=
 match m with
 |1=> {env with mu:=List.range n}
 |2=> {env with ty:=true}
 |5=> {env with rf:=true}
 |6=> {env with mu:=List.range n,gx:=true}
 | _=>env
def cU (P:Program) (m:Nat) (f:FuncId):Option cT:=
 match P.funcs[f]? with
 |some fn=>match fn.body with
  |some c=>match tz P ((afb P c).all m fn.ntmps) fn.ntmps c,qt (I2 P) fn.results.toList with
   |some x,some rs=>if fn.params.size≤fn.ntmps then some ⟨fn.ntmps,fn.params.size,x,rs⟩else none
   | _,_=>none
  |none=>none
 |none=>none
def ru (f:Fr) (s:Hp):Nat×Option (Bool×Nat)→Option AV
 |(t,none)=>some (f t)
 |(t,some (agg,n))=>match f t with
  | .ptr l off=>match s.read l with
   |some cs=>if off+n≤cs.length then some (cK agg n (cs.drop off))else none
   |none=>none
  | _=>none
def wL (f:Fr) (s:Hp) (rs:List (Nat×Option (Bool×Nat))):Option AV:=
 match qt (ru f s) rs with
 |some [r]=>some r
 |some vs=>some (.dr vs)
 |none=>none
def Ia (F:cT) (R:AV→Hp→Prop):Ex→Fr→Hp→Prop
 | .exit _,_,_=>False
 | _,f,s=> ∃r s',wL f s F.results=some r∧s'.sub s∧R r s'
def CI (args:List AV):Fr:=fun t=>args.getD t (.dr [])
def Kr (tmps:Array Value):ResultVar→Sem Value
 | .tmp t=>pure (tmps.getD t undef)
 | .cell a t=>do loadVar t (←asAddr (tmps.getD a undef))
theorem a9m {H:PH}{f:Fr}{s:Hp}{a:Act}{w:World}{rv:ResultVar}{p:Nat×Option (Bool×Nat)} (hf:RV H (a.tmps.getD p.1 undef) (f p.1)) (hh:dv H s w) (hp:I2 P rv=some p) {r:AV} (hr:ru f s p=some r):
  ∃v,(Kr a.tmps rv).run P w= .ok v w∧RV H v r:=by
 cases rv with
 |tmp t=>
  simp only[I2,Option.some.injEq]at hp;subst hp
  simp only[ru,Option.some.injEq]at hr;subst hr
  exact⟨_,rfl,hf⟩
 |cell b t=>
  simp only[I2]at hp
  split at hp
  case h_2=>cases hp
  rename_i d n hu hn
  split at hp
  case isFalse=>cases hp
  rename_i xQ
  obtain rfl:=Option.some.inj hp
  simp only[ru]at hr
  split at hr
  case h_2=>cases hr
  rename_i l off he
  split at hr
  case h_2=>cases hr
  rename_i cs dF
  split at hr
  case isFalse=>cases hr
  rename_i hle
  obtain rfl:=Option.some.inj hr
  have hv:RV H (a.tmps.getD b undef) (f b):=hf
  rw[he]at hv
  have eT:=hv.sL
  obtain⟨db,vs,T,fz,hb,EB⟩:=hh.read dF
  have hlen:=EB.1
  cases hd:d.isRow with
  |true=>
   have Kk:w.rangeAt l off ((vs.toList.drop off).take n):=by
    intro j v hj
    rw[cell_of_row w l (off+j) vs T _ hb]
    rw[List.getElem?_take]at hj
    split at hj
    ·simpa using hj
    ·cases hj
   have hl:((vs.toList.drop off).take n).length=n:=by simp;omega
   have eG:=run_loadVar_mid (P:=P) w l off t ((vs.toList.drop off).take n) d Kk hu hd (by rw[hl];exact hn)
   refine⟨.agg ((vs.toList.drop off).take n).toArray,by simp only[Kr,Sem.run_bind,eT,asAddr,Sem.run_pure,Result.andThen_ok,eG],?_⟩
   rw[show((vs.toList.drop off).take n).toArray=vs.extract off (off+n) by rw[←W2]]
   exact RV.cK EB db off n hle
  |false=>
   obtain rfl:=MK xQ hd
   have aW:off<vs.size:=by omega
   have hc:w.cell? ⟨l,off,none⟩=some (vs.getD off undef):=by
    rw[cell_of_row w l off vs T _ hb];simp[aW]
   have eG:=Q4 (P:=P) w t d ⟨l,off,none⟩ _ hu hd hc
   exact⟨vs.getD off undef,by simp only[Kr,Sem.run_bind,eT,asAddr,Sem.run_pure,Result.andThen_ok,eG],RV.SC EB off hle⟩
theorem Wu {H:PH}{f:Fr}{s:Hp}{a:Act}{w:World} (hh:dv H s w): ∀(OC:List ResultVar) (ps:List (Nat×Option (Bool×Nat))) (rs:List AV),(∀p∈ps,RV H (a.tmps.getD p.1 undef) (f p.1))→qt (I2 P) OC=some ps→qt (ru f s) ps=some rs→
  ∃vs:List Value,(OC.mapM (Kr a.tmps)).run P w= .ok vs w∧vs.length=rs.length∧ ∀(j:Nat) (x:Value) (u:AV),vs[j]? =some x→rs[j]? =some u→RV H x u
 | [],ps,rs,hf,hp,hr=>by
  simp only[qt,Option.some.injEq]at hp;subst hp
  simp only[qt,Option.some.injEq]at hr;subst hr
  exact⟨[],rfl,rfl,fun j x u h=>by simp at h⟩
 |rv::OC,ps,rs,hf,hp,hr=>by
  simp only[qt]at hp
  split at hp
  case h_2=>cases hp
  rename_i p ps' hp1 hp2
  obtain rfl:=Option.some.inj hp
  simp only[qt]at hr
  split at hr
  case h_2=>cases hr
  rename_i r rs' zv qB
  obtain rfl:=Option.some.inj hr
  obtain⟨v,h1,h2⟩:=a9m (hf p (by simp)) hh hp1 zv
  obtain⟨vs,h3,h4,h5⟩:=Wu hh OC ps' rs' (fun q hq=>hf q (by simp[hq])) hp2 qB
  refine⟨v::vs,?_,by simp[h4],fun j x u hx hu=> ?_⟩
  ·rw[List.mapM_cons,Sem.run_bind,h1,Result.andThen_ok,Sem.run_bind,h3];rfl
  ·match j,hx,hu with
   |0,hx,hu=>
    obtain rfl:v=x:=by simpa using hx
    obtain rfl:r=u:=by simpa using hu
    exact h2
   |j+1,hx,hu=>exact h5 j x u (by simpa using hx) (by simpa using hu)
theorem a4C {H:PH}{f:Fr}{s:Hp}{a:Act}{w:World}{fn:Func}{ps:List (Nat×Option (Bool×Nat))} (hf: ∀p∈ps,RV H (a.tmps.getD p.1 undef) (f p.1)) (hh:dv H s w) (hp:qt (I2 P) fn.results.toList=some ps) {r:AV} (hr:wL f s ps=some r):
  ∃v,(results fn a.tmps).run P w= .ok v w∧RV H v r:=by
 unfold wL at hr
 have fin: ∀rs,qt (ru f s) ps=some rs→ ∃vs:Array Value,(results fn a.tmps).run P w= .ok (if h:vs.size=1 then vs[0]else .tuple vs) w∧vs.toList.length=rs.length∧ ∀(j:Nat) (x:Value) (u:AV),vs.toList[j]? =some x→rs[j]? =some u→RV H x u:=fun rs Dl=>by
  obtain⟨vs,h1,h2,h3⟩:=Wu hh fn.results.toList ps rs hf hp Dl
  refine⟨vs.toArray,?_,by simpa using h2,fun j x u hx hu=>h3 j x u (by simpa using hx) hu⟩
  have e:results fn a.tmps=(do let vs ←fn.results.mapM (Kr a.tmps);pure (if h:vs.size=1 then vs[0]else .tuple vs)):=rfl
  rw[e,Sem.run_bind,Array.mapM_eq_mapM_toList,Sem.run_map]
  rw[h1]
  rfl
 split at hr
 ·rename_i r' Dl
  obtain rfl:=Option.some.inj hr
  obtain⟨vs,h1,h2,h3⟩:=fin _ Dl
  have fK:vs.size=1:=by simpa using h2
  rw[dif_pos fK]at h1
  refine⟨_,h1,h3 0 _ _ ?_ rfl⟩
  simp[fK]
 ·rename_i rs bI Dl
  obtain rfl:=Option.some.inj hr
  obtain⟨vs,h1,h2,h3⟩:=fin _ Dl
  have fK:vs.size≠1:=by
   intro he
   have hl:rs.length=1:=by rw[←h2];simpa using he
   obtain⟨x,hx⟩:=List.length_eq_one_iff.1 hl
   exact bI x hx
  rw[dif_neg fK]at h1
  exact⟨_,h1,.dr _ _ (dJ.lD.2 ⟨h2,h3⟩).1 (dJ.lD.2 ⟨h2,h3⟩).2⟩
 ·cases hr
theorem acp (hm:P.follows .mixedOrders=true) {m:Nat}{g:FuncId}{F:cT} (hF:cU P m g=some F) {args:List AV}{s:Hp}{R Rp:AV→Hp→Prop} (hlen:args.length≤F.ntmps) (h:je ⟨P,Rp⟩ F.code (Ia F R) (CI args) s):vg P g args s R (up Rp):=by
 intro vs w H ha hh
 unfold cU at hF
 split at hF
 case h_2=>cases hF
 rename_i fn vU
 split at hF
 case h_2=>cases hF
 rename_i c hc
 split at hF
 case h_2=>cases hF
 rename_i x rs hx Dl
 split at hF
 case isFalse=>cases hF
 rename_i hps
 obtain rfl:=Option.some.inj hF
 simp only at hlen h
 refine calls_of_wp vU hc ?_
 have uA:vs.size=args.length:=ha.1
 have zx:vk ([],[]) fn.ntmps H s w (CI args) s {tmps:=vs++Array.replicate (fn.ntmps - vs.size) undef,defers:= []} w:=by
  refine⟨by simp;omega,⟨rfl,fun p hp=>by simp at hp⟩,H,fun t=> ?_,.refl hh⟩
  by_cases ht:t<args.length
  ·have e1:CI args t=args[t]:=by simp[CI,List.getD,ht]
   rw[e1]
   have:=ha.2 t args[t] (List.getElem?_eq_getElem ht)
   have e2:(vs++Array.replicate (fn.ntmps - vs.size) undef).getD t undef=vs.getD t undef:=by
    simp[Array.getElem?_append,uA,ht]
   rw[e2];exact this
  ·have e1:CI args t= .dr []:=by simp[CI,List.getD,ht]
   rw[e1]
   have e2:(vs++Array.replicate (fn.ntmps - vs.size) undef).getD t undef=undef:=by
    simp only[Array.getD_eq_getD_getElem?,Array.getElem?_append,uA]
    rw[if_neg ht]
    simp only[Array.getElem?_replicate]
    split<;>rfl
   rw[e2];exact RV.undef H
 refine wp_mono (Fm hm (fun p hp=>by simp at hp) c x hx _ _ _ _ _ zx h) fun e a' w' hq=> ?_
 have fin:(∃f s1,vk ([],[]) fn.ntmps H s w f s1 a' w'∧ ∃r s2,wL f s1 rs=some r∧s2.sub s1∧R r s2)→
   a'.defers= []∧ ∃v,(results fn a'.tmps).run P w'= .ok v w'∧((∃v' r H' s',Ending.returned v= .returned v'∧Step H s w H' s' w'∧RV H' v' r∧R r s')∨(∃v' r H' s',Ending.returned v= .panicked [{v:=v',recovered:=false}]∧Step H s w H' s' w'∧RV H' v' r∧up Rp r s')):=by
  rintro ⟨f,s1,⟨_,EA,H',hf,dT⟩,r,s2,hr,dm,hR⟩
  obtain⟨v,eG,hv⟩:=a4C (fun p _=>hf p.1) dT.holds Dl hr
  exact⟨EA.1,v,eG,.inl ⟨v,r,H',s2,rfl,dT.drop dm,hv,hR⟩⟩
 cases e with
 |normal=>exact fin hq
 |ret=>exact fin hq
 |exit id=>obtain⟨f,s1,_,hK⟩:=hq;exact hK.elim
 |goto l=>exact hq.elim
 |panic ch=>
  obtain⟨EA,v,r,H',s',rfl,dT,hv,hR,_⟩:=hq
  exact⟨EA.1,.inr ⟨v,r,H',s',rfl,dT,hv,hR⟩⟩
 |outgrown=>exact hq.elim
theorem afd (hm:P.follows .mixedOrders=true) {m:Nat}{g:FuncId}{F:cT} (hF:cU P m g=some F) {args:List AV}{s:Hp}{R:AV→Hp→Prop} (hlen:args.length≤F.ntmps) (h:je (Ctx.of P) F.code (Ia F R) (CI args) s):AC P g args s R:=
 (acp hm hF hlen h).np
end
abbrev oT (n:Nat):Operand:= .tmp n
abbrev oC (n:Int):Operand:= .const (.int .i64 n)
abbrev oY:Operand:= .const (.bool true)
abbrev oN:Operand:= .const (.bool false)
abbrev oZ:Operand:= .const (.slice none 0 0)
abbrev oP:Operand:= .const (.pointer none)
abbrev oo (d:Nat) (x:iu):gi:=⟨some d,x,none⟩
abbrev on (x:iu):gi:=⟨none,x,none⟩
abbrev og (g:Nat) (b:Bool) (d:Nat) (x:iu):gi:=⟨some d,x,some (g,b)⟩
abbrev oM (d a:Nat):gi:=⟨some d,.mv (.tmp a),none⟩
abbrev oL (d a:Nat):gi:=⟨some d,.load false 1 (.tmp a),none⟩
abbrev oE (d a i:Nat):gi:=⟨some d,.ext (.tmp a) i,none⟩
abbrev oI (d k a b:Nat):gi:=⟨some d,.kA k (.tmp a) (.tmp b),none⟩
abbrev oF (d k a:Nat):gi:=⟨some d,.fa k (.tmp a),none⟩
abbrev oB (d:Nat) (o:BinOp) (a b:Nat):gi:=⟨some d,.bin o (.tmp a) (.tmp b),none⟩
abbrev oD (d:Nat) (o:BinOp) (a:Nat) (n:Int):gi:=⟨some d,.bin o (.tmp a) (.const (.int .i64 n)),none⟩
abbrev oK (d a:Nat):gi:=⟨some d,.len (.tmp a),none⟩
abbrev oO (n:Nat):CO:=⟨n,[],[]⟩
end Go.Av
set_option maxRecDepth 100000
namespace Go.Proofs.YtonldhgdjjfahaaGreat
open Go Go.Av
theorem hm:Tryz.prog.follows .mixedOrders=true:=by kernel_rfl
def F4:cT where
 ntmps:=111
 nparams:=3
 results:= [(6,none)]
 code:=
(.seq
(.plain (oo 6 (.mv oN)::[]))
(.seq
(.seq
(.plain (oo 28 (.bu 5 [])::oo 29 (.un .not (oT 28))::[]))
(.cond (oT 29)
(.seq
(.plain (oo 6 (.mv oN)::[]))
.ret)
.skip))
(.seq
(.plain (oM 30 0::oo 31 (.bu 6 [(oT 30)])::oM 7 31::[]))
(.seq
(.plain (oo 32 (.bu 7 [])::oo 33 (.bu 7 [])::oM 8 32::oM 9 33::[]))
(.seq
(.plain (oM 35 8::oo 36 (.gf (List.replicate 32 (.v (.int .u8 0))++ [(.sl [] .nil),(.sl [] .nil)]++ [(.v (.int .i64 0)),(.v (.int .i64 0))]++ [(.sl [] .nil)]) [])::oM 37 7::oM 38 1::oo 39 (.bu 8 [(oT 35),(oT 36),oP,(oT 37),(oT 38)])::oM 34 39::oE 40 34 0::oE 41 34 1::oo 10 (.alloc 34 (List.replicate 32 (.v (.int .u8 0))++ [(.sl [] .nil),(.sl [] .nil)]++ [(.v (.int .i64 0)),(.v (.int .i64 0))]++ [(.sl [] .nil)]))::on (.store 37 (oT 10) (oT 40))::oM 11 41::[]))
(.seq
(.plain (oM 43 9::oo 44 (.gf (List.replicate 32 (.v (.int .u8 0))++ [(.sl [] .nil),(.sl [] .nil)]++ [(.v (.int .i64 0)),(.v (.int .i64 0))]++ [(.sl [] .nil)]) [])::oM 45 7::oM 46 2::oo 47 (.bu 8 [(oT 43),(oT 44),oP,(oT 45),(oT 46)])::oM 42 47::oE 48 42 0::oE 49 42 1::oo 12 (.alloc 34 (List.replicate 32 (.v (.int .u8 0))++ [(.sl [] .nil),(.sl [] .nil)]++ [(.v (.int .i64 0)),(.v (.int .i64 0))]++ [(.sl [] .nil)]))::on (.store 37 (oT 12) (oT 48))::oM 13 49::[]))
(.seq
(.plain (oM 51 8::oo 52 (.load true 37 (oT 10))::oM 53 9::oo 54 (.load true 37 (oT 12))::oM 55 7::oo 56 (.bu 9 [(oT 51),(oT 52),(oT 53),(oT 54),(oT 55)])::oM 50 56::oE 57 50 0::oE 58 50 1::oE 59 50 2::oE 60 50 3::oM 14 57::oM 15 58::oM 16 59::oM 17 60::[]))
(.seq
(.plain (oM 62 9::oo 63 (.load true 37 (oT 12))::oM 64 8::oo 65 (.load true 37 (oT 10))::oM 66 7::oo 67 (.bu 9 [(oT 62),(oT 63),(oT 64),(oT 65),(oT 66)])::oM 61 67::oE 68 61 0::oE 69 61 1::oE 70 61 2::oE 71 61 3::oM 18 68::oM 19 69::oM 20 70::oM 21 71::[]))
(.seq
(.plain (oM 73 8::oo 74 (.bu 10 [(oT 73)])::oM 72 74::oE 75 72 0::oE 76 72 1::oE 77 72 2::oM 22 75::oM 23 76::oM 24 77::[]))
(.seq
(.plain (oM 79 9::oo 80 (.bu 10 [(oT 79)])::oM 78 80::oE 81 78 0::oE 82 78 1::oE 83 78 2::oM 25 81::oM 26 82::oM 27 83::[]))
(.seq
(.plain (oM 84 24::oM 85 84::og 85 false 86 (.mv (oT 27))::oo 87 (.pick (oT 85) oY (oT 86))::oM 88 87::og 88 false 89 (.mv (oT 17))::og 88 false 90 (.bin .eql (oT 89) (oC 0))::og 88 false 91 (.mv (oT 90))::og 91 true 92 (.mv (oT 21))::og 91 true 93 (.bin .eql (oT 92) (oC 0))::og 88 false 94 (.pick (oT 91) (oT 93) oN)::og 88 false 95 (.mv (oT 94))::og 95 true 96 (.mv (oT 14))::og 95 true 97 (.mv (oT 19))::og 95 true 98 (.bu 11 [(oT 96),(oT 97)])::og 88 false 99 (.pick (oT 95) (oT 98) oN)::og 88 false 100 (.mv (oT 99))::og 100 true 101 (.mv (oT 15))::og 100 true 102 (.mv (oT 18))::og 100 true 103 (.bu 11 [(oT 101),(oT 102)])::og 88 false 104 (.pick (oT 100) (oT 103) oN)::oo 105 (.pick (oT 88) oY (oT 104))::oM 106 105::og 106 false 107 (.mv (oT 8))::og 106 false 108 (.mv (oT 9))::og 106 false 109 (.bu 14 [(oT 107),(oT 108)])::oo 110 (.pick (oT 106) oY (oT 109))::oM 6 110::[]))
.ret)))))))))))
theorem aiS:cU Tryz.prog 0 4=some F4:=by kernel_rfl
def F5:cT where
 ntmps:=87
 nparams:=0
 results:= [(0,none)]
 code:=
(.seq
(.plain (oo 0 (.mv oN)::[]))
(.seq
(.plain (oo 14 (.bu 7 [])::oM 1 14::[]))
(.seq
(.plain (oM 16 1::oo 17 (.gL 1 [(oC 1)])::oo 18 (.gL 1 [(oC 2)])::oo 19 (.gL 1 [(oC 3)])::oo 20 (.gL 1 [(oT 17),(oT 18),(oT 19)])::oo 21 (.bu 15 [(oT 16),(oT 20),(oC 1)])::oM 15 21::oE 22 15 0::oE 23 15 1::oo 2 (.alloc 34 (List.replicate 32 (.v (.int .u8 0))++ [(.sl [] .nil),(.sl [] .nil)]++ [(.v (.int .i64 0)),(.v (.int .i64 0))]++ [(.sl [] .nil)]))::on (.store 37 (oT 2) (oT 22))::oM 3 23::[]))
(.seq
(.plain (oM 25 1::oo 26 (.gL 1 [(oC 1)])::oo 27 (.gL 1 [(oC 3)])::oo 28 (.gL 1 [(oC 4)])::oo 29 (.gL 1 [(oT 26),(oT 27),(oT 28)])::oo 30 (.bu 15 [(oT 25),(oT 29),(oC 1)])::oM 24 30::oE 31 24 0::oE 32 24 1::oo 4 (.alloc 34 (List.replicate 32 (.v (.int .u8 0))++ [(.sl [] .nil),(.sl [] .nil)]++ [(.v (.int .i64 0)),(.v (.int .i64 0))]++ [(.sl [] .nil)]))::on (.store 37 (oT 4) (oT 31))::oM 5 32::[]))
(.seq
(.plain (oM 34 1::oo 35 (.load true 37 (oT 2))::oM 36 1::oo 37 (.load true 37 (oT 4))::oo 38 (.bu 9 [(oT 34),(oT 35),(oT 36),(oT 37),(oC 1)])::oM 33 38::oE 39 33 0::oE 40 33 1::oE 41 33 2::oE 42 33 3::oM 6 39::oM 7 40::oM 8 41::oM 9 42::[]))
(.seq
(.plain (oM 44 1::oo 45 (.load true 37 (oT 2))::oM 46 1::oo 47 (.load true 37 (oT 2))::oo 48 (.bu 9 [(oT 44),(oT 45),(oT 46),(oT 47),(oC 1)])::oM 43 48::oE 49 43 0::oE 50 43 1::oE 51 43 2::oE 52 43 3::oM 10 49::oM 11 50::oM 12 51::oM 13 52::[]))
(.seq
(.plain (oM 53 3::oD 54 .eql 53 0::oM 55 54::og 55 true 56 (.mv (oT 5))::og 55 true 57 (.bin .eql (oT 56) (oC 0))::oo 58 (.pick (oT 55) (oT 57) oN)::oM 59 58::og 59 true 60 (.mv (oT 9))::og 59 true 61 (.bin .eql (oT 60) (oC 0))::oo 62 (.pick (oT 59) (oT 61) oN)::oM 63 62::og 63 true 64 (.mv (oT 13))::og 63 true 65 (.bin .eql (oT 64) (oC 0))::oo 66 (.pick (oT 63) (oT 65) oN)::oM 67 66::og 67 true 68 (.mv (oT 6))::og 67 true 69 (.gL 1 [(oC 2)])::og 67 true 70 (.gL 1 [(oT 69)])::og 67 true 71 (.bu 11 [(oT 68),(oT 70)])::oo 72 (.pick (oT 67) (oT 71) oN)::oM 73 72::og 73 true 74 (.mv (oT 7))::og 73 true 75 (.gL 1 [(oC 4)])::og 73 true 76 (.gL 1 [(oT 75)])::og 73 true 77 (.bu 11 [(oT 74),(oT 76)])::oo 78 (.pick (oT 73) (oT 77) oN)::oM 79 78::og 79 true 80 (.mv (oT 8))::og 79 true 81 (.bin .eql (oT 80) (oC 2))::oo 82 (.pick (oT 79) (oT 81) oN)::oM 83 82::og 83 true 84 (.mv (oT 12))::og 83 true 85 (.bin .eql (oT 84) (oC 0))::oo 86 (.pick (oT 83) (oT 85) oN)::oM 0 86::[]))
.ret)))))))
theorem aff:cU Tryz.prog 0 5=some F5:=by kernel_rfl
def F6:cT where
 ntmps:=7
 nparams:=1
 results:= [(2,none)]
 code:=
(.seq
(.plain (oo 2 (.mv (oC 0))::[]))
(.seq
(.plain (oM 3 0::oo 4 (.bin .rem (oT 3) (.const (.int .u8 4)))::oo 5 (.jF .i64 (oT 4))::oo 6 (.bin .add (oC 1) (oT 5))::oM 2 6::[]))
.ret))
theorem afg:cU Tryz.prog 0 6=some F6:=by kernel_rfl
def F7:cT where
 ntmps:=4
 nparams:=0
 results:= [(0,none)]
 code:=
(.seq
(.plain (oo 0 (.mv oP)::[]))
(.seq
(.plain (oo 1 (.zq)::oo 2 (.gf [(.v (.map none)),(.sl [] .nil),(.sl [] .nil),(.v (.bool false))] [(0,1,(oT 1))])::oo 3 (.box 55 (oT 2))::oM 0 3::[]))
.ret))
theorem afh:cU Tryz.prog 0 7=some F7:=by kernel_rfl
def F8:cT where
 ntmps:=78
 nparams:=5
 results:= [(10,(some (true,37))),(11,none)]
 code:=
(.seq
(.plain (oo 6 (.box 34 (oT 1))::oo 10 (.alloc 34 (List.replicate 32 (.v (.int .u8 0))++ [(.sl [] .nil),(.sl [] .nil)]++ [(.v (.int .i64 0)),(.v (.int .i64 0))]++ [(.sl [] .nil)]))::oo 11 (.mv oP)::[]))
(.seq
(.seq
(.plain (oo 12 (.mv (oC 0))::[]))
(.block 0
(.loop
(.seq
(.seq
(.plain (oM 18 12::oM 19 4::oK 20 19::oB 21 .lss 18 20::oM 22 21::og 22 true 23 (.mv (oT 12))::og 22 true 24 (.bin .lss (oT 23) (oC 30))::oo 25 (.pick (oT 22) (oT 24) oN)::[]))
(.cond (oT 25)
.skip
(.exit 0)))
(.seq
(.block 1
(.seq
(.plain (oM 28 4::oM 29 12::oI 30 2 28 29::oF 31 1 30::oL 32 31::oM 33 3::oo 34 (.bu 16 [(oT 32),(oT 33)])::oM 13 34::[]))
(.seq
(.seq
(.plain (oM 35 4::oM 36 12::oI 37 2 35 36::oF 38 0 37::oL 39 38::oo 40 (.bin .rem (oT 39) (.const (.int .u8 6)))::oo 41 (.bin .lss (oT 40) (.const (.int .u8 4)))::[]))
(.cond (oT 41)
(.seq
(.seq
(.plain (oM 43 0::oo 44 (.load true 37 (oT 6))::oM 45 13::oM 46 3::oo 47 (.bu 17 [(oT 43),(oT 44),(oT 45),(oT 46)])::oM 42 47::oE 48 42 0::oE 49 42 1::oo 14 (.alloc 34 (List.replicate 32 (.v (.int .u8 0))++ [(.sl [] .nil),(.sl [] .nil)]++ [(.v (.int .i64 0)),(.v (.int .i64 0))]++ [(.sl [] .nil)]))::on (.store 37 (oT 14) (oT 48))::oM 15 49::[]))
(.seq
(.plain (oM 50 15::oD 51 .eql 50 0::[]))
(.cond (oT 51)
(.plain (oo 52 (.load true 37 (oT 14))::on (.store 37 (oT 6) (oT 52))::[]))
.skip)))
(.seq
(.plain (oM 54 2::oM 55 13::oo 56 (.bu 18 [(oT 54),(oT 55)])::oM 53 56::oE 57 53 0::oE 58 53 1::oM 2 57::[]))
(.exit 1)))
.skip))
(.seq
(.seq
(.plain (oM 60 0::oo 61 (.load true 37 (oT 6))::oM 62 13::oM 63 3::oo 64 (.bu 19 [(oT 60),(oT 61),(oT 62),(oT 63)])::oM 59 64::oE 65 59 0::oE 66 59 1::oo 16 (.alloc 34 (List.replicate 32 (.v (.int .u8 0))++ [(.sl [] .nil),(.sl [] .nil)]++ [(.v (.int .i64 0)),(.v (.int .i64 0))]++ [(.sl [] .nil)]))::on (.store 37 (oT 16) (oT 65))::oM 17 66::[]))
(.seq
(.plain (oM 67 17::oD 68 .eql 67 0::[]))
(.cond (oT 68)
(.plain (oo 69 (.load true 37 (oT 16))::on (.store 37 (oT 6) (oT 69))::[]))
.skip)))
(.plain (oM 71 2::oM 72 13::oo 73 (.bu 20 [(oT 71),(oT 72)])::oM 70 73::oE 74 70 0::oE 75 70 1::oM 2 74::[]))))))
(.plain (oM 26 12::oD 27 .add 26 1::oM 12 27::[])))))))
(.seq
(.plain (oo 76 (.load true 37 (oT 6))::oM 77 2::on (.store 37 (oT 10) (oT 76))::oM 11 77::[]))
.ret)))
theorem afi:cU Tryz.prog 0 8=some F8:=by kernel_rfl
def F9:cT where
 ntmps:=67
 nparams:=5
 results:= [(10,none),(11,none),(12,none),(13,none)]
 code:=
(.seq
(.plain (oo 6 (.box 34 (oT 1))::oo 8 (.box 34 (oT 3))::oo 10 (.mv oZ)::oo 11 (.mv oZ)::oo 12 (.mv (oC 0))::oo 13 (.mv (oC 0))::[]))
(.seq
(.seq
(.plain (oM 16 4::oD 17 .lss 16 1::oM 18 17::og 18 false 19 (.mv (oT 4))::og 18 false 20 (.bin .gtr (oT 19) (oC 8))::oo 21 (.pick (oT 18) oY (oT 20))::[]))
(.cond (oT 21)
(.seq
(.plain (oo 10 (.mv oZ)::oo 11 (.mv oZ)::oo 12 (.mv (oC 0))::oo 13 (.mv (oC 1))::[]))
.ret)
.skip))
(.seq
(.draw (oM 22 0::oo 23 (.load true 37 (oT 6))::oM 24 4::oo 25 (.bu 21 [(oT 22),(oT 23),(oT 24)])::oM 26 2::oo 27 (.load true 37 (oT 8))::oM 28 4::oo 29 (.bu 21 [(oT 26),(oT 27),(oT 28)])::oo 30 (.gf [(.v (.pointer none)),(.v (.pointer none)),(.sl [] .nil),(.sl [] .nil),(.v (.int .i64 0))] [(0,1,(oT 25)),(1,1,(oT 29))])::oo 31 (.box 66 (oT 30))::oM 14 31::[])
(oO 0::oO 1::oO 2::oO 4::oO 5::oO 6::⟨3,[],[5]⟩::oO 7::oO 8::oO 9::oO 10:: []))
(.seq
(.block 0
(.loop
(.seq
(.seq
(.draw (oM 32 14::oo 33 (.df (oT 32))::oF 34 0 33::oL 35 34::oo 36 (.df (oT 35))::oF 37 2 36::oL 38 37::oK 39 38::oM 40 14::oo 41 (.df (oT 40))::oF 42 1 41::oL 43 42::oo 44 (.df (oT 43))::oF 45 2 44::oL 46 45::oK 47 46::oB 48 .add 39 47::oD 49 .gtr 48 0::[])
(oO 0::oO 1::oO 2::oO 3::oO 4::oO 5::oO 6::oO 7::oO 8::oO 9::oO 10::oO 11::oO 12::oO 13::oO 14::oO 15::oO 16::oO 17:: []))
(.cond (oT 49)
.skip
(.exit 0)))
(.block 1
(.seq
(.plain (oM 50 14::oo 51 (.bu 22 [(oT 50)])::oM 15 51::[]))
(.seq
(.plain (oM 52 15::oD 53 .neq 52 0::[]))
(.cond (oT 53)
(.seq
(.plain (oM 54 15::oo 10 (.mv oZ)::oo 11 (.mv oZ)::oo 12 (.mv (oC 0))::oM 13 54::[]))
.ret)
.skip)))))))
(.seq
(.draw (oM 55 14::oo 56 (.df (oT 55))::oF 57 2 56::oL 58 57::oM 59 14::oo 60 (.df (oT 59))::oF 61 3 60::oL 62 61::oM 63 14::oo 64 (.df (oT 63))::oF 65 4 64::oL 66 65::oM 10 58::oM 11 62::oM 12 66::oo 13 (.mv (oC 0))::[])
(oO 0::oO 1::oO 2::oO 3::oO 4::oO 5::oO 6::oO 7::oO 8::oO 9::oO 10::oO 11::oO 12::oO 13::oO 14::oO 15:: []))
.ret)))))
theorem afj:cU Tryz.prog 0 9=some F9:=by kernel_rfl
def F10:cT where
 ntmps:=19
 nparams:=1
 results:= [(2,none),(3,none),(4,none)]
 code:=
(.seq
(.plain (oo 2 (.mv oZ)::oo 3 (.mv oZ)::oo 4 (.mv oN)::[]))
(.seq
(.draw (oM 5 0::oo 6 (.df (oT 5))::oF 7 1 6::oL 8 7::oo 9 (.bu 23 [(oT 8)])::oM 10 0::oo 11 (.df (oT 10))::oF 12 2 11::oL 13 12::oo 14 (.bu 23 [(oT 13)])::oM 15 0::oo 16 (.df (oT 15))::oF 17 3 16::oL 18 17::oM 2 9::oM 3 14::oM 4 18::[])
(oO 0::oO 1::oO 2::oO 3::oO 5::oO 6::oO 7::oO 8::oO 10::oO 11::oO 12::oO 13::⟨4,[],[8,13]⟩::⟨9,[],[13]⟩::oO 14::oO 15::oO 16:: []))
.ret))
theorem acq:cU Tryz.prog 0 10=some F10:=by kernel_rfl
def F11:cT where
 ntmps:=27
 nparams:=2
 results:= [(4,none)]
 code:=
(.seq
(.plain (oo 4 (.mv oN)::[]))
(.seq
(.seq
(.plain (oM 6 0::oK 7 6::oM 8 1::oK 9 8::oB 10 .neq 7 9::[]))
(.cond (oT 10)
(.seq
(.plain (oo 4 (.mv oN)::[]))
.ret)
.skip))
(.seq
(.seq
(.plain (oo 5 (.mv (oC 0))::[]))
(.block 0
(.loop
(.seq
(.seq
(.plain (oM 11 5::oM 12 0::oK 13 12::oB 14 .lss 11 13::[]))
(.cond (oT 14)
.skip
(.exit 0)))
(.seq
(.block 1
(.seq
(.draw (oM 17 0::oM 18 5::oI 19 1 17 18::oL 20 19::oM 21 1::oM 22 5::oI 23 1 21 22::oL 24 23::oo 25 (.bu 24 [(oT 20),(oT 24)])::oo 26 (.un .not (oT 25))::[])
(oO 0::oO 1::oO 2::oO 3::oO 4::oO 5::oO 6::oO 7::oO 8::oO 9:: []))
(.cond (oT 26)
(.seq
(.plain (oo 4 (.mv oN)::[]))
.ret)
.skip)))
(.plain (oM 15 5::oD 16 .add 15 1::oM 5 16::[])))))))
(.seq
(.plain (oo 4 (.mv oY)::[]))
.ret))))
theorem acr:cU Tryz.prog 0 11=some F11:=by kernel_rfl
def F13:cT where
 ntmps:=33
 nparams:=1
 results:= [(2,none)]
 code:=
(.seq
(.plain (oo 2 (.mv oZ)::[]))
(.seq
(.seq
(.plain (oM 5 0::oo 6 (.Ge false (oT 5) oP)::[]))
(.cond (oT 6)
(.seq
(.plain (oo 2 (.mv oZ)::[]))
.ret)
.skip))
(.seq
(.plain (oo 7 (.gL 1 [])::oM 8 0::oo 9 (.df (oT 8))::oF 10 0 9::oL 11 10::oo 12 (.app 1 24 (oT 7) (oT 11))::oM 3 12::[]))
(.seq
(.seq
(.plain (oo 4 (.mv (oC 0))::[]))
(.block 0
(.loop
(.seq
(.seq
(.plain (oM 13 4::oM 14 0::oo 15 (.df (oT 14))::oF 16 1 15::oL 17 16::oK 18 17::oB 19 .lss 13 18::[]))
(.cond (oT 19)
.skip
(.exit 0)))
(.seq
(.block 1
(.plain (oM 22 3::oM 23 0::oo 24 (.df (oT 23))::oF 25 1 24::oL 26 25::oM 27 4::oI 28 1 26 27::oL 29 28::oo 30 (.bu 13 [(oT 29)])::oo 31 (.app 1 24 (oT 22) (oT 30))::oM 3 31::[])))
(.plain (oM 20 4::oD 21 .add 20 1::oM 4 21::[])))))))
(.seq
(.plain (oM 32 3::oM 2 32::[]))
.ret)))))
theorem RL:cU Tryz.prog 0 13=some F13:=by kernel_rfl
def F15:cT where
 ntmps:=62
 nparams:=3
 results:= [(6,(some (true,37))),(7,none)]
 code:=
(.seq
(.plain (oo 6 (.alloc 34 (List.replicate 32 (.v (.int .u8 0))++ [(.sl [] .nil),(.sl [] .nil)]++ [(.v (.int .i64 0)),(.v (.int .i64 0))]++ [(.sl [] .nil)]))::oo 7 (.mv (oC 0))::[]))
(.seq
(.seq
(.plain (oM 13 2::oM 14 1::oo 15 (.bu 28 [(oT 13),(oT 14)])::oo 16 (.un .not (oT 15))::[]))
(.cond (oT 16)
(.seq
(.plain (oo 17 (.gf (List.replicate 32 (.v (.int .u8 0))++ [(.sl [] .nil),(.sl [] .nil)]++ [(.v (.int .i64 0)),(.v (.int .i64 0))]++ [(.sl [] .nil)]) [])::on (.store 37 (oT 6) (oT 17))::oo 7 (.mv (oC 1))::[]))
.ret)
.skip))
(.seq
(.plain (oM 18 1::oo 19 (.bu 29 [(oT 18)])::oM 8 19::[]))
(.seq
(.plain (oM 20 8::oo 21 (.bu 30 [(oT 20),(.func 31)])::[]))
(.seq
(.seq
(.plain (oo 9 (.mv (oC 1))::[]))
(.block 0
(.loop
(.seq
(.seq
(.plain (oM 22 9::oM 23 8::oK 24 23::oB 25 .lss 22 24::[]))
(.cond (oT 25)
.skip
(.exit 0)))
(.seq
(.block 1
(.seq
(.draw (oM 28 8::oM 29 9::oI 30 1 28 29::oL 31 30::oM 32 8::oM 33 9::oD 34 .sub 33 1::oI 35 1 32 34::oL 36 35::oo 37 (.bu 32 [(oT 31),(oT 36)])::[])
(oO 0::oO 1::oO 2::oO 3::oO 4::oO 5::oO 6::oO 7::oO 8::oO 9:: []))
(.cond (oT 37)
(.seq
(.plain (oo 38 (.gf (List.replicate 32 (.v (.int .u8 0))++ [(.sl [] .nil),(.sl [] .nil)]++ [(.v (.int .i64 0)),(.v (.int .i64 0))]++ [(.sl [] .nil)]) [])::on (.store 37 (oT 6) (oT 38))::oo 7 (.mv (oC 8))::[]))
.ret)
.skip)))
(.plain (oM 26 9::oD 27 .add 26 1::oM 9 27::[])))))))
(.seq
(.plain (oM 39 0::oM 40 2::oo 41 (.gf [(.v (.pointer none)),(.v (.int .i64 0))] [(0,1,(oT 39)),(1,1,(oT 40))])::oo 10 (.alloc 85 [(.v (.pointer none)),(.v (.int .i64 0))])::on (.store 2 (oT 10) (oT 41))::[]))
(.seq
(.draw (oM 43 8::oM 44 8::oK 45 44::oo 46 (.bu 35 [(oT 45)])::oo 47 (.bu 34 [(oT 43),(oT 46)])::oo 48 (.load true 2 (oT 10))::oo 49 (.eU 36 [(oT 48)] [])::oo 50 (.bu 33 [(oT 47),(oT 49)])::oM 42 50::oE 51 42 0::oE 52 42 1::oM 11 51::oM 12 52::[])
(oO 0::oO 1::oO 2::oO 5::oO 6::⟨3,[],[5]⟩::⟨4,[],[5]⟩::oO 7::oO 8::oO 9::oO 10::oO 11::oO 12:: []))
(.seq
(.seq
(.plain (oM 53 12::oD 54 .neq 53 0::[]))
(.cond (oT 54)
(.seq
(.plain (oo 55 (.gf (List.replicate 32 (.v (.int .u8 0))++ [(.sl [] .nil),(.sl [] .nil)]++ [(.v (.int .i64 0)),(.v (.int .i64 0))]++ [(.sl [] .nil)]) [])::oM 56 12::on (.store 37 (oT 6) (oT 55))::oM 7 56::[]))
.ret)
.skip))
(.seq
(.plain (oo 57 (.load true 2 (oT 10))::oM 58 11::oo 59 (.bu 37 [(oT 57),(oT 58)])::oE 60 59 0::oE 61 59 1::on (.store 37 (oT 6) (oT 60))::oM 7 61::[]))
.ret)))))))))
theorem acu:cU Tryz.prog 0 15=some F15:=by kernel_rfl
def F16:cT where
 ntmps:=28
 nparams:=2
 results:= [(4,none)]
 code:=
(.seq
(.plain (oo 4 (.mv oZ)::[]))
(.seq
(.plain (oM 7 1::oo 8 (.zo 1 8 [(.v (.int .i64 0))] (oT 7) (oT 7))::oM 5 8::[]))
(.seq
(.seq
(.plain (oo 6 (.mv (oC 0))::[]))
(.block 0
(.loop
(.seq
(.seq
(.plain (oM 9 6::oM 10 0::oK 11 10::oB 12 .lss 9 11::oM 13 12::og 13 true 14 (.mv (oT 6))::og 13 true 15 (.mv (oT 1))::og 13 true 16 (.bin .lss (oT 14) (oT 15))::oo 17 (.pick (oT 13) (oT 16) oN)::[]))
(.cond (oT 17)
.skip
(.exit 0)))
(.seq
(.block 1
(.plain (oM 20 5::oM 21 6::oM 22 0::oM 23 6::oI 24 1 22 23::oL 25 24::oI 26 1 20 21::on (.store 1 (oT 26) (oT 25))::[])))
(.plain (oM 18 6::oD 19 .add 18 1::oM 6 19::[])))))))
(.seq
(.plain (oM 27 5::oM 4 27::[]))
.ret))))
theorem acv:cU Tryz.prog 0 16=some F16:=by kernel_rfl
def F17:cT where
 ntmps:=46
 nparams:=4
 results:= [(8,(some (true,37))),(9,none)]
 code:=
(.seq
(.plain (oo 5 (.box 34 (oT 1))::oo 8 (.alloc 34 (List.replicate 32 (.v (.int .u8 0))++ [(.sl [] .nil),(.sl [] .nil)]++ [(.v (.int .i64 0)),(.v (.int .i64 0))]++ [(.sl [] .nil)]))::oo 9 (.mv (oC 0))::[]))
(.seq
(.seq
(.plain (oM 13 3::oM 14 2::oo 15 (.gL 1 [(oT 14)])::oo 16 (.bu 28 [(oT 13),(oT 15)])::oo 17 (.un .not (oT 16))::[]))
(.cond (oT 17)
(.seq
(.plain (oo 18 (.gf (List.replicate 32 (.v (.int .u8 0))++ [(.sl [] .nil),(.sl [] .nil)]++ [(.v (.int .i64 0)),(.v (.int .i64 0))]++ [(.sl [] .nil)]) [])::on (.store 37 (oT 8) (oT 18))::oo 9 (.mv (oC 1))::[]))
.ret)
.skip))
(.seq
(.plain (oM 19 0::oM 20 3::oo 21 (.gf [(.v (.pointer none)),(.v (.int .i64 0))] [(0,1,(oT 19)),(1,1,(oT 20))])::oo 10 (.alloc 85 [(.v (.pointer none)),(.v (.int .i64 0))])::on (.store 2 (oT 10) (oT 21))::[]))
(.seq
(.seq
(.plain (oo 22 (.load true 37 (oT 5))::oo 23 (.bu 38 [(oT 22)])::[]))
(.cond (oT 23)
(.seq
(.plain (oo 24 (.load true 2 (oT 10))::oM 25 2::oo 26 (.gL 1 [(oT 25)])::oo 27 (.bu 36 [(oT 24),(oT 26)])::oE 28 27 0::oE 29 27 1::on (.store 37 (oT 8) (oT 28))::oM 9 29::[]))
.ret)
.skip))
(.seq
(.plain (oo 31 (.load true 2 (oT 10))::oo 32 (.load true 37 (oT 5))::oM 33 2::oo 34 (.bu 39 [(oT 31),(oT 32),(oT 33)])::oM 30 34::oE 35 30 0::oE 36 30 1::oM 11 35::oM 12 36::[]))
(.seq
(.seq
(.plain (oM 37 12::oD 38 .neq 37 0::[]))
(.cond (oT 38)
(.seq
(.plain (oo 39 (.gf (List.replicate 32 (.v (.int .u8 0))++ [(.sl [] .nil),(.sl [] .nil)]++ [(.v (.int .i64 0)),(.v (.int .i64 0))]++ [(.sl [] .nil)]) [])::oM 40 12::on (.store 37 (oT 8) (oT 39))::oM 9 40::[]))
.ret)
.skip))
(.seq
(.plain (oo 41 (.load true 2 (oT 10))::oM 42 11::oo 43 (.bu 37 [(oT 41),(oT 42)])::oE 44 43 0::oE 45 43 1::on (.store 37 (oT 8) (oT 44))::oM 9 45::[]))
.ret)))))))
theorem acw:cU Tryz.prog 0 17=some F17:=by kernel_rfl
def F18:cT where
 ntmps:=21
 nparams:=2
 results:= [(4,none),(5,none)]
 code:=
(.seq
(.plain (oo 4 (.mv oP)::oo 5 (.mv oN)::[]))
(.seq
(.seq
(.plain (oM 6 0::oo 7 (.Ge false (oT 6) oP)::[]))
(.cond (oT 7)
(.seq
(.plain (oM 8 1::oo 9 (.gL 1 [(oT 8)])::oo 10 (.gf [(.sl [] .nil),(.sl [] .nil)] [(0,1,(oT 9))])::oo 11 (.box 76 (oT 10))::oM 4 11::oo 5 (.mv oY)::[]))
.ret)
.skip))
(.seq
(.seq
(.plain (oM 12 0::oo 13 (.bu 13 [(oT 12)])::oM 14 1::oo 15 (.bu 40 [(oT 13),(oT 14)])::[]))
(.cond (oT 15)
(.seq
(.plain (oM 16 0::oM 4 16::oo 5 (.mv oN)::[]))
.ret)
.skip))
(.seq
(.plain (oM 17 0::oM 18 1::oo 19 (.bu 42 [(oT 17),(oT 18)])::oo 20 (.bu 41 [(oT 19)])::oM 4 20::oo 5 (.mv oY)::[]))
.ret))))
theorem acx:cU Tryz.prog 0 18=some F18:=by kernel_rfl
def F19:cT where
 ntmps:=66
 nparams:=4
 results:= [(8,(some (true,37))),(9,none)]
 code:=
(.seq
(.plain (oo 5 (.box 34 (oT 1))::oo 8 (.alloc 34 (List.replicate 32 (.v (.int .u8 0))++ [(.sl [] .nil),(.sl [] .nil)]++ [(.v (.int .i64 0)),(.v (.int .i64 0))]++ [(.sl [] .nil)]))::oo 9 (.mv (oC 0))::[]))
(.seq
(.seq
(.plain (oM 13 3::oM 14 2::oo 15 (.gL 1 [(oT 14)])::oo 16 (.bu 28 [(oT 13),(oT 15)])::oo 17 (.un .not (oT 16))::[]))
(.cond (oT 17)
(.seq
(.plain (oo 18 (.gf (List.replicate 32 (.v (.int .u8 0))++ [(.sl [] .nil),(.sl [] .nil)]++ [(.v (.int .i64 0)),(.v (.int .i64 0))]++ [(.sl [] .nil)]) [])::on (.store 37 (oT 8) (oT 18))::oo 9 (.mv (oC 1))::[]))
.ret)
.skip))
(.seq
(.seq
(.plain (oo 19 (.load true 37 (oT 5))::oo 20 (.bu 38 [(oT 19)])::[]))
(.cond (oT 20)
(.seq
(.plain (oo 21 (.gf (List.replicate 32 (.v (.int .u8 0))++ [(.sl [] .nil),(.sl [] .nil)]++ [(.v (.int .i64 0)),(.v (.int .i64 0))]++ [(.sl [] .nil)]) [])::on (.store 37 (oT 8) (oT 21))::oo 9 (.mv (oC 9))::[]))
.ret)
.skip))
(.seq
(.plain (oM 22 0::oM 23 3::oo 24 (.gf [(.v (.pointer none)),(.v (.int .i64 0))] [(0,1,(oT 22)),(1,1,(oT 23))])::oo 10 (.alloc 85 [(.v (.pointer none)),(.v (.int .i64 0))])::on (.store 2 (oT 10) (oT 24))::[]))
(.seq
(.plain (oo 26 (.load true 2 (oT 10))::oo 27 (.load true 37 (oT 5))::oM 28 2::oo 29 (.bu 43 [(oT 26),(oT 27),(oT 28)])::oM 25 29::oE 30 25 0::oE 31 25 1::oo 11 (.alloc 100 [(.v (.bool false)),(.sl [] .nil),(.sl [] .nil)])::on (.store 3 (oT 11) (oT 30))::oM 12 31::[]))
(.seq
(.block 0
(.seq
(.plain (oM 33 12::oD 34 .neq 33 0::oM 32 34::[]))
(.cond (oT 32)
(.seq
(.plain (oo 35 (.gf (List.replicate 32 (.v (.int .u8 0))++ [(.sl [] .nil),(.sl [] .nil)]++ [(.v (.int .i64 0)),(.v (.int .i64 0))]++ [(.sl [] .nil)]) [])::oM 36 12::on (.store 37 (oT 8) (oT 35))::oM 9 36::[]))
.ret)
(.seq
(.plain (oF 38 0 11::oL 39 38::oM 40 39::og 40 true 41 (.fa 1 (oT 11))::og 40 true 42 (.load false 1 (oT 41))::og 40 true 43 (.len (oT 42))::og 40 true 44 (.bin .eql (oT 43) (oC 0))::oo 45 (.pick (oT 40) (oT 44) oN)::oM 37 45::[]))
(.cond (oT 37)
(.seq
(.plain (oo 46 (.gf (List.replicate 32 (.v (.int .u8 0))++ [(.sl [] .nil),(.sl [] .nil)]++ [(.v (.int .i64 0)),(.v (.int .i64 0))]++ [(.sl [] .nil)]) [])::on (.store 37 (oT 8) (oT 46))::oo 9 (.mv (oC 0))::[]))
.ret)
(.seq
(.plain (oF 48 0 11::oL 49 48::oo 50 (.un .not (oT 49))::oM 51 50::og 51 true 52 (.fa 2 (oT 11))::og 51 true 53 (.load false 1 (oT 52))::og 51 true 54 (.len (oT 53))::og 51 true 55 (.bin .eql (oT 54) (oC 1))::oo 56 (.pick (oT 51) (oT 55) oN)::oM 47 56::[]))
(.cond (oT 47)
(.seq
(.plain (oF 57 2 11::oL 58 57::oo 59 (.kA 37 (oT 58) (oC 0))::oo 60 (.load true 37 (oT 59))::on (.store 37 (oT 8) (oT 60))::oo 9 (.mv (oC 0))::[]))
.ret)
.skip)))))))
(.seq
(.plain (oo 61 (.load true 2 (oT 10))::oo 62 (.load true 3 (oT 11))::oo 63 (.bu 44 [(oT 61),(oT 62)])::oE 64 63 0::oE 65 63 1::on (.store 37 (oT 8) (oT 64))::oM 9 65::[]))
.ret)))))))
theorem acy:cU Tryz.prog 0 19=some F19:=by kernel_rfl
def F20:cT where
 ntmps:=41
 nparams:=2
 results:= [(4,none),(5,none)]
 code:=
(.seq
(.plain (oo 4 (.mv oP)::oo 5 (.mv oN)::[]))
(.seq
(.seq
(.plain (oM 7 0::oo 8 (.bu 13 [(oT 7)])::oM 9 1::oo 10 (.bu 40 [(oT 8),(oT 9)])::oo 11 (.un .not (oT 10))::[]))
(.cond (oT 11)
(.seq
(.plain (oM 12 0::oM 4 12::oo 5 (.mv oN)::[]))
.ret)
.skip))
(.seq
(.plain (oM 13 0::oM 14 1::oo 15 (.bu 45 [(oT 13),(oT 14)])::oM 6 15::[]))
(.seq
(.seq
(.plain (oM 16 6::oo 17 (.df (oT 16))::oF 18 1 17::oL 19 18::oK 20 19::oD 21 .eql 20 1::[]))
(.cond (oT 21)
(.seq
(.plain (oM 22 6::oo 23 (.df (oT 22))::oF 24 1 23::oL 25 24::oo 26 (.kA 1 (oT 25) (oC 0))::oL 27 26::oM 4 27::oo 5 (.mv oY)::[]))
.ret)
.skip))
(.seq
(.seq
(.draw (oM 28 6::oo 29 (.df (oT 28))::oF 30 1 29::oL 31 30::oK 32 31::oM 33 6::oo 34 (.df (oT 33))::oF 35 0 34::oL 36 35::oK 37 36::oB 38 .add 32 37::oD 39 .eql 38 0::[])
(oO 0::oO 1::oO 2::oO 3::oO 4::oO 5::oO 6::oO 7::oO 8::oO 9::oO 10::oO 11:: []))
(.cond (oT 39)
(.seq
(.plain (oo 4 (.mv oP)::oo 5 (.mv oY)::[]))
.ret)
.skip))
(.seq
(.plain (oM 40 6::oM 4 40::oo 5 (.mv oY)::[]))
.ret))))))
theorem acz:cU Tryz.prog 0 20=some F20:=by kernel_rfl
def F21:cT where
 ntmps:=22
 nparams:=3
 results:= [(6,none)]
 code:=
(.seq
(.plain (oo 4 (.box 34 (oT 1))::oo 6 (.mv oP)::[]))
(.seq
(.plain (oM 8 0::oM 9 2::oo 10 (.gf [(.v (.pointer none)),(.v (.int .i64 0)),(.sl [] .nil)] [(0,1,(oT 8)),(1,1,(oT 9))])::oo 11 (.box 69 (oT 10))::oM 7 11::[]))
(.seq
(.seq
(.plain (oo 12 (.load true 37 (oT 4))::oo 13 (.bu 38 [(oT 12)])::oo 14 (.un .not (oT 13))::[]))
(.cond (oT 14)
(.plain (oM 15 7::oo 16 (.load true 37 (oT 4))::oo 17 (.gf ([(.sl [] .nil)]++List.replicate 32 (.v (.int .u8 0))++ [(.sl [] .nil),(.sl [] .nil)]++ [(.v (.int .i64 0)),(.v (.int .i64 0))]++ [(.sl [] .nil)]) [(1,37,(oT 16))])::oo 18 (.gL 38 [(oT 17)])::oo 19 (.df (oT 15))::oF 20 2 19::on (.store 1 (oT 20) (oT 18))::[]))
.skip))
(.seq
(.plain (oM 21 7::oM 6 21::[]))
.ret))))
theorem acA:cU Tryz.prog 0 21=some F21:=by kernel_rfl
def F22:cT where
 ntmps:=78
 nparams:=1
 results:= [(2,none)]
 code:=
(.seq
(.plain (oo 2 (.mv (oC 0))::[]))
(.seq
(.seq
(.plain (oM 6 0::oo 7 (.bu 46 [(oT 6)])::[]))
(.cond (oT 7)
(.seq
(.draw (oM 8 0::oo 9 (.df (oT 8))::oF 10 0 9::oL 11 10::oM 12 0::oo 13 (.df (oT 12))::oF 14 1 13::oL 15 14::oM 16 0::oo 17 (.df (oT 16))::oF 18 0 17::oL 19 18::oo 20 (.df (oT 19))::oF 21 2 20::oL 22 21::oo 23 (.pI 38 (oT 22) (some (oC 1)) none)::oM 24 0::oo 25 (.df (oT 24))::oF 26 1 25::oL 27 26::oo 28 (.df (oT 27))::oF 29 2 28::oL 30 29::oo 31 (.pI 38 (oT 30) (some (oC 1)) none)::oo 32 (.df (oT 11))::oF 33 2 32::on (.store 1 (oT 33) (oT 23))::oo 34 (.df (oT 15))::oF 35 2 34::on (.store 1 (oT 35) (oT 31))::[])
(oO 0::oO 1::oO 2::oO 3::oO 4::oO 5::oO 6::oO 7::oO 8::oO 9::oO 10::oO 11::oO 12::oO 13::oO 14::oO 15::oO 16::oO 17::oO 18::oO 19::oO 20::oO 21::oO 22::oO 23::oO 24::oO 25::oO 26::oO 27::oO 28::oO 29:: []))
(.seq
(.plain (oo 2 (.mv (oC 0))::[]))
.ret))
.skip))
(.seq
(.plain (oM 37 0::oo 38 (.bu 47 [(oT 37)])::oM 36 38::oE 39 36 0::oE 40 36 1::oM 3 39::oM 4 40::[]))
(.seq
(.seq
(.plain (oM 41 3::oo 42 (.un .not (oT 41))::oM 43 42::og 43 true 44 (.mv (oT 4))::og 43 true 45 (.un .not (oT 44))::oo 46 (.pick (oT 43) (oT 45) oN)::[]))
(.cond (oT 46)
(.seq
(.plain (oM 47 0::oo 48 (.bu 48 [(oT 47)])::[]))
(.seq
(.plain (oo 2 (.mv (oC 0))::[]))
.ret))
.skip))
(.seq
(.seq
(.plain (oM 49 3::[]))
(.cond (oT 49)
(.seq
(.plain (oM 50 0::oo 51 (.df (oT 50))::oF 52 4 51::oL 53 52::oD 54 .add 53 1::oo 55 (.df (oT 50))::oF 56 4 55::on (.store 1 (oT 56) (oT 54))::[]))
(.seq
(.plain (oM 57 0::oo 58 (.df (oT 57))::oF 59 0 58::oL 60 59::oo 61 (.bu 49 [(oT 60)])::oM 5 61::[]))
(.seq
(.plain (oM 62 5::oD 63 .neq 62 0::[]))
(.cond (oT 63)
(.seq
(.plain (oM 64 5::oM 2 64::[]))
.ret)
.skip))))
.skip))
(.seq
(.seq
(.plain (oM 65 4::[]))
(.cond (oT 65)
(.seq
(.plain (oM 66 0::oo 67 (.df (oT 66))::oF 68 4 67::oL 69 68::oD 70 .add 69 1::oo 71 (.df (oT 66))::oF 72 4 71::on (.store 1 (oT 72) (oT 70))::[]))
(.seq
(.plain (oM 73 0::oo 74 (.df (oT 73))::oF 75 1 74::oL 76 75::oo 77 (.bu 49 [(oT 76)])::oM 2 77::[]))
.ret))
.skip))
(.seq
(.plain (oo 2 (.mv (oC 0))::[]))
.ret)))))))
theorem acB:cU Tryz.prog 0 22=some F22:=by kernel_rfl
def F23:cT where
 ntmps:=8
 nparams:=1
 results:= [(2,none)]
 code:=
(.seq
(.plain (oo 2 (.mv oZ)::[]))
(.seq
(.seq
(.plain (oM 3 0::oo 4 (.wX false (oT 3))::[]))
(.cond (oT 4)
(.seq
(.plain (oo 2 (.mv oZ)::[]))
.ret)
.skip))
(.seq
(.plain (oo 5 (.gL 1 [])::oM 6 0::oo 7 (.app 1 1 (oT 5) (oT 6))::oM 2 7::[]))
.ret)))
theorem acC:cU Tryz.prog 0 23=some F23:=by kernel_rfl
def F24:cT where
 ntmps:=26
 nparams:=2
 results:= [(4,none)]
 code:=
(.seq
(.plain (oo 4 (.mv oN)::[]))
(.seq
(.seq
(.plain (oM 6 0::oK 7 6::oM 8 1::oK 9 8::oB 10 .neq 7 9::[]))
(.cond (oT 10)
(.seq
(.plain (oo 4 (.mv oN)::[]))
.ret)
.skip))
(.seq
(.seq
(.plain (oo 5 (.mv (oC 0))::[]))
(.block 0
(.loop
(.seq
(.seq
(.plain (oM 11 5::oM 12 0::oK 13 12::oB 14 .lss 11 13::[]))
(.cond (oT 14)
.skip
(.exit 0)))
(.seq
(.block 1
(.seq
(.draw (oM 17 0::oM 18 5::oI 19 1 17 18::oL 20 19::oM 21 1::oM 22 5::oI 23 1 21 22::oL 24 23::oB 25 .neq 20 24::[])
(oO 0::oO 1::oO 2::oO 3::oO 4::oO 5::oO 6::oO 7::oO 8:: []))
(.cond (oT 25)
(.seq
(.plain (oo 4 (.mv oN)::[]))
.ret)
.skip)))
(.plain (oM 15 5::oD 16 .add 15 1::oM 5 16::[])))))))
(.seq
(.plain (oo 4 (.mv oY)::[]))
.ret))))
theorem acD:cU Tryz.prog 0 24=some F24:=by kernel_rfl
def F27:cT where
 ntmps:=21
 nparams:=2
 results:= [(4,none),(5,none)]
 code:=
(.seq
(.plain (oo 3 (.box 28 (oT 1))::oo 4 (.mv oZ)::oo 5 (.mv (oC 0))::[]))
(.seq
(.draw (oM 9 0::oo 10 (.df (oT 9))::oF 11 0 10::oL 12 11::oo 13 (.load true 32 (oT 3))::oo 14 (.BR true [(32,.int .u8)] (.sl [] .nil) (oT 12) (oT 13))::oM 8 14::oE 15 8 0::oE 16 8 1::oM 6 15::oM 7 16::[])
(oO 0::oO 1::oO 2::oO 3::oO 4::oO 5::oO 6::oO 7::oO 8::oO 9::oO 10:: []))
(.seq
(.seq
(.plain (oM 17 7::oo 18 (.un .not (oT 17))::[]))
(.cond (oT 18)
(.seq
(.plain (oo 4 (.mv oZ)::oo 5 (.mv (oC 9))::[]))
.ret)
.skip))
(.seq
(.plain (oM 19 6::oo 20 (.bu 23 [(oT 19)])::oM 4 20::oo 5 (.mv (oC 0))::[]))
.ret))))
theorem acF:cU Tryz.prog 0 27=some F27:=by kernel_rfl
def F28:cT where
 ntmps:=17
 nparams:=2
 results:= [(4,none)]
 code:=
(.seq
(.plain (oo 2 (.box 3 (oT 0))::oo 4 (.mv oN)::[]))
(.seq
(.plain (oL 5 2::oD 6 .geq 5 1::oM 7 6::og 7 true 8 (.load false 1 (oT 2))::og 7 true 9 (.bin .leq (oT 8) (oC 8))::oo 10 (.pick (oT 7) (oT 9) oN)::oM 11 10::og 11 true 12 (.mv (oT 1))::og 11 true 13 (.eU 55 [] [(oT 2)])::og 11 true 14 (.bu 54 [(oT 12),(oT 13)])::og 11 true 15 (.un .not (oT 14))::oo 16 (.pick (oT 11) (oT 15) oN)::oM 4 16::[]))
.ret))
theorem acG:cU Tryz.prog 0 28=some F28:=by kernel_rfl
def F29:cT where
 ntmps:=8
 nparams:=1
 results:= [(2,none)]
 code:=
(.seq
(.plain (oo 2 (.mv oZ)::[]))
(.seq
(.seq
(.plain (oM 3 0::oo 4 (.wX false (oT 3))::[]))
(.cond (oT 4)
(.seq
(.plain (oo 2 (.mv oZ)::[]))
.ret)
.skip))
(.seq
(.plain (oo 5 (.gL 1 [])::oM 6 0::oo 7 (.app 1 24 (oT 5) (oT 6))::oM 2 7::[]))
.ret)))
theorem acH:cU Tryz.prog 0 29=some F29:=by kernel_rfl
def F30:cT where
 ntmps:=14
 nparams:=2
 results:= []
 code:=
(.seq
(.plain (oM 5 0::oK 6 5::oM 4 6::[]))
(.plain (oM 7 0::oM 8 4::oM 9 4::oo 10 (.jF .u64 (oT 9))::oo 11 (.bu 57 [(oT 10)])::oM 12 1::oo 13 (.bu 56 [(oT 7),(oC 0),(oT 8),(oT 11),(oT 12)])::[])))
theorem acI:cU Tryz.prog 0 30=some F30:=by kernel_rfl
def F31:cT where
 ntmps:=13
 nparams:=2
 results:= [(4,none)]
 code:=
(.seq
(.plain (oo 4 (.mv (oC 0))::[]))
(.seq
(.block 0
(.seq
(.plain (oM 6 0::oM 7 1::oo 8 (.bu 58 [(oT 6),(oT 7)])::oM 5 8::[]))
(.cond (oT 5)
(.seq
(.plain (oo 4 (.mv (oC (-1)))::[]))
.ret)
(.seq
(.plain (oM 10 1::oM 11 0::oo 12 (.bu 58 [(oT 10),(oT 11)])::oM 9 12::[]))
(.cond (oT 9)
(.seq
(.plain (oo 4 (.mv (oC 1))::[]))
.ret)
.skip)))))
(.seq
(.plain (oo 4 (.mv (oC 0))::[]))
.ret)))
theorem acJ:cU Tryz.prog 0 31=some F31:=by kernel_rfl
def F32:cT where
 ntmps:=26
 nparams:=2
 results:= [(4,none)]
 code:=
(.seq
(.plain (oo 4 (.mv oN)::[]))
(.seq
(.seq
(.plain (oM 6 0::oK 7 6::oM 8 1::oK 9 8::oB 10 .neq 7 9::[]))
(.cond (oT 10)
(.seq
(.plain (oo 4 (.mv oN)::[]))
.ret)
.skip))
(.seq
(.seq
(.plain (oM 11 0::oK 12 11::oo 13 (.mv (oC 0))::[]))
(.block 0
(.loop
(.seq
(.plain (oB 14 .lss 13 12::[]))
(.seq
(.cond (oT 14)
.skip
(.exit 0))
(.seq
(.block 1
(.seq
(.plain (oM 15 13::oM 5 15::[]))
(.seq
(.draw (oM 16 0::oM 17 5::oI 18 1 16 17::oL 19 18::oM 20 1::oM 21 5::oI 22 1 20 21::oL 23 22::oB 24 .neq 19 23::[])
(oO 0::oO 1::oO 2::oO 3::oO 4::oO 5::oO 6::oO 7::oO 8:: []))
(.cond (oT 24)
(.seq
(.plain (oo 4 (.mv oN)::[]))
.ret)
.skip))))
(.plain (oD 25 .add 13 1::oM 13 25::[]))))))))
(.seq
(.plain (oo 4 (.mv oY)::[]))
.ret))))
theorem acK:cU Tryz.prog 0 32=some F32:=by kernel_rfl
def F33:cT where
 ntmps:=32
 nparams:=2
 results:= [(4,none),(5,none)]
 code:=
(.seq
(.plain (oo 4 (.mv oZ)::oo 5 (.mv (oC 0))::[]))
(.seq
(.plain (oo 6 (.mv oZ)::[]))
(.seq
(.seq
(.plain (oM 11 0::oK 12 11::oo 13 (.mv (oC 0))::[]))
(.block 0
(.loop
(.seq
(.plain (oB 14 .lss 13 12::[]))
(.seq
(.cond (oT 14)
.skip
(.exit 0))
(.seq
(.block 1
(.seq
(.plain (oI 15 1 11 13::oL 16 15::oM 8 16::[]))
(.seq
(.plain (oM 18 1::oM 19 8::oo 20 (.rn (oT 18) [(oT 19)])::oM 17 20::oE 21 17 0::oE 22 17 1::oo 9 (.alloc 34 (List.replicate 32 (.v (.int .u8 0))++ [(.sl [] .nil),(.sl [] .nil)]++ [(.v (.int .i64 0)),(.v (.int .i64 0))]++ [(.sl [] .nil)]))::on (.store 37 (oT 9) (oT 21))::oM 10 22::[]))
(.seq
(.seq
(.plain (oM 23 10::oD 24 .neq 23 0::[]))
(.cond (oT 24)
(.seq
(.plain (oM 25 10::oo 4 (.mv oZ)::oM 5 25::[]))
.ret)
.skip))
(.plain (oM 26 6::oo 27 (.load true 37 (oT 9))::oo 28 (.qw 37 [(oT 27)])::oo 29 (.nh 37 120 (oT 26) (oT 28))::oM 6 29::[]))))))
(.plain (oD 30 .add 13 1::oM 13 30::[]))))))))
(.seq
(.plain (oM 31 6::oM 4 31::oo 5 (.mv (oC 0))::[]))
.ret))))
theorem acL:cU Tryz.prog 1 33=some F33:=by kernel_rfl
def F34:cT where
 ntmps:=39
 nparams:=2
 results:= [(4,none)]
 code:=
(.seq
(.plain (oo 4 (.mv oZ)::[]))
(.seq
(.plain (oo 5 (.mv oZ)::[]))
(.seq
(.seq
(.plain (oM 8 1::oo 9 (.mv (oC 0))::[]))
(.block 0
(.loop
(.seq
(.plain (oB 10 .lss 9 8::[]))
(.seq
(.cond (oT 10)
.skip
(.exit 0))
(.seq
(.block 1
(.seq
(.plain (oM 11 9::oM 6 11::[]))
(.seq
(.plain (oM 12 0::oK 13 12::oM 14 1::oM 15 6::oB 16 .sub 14 15::oB 17 .quo 13 16::oM 7 17::[]))
(.seq
(.seq
(.plain (oM 18 0::oK 19 18::oM 20 1::oM 21 6::oB 22 .sub 20 21::oB 23 .rem 19 22::oD 24 .gtr 23 0::[]))
(.cond (oT 24)
(.plain (oM 25 7::oD 26 .add 25 1::oM 7 26::[]))
.skip))
(.seq
(.plain (oM 27 5::oM 28 0::oM 29 7::oo 30 (.pI 1 (oT 28) none (some (oT 29)))::oo 31 (.bu 29 [(oT 30)])::oo 32 (.gL 1 [(oT 31)])::oo 33 (.app 1 24 (oT 27) (oT 32))::oM 5 33::[]))
(.plain (oM 34 0::oM 35 7::oo 36 (.pI 1 (oT 34) (some (oT 35)) none)::oM 0 36::[])))))))
(.plain (oD 37 .add 9 1::oM 9 37::[]))))))))
(.seq
(.plain (oM 38 5::oM 4 38::[]))
.ret))))
theorem acM:cU Tryz.prog 0 34=some F34:=by kernel_rfl
def F35:cT where
 ntmps:=7
 nparams:=1
 results:= [(2,none)]
 code:=
(.seq
(.plain (oo 2 (.mv (oC 0))::[]))
(.seq
(.plain (oM 3 0::oD 4 .add 3 4::oD 5 .sub 4 1::oD 6 .quo 5 4::oM 2 6::[]))
.ret))
theorem acN:cU Tryz.prog 0 35=some F35:=by kernel_rfl
def F36:cT where
 ntmps:=32
 nparams:=2
 results:= [(4,(some (true,37))),(5,none)]
 code:=
(.seq
(.plain (oo 2 (.box 85 (oT 0))::oo 4 (.alloc 34 (List.replicate 32 (.v (.int .u8 0))++ [(.sl [] .nil),(.sl [] .nil)]++ [(.v (.int .i64 0)),(.v (.int .i64 0))]++ [(.sl [] .nil)]))::oo 5 (.mv (oC 0))::[]))
(.seq
(.plain (oo 9 (.gf [(.v (.int .u8 0)),(.sl [] .nil),(.sl [] .nil)] [(0,1,(.const (.int .u8 2)))])::oo 6 (.alloc 121 [(.v (.int .u8 0)),(.sl [] .nil),(.sl [] .nil)])::on (.store 3 (oT 6) (oT 9))::[]))
(.seq
(.seq
(.plain (oM 10 1::oK 11 10::oo 12 (.mv (oC 0))::[]))
(.block 0
(.loop
(.seq
(.plain (oB 13 .lss 12 11::[]))
(.seq
(.cond (oT 13)
.skip
(.exit 0))
(.seq
(.block 1
(.seq
(.plain (oI 14 1 10 12::oL 15 14::oM 8 15::[]))
(.plain (oF 16 1 6::oL 17 16::oM 18 8::oo 19 (.gf [(.sl [] .nil),(.v (.bool false))] [(0,1,(oT 18)),(1,1,oY)])::oo 20 (.gL 2 [(oT 19)])::oo 21 (.app 2 32 (oT 17) (oT 20))::oF 22 1 6::on (.store 1 (oT 22) (oT 21))::[]))))
(.plain (oD 23 .add 12 1::oM 12 23::[]))))))))
(.seq
(.plain (oF 24 0 2::oL 25 24::oo 26 (.load true 3 (oT 6))::oF 27 1 2::oL 28 27::oo 29 (.bu 59 [(oT 25),(oT 26),(oT 28)])::oE 30 29 0::oE 31 29 1::on (.store 37 (oT 4) (oT 30))::oM 5 31::[]))
.ret))))
theorem acO:cU Tryz.prog 0 36=some F36:=by kernel_rfl
def F37:cT where
 ntmps:=34
 nparams:=2
 results:= [(4,(some (true,37))),(5,none)]
 code:=
(.seq
(.plain (oo 2 (.box 85 (oT 0))::oo 4 (.alloc 34 (List.replicate 32 (.v (.int .u8 0))++ [(.sl [] .nil),(.sl [] .nil)]++ [(.v (.int .i64 0)),(.v (.int .i64 0))]++ [(.sl [] .nil)]))::oo 5 (.mv (oC 0))::[]))
(.seq
(.block 0
(.loop
(.seq
(.seq
(.plain (oM 8 1::oK 9 8::oD 10 .gtr 9 1::[]))
(.cond (oT 10)
.skip
(.exit 0)))
(.block 1
(.seq
(.draw (oM 12 1::oM 13 1::oK 14 13::oo 15 (.bu 35 [(oT 14)])::oo 16 (.bu 61 [(oT 12),(oT 15)])::oo 17 (.load true 2 (oT 2))::oo 18 (.eU 62 [(oT 17)] [])::oo 19 (.bu 60 [(oT 16),(oT 18)])::oM 11 19::oE 20 11 0::oE 21 11 1::oM 6 20::oM 7 21::[])
(oO 0::oO 1::oO 2::oO 5::oO 6::⟨3,[],[5]⟩::⟨4,[],[5]⟩::oO 7::oO 8::oO 9::oO 10::oO 11::oO 12:: []))
(.seq
(.seq
(.plain (oM 22 7::oD 23 .neq 22 0::[]))
(.cond (oT 23)
(.seq
(.plain (oo 24 (.gf (List.replicate 32 (.v (.int .u8 0))++ [(.sl [] .nil),(.sl [] .nil)]++ [(.v (.int .i64 0)),(.v (.int .i64 0))]++ [(.sl [] .nil)]) [])::oM 25 7::on (.store 37 (oT 4) (oT 24))::oM 5 25::[]))
.ret)
.skip))
(.plain (oM 26 6::oM 1 26::[]))))))))
(.seq
(.seq
(.plain (oM 27 1::oK 28 27::oD 29 .eql 28 0::[]))
(.cond (oT 29)
(.seq
(.plain (oo 30 (.gf (List.replicate 32 (.v (.int .u8 0))++ [(.sl [] .nil),(.sl [] .nil)]++ [(.v (.int .i64 0)),(.v (.int .i64 0))]++ [(.sl [] .nil)]) [])::on (.store 37 (oT 4) (oT 30))::oo 5 (.mv (oC 0))::[]))
.ret)
.skip))
(.seq
(.plain (oM 31 1::oo 32 (.kA 37 (oT 31) (oC 0))::oo 33 (.load true 37 (oT 32))::on (.store 37 (oT 4) (oT 33))::oo 5 (.mv (oC 0))::[]))
.ret))))
theorem acP:cU Tryz.prog 0 37=some F37:=by kernel_rfl
def F38:cT where
 ntmps:=6
 nparams:=1
 results:= [(2,none)]
 code:=
(.seq
(.plain (oo 1 (.box 34 (oT 0))::oo 2 (.mv oN)::[]))
(.seq
(.plain (oo 3 (.load true 37 (oT 1))::oo 4 (.gf (List.replicate 32 (.v (.int .u8 0))++ [(.sl [] .nil),(.sl [] .nil)]++ [(.v (.int .i64 0)),(.v (.int .i64 0))]++ [(.sl [] .nil)]) [])::oo 5 (.bu 63 [(oT 3),(oT 4)])::oM 2 5::[]))
.ret))
theorem acQ:cU Tryz.prog 0 38=some F38:=by kernel_rfl
def F39:cT where
 ntmps:=74
 nparams:=3
 results:= [(6,none),(7,none)]
 code:=
(.seq
(.plain (oo 3 (.box 85 (oT 0))::oo 4 (.box 34 (oT 1))::oo 6 (.mv oZ)::oo 7 (.mv (oC 0))::[]))
(.seq
(.plain (oo 15 (.load true 2 (oT 3))::oo 16 (.load true 37 (oT 4))::oo 17 (.bu 64 [(oT 15),(oT 16)])::oM 14 17::oE 18 14 0::oE 19 14 1::oo 8 (.alloc 121 [(.v (.int .u8 0)),(.sl [] .nil),(.sl [] .nil)])::on (.store 3 (oT 8) (oT 18))::oM 9 19::[]))
(.seq
(.seq
(.plain (oM 20 9::oD 21 .neq 20 0::[]))
(.cond (oT 21)
(.seq
(.plain (oM 22 9::oo 6 (.mv oZ)::oM 7 22::[]))
.ret)
.skip))
(.seq
(.seq
(.plain (oF 23 0 8::oL 24 23::oo 25 (.bin .eql (oT 24) (.const (.int .u8 2)))::[]))
(.cond (oT 25)
(.seq
(.plain (oo 27 (.load true 3 (oT 8))::oo 28 (.bu 66 [(oT 27)])::oM 29 2::oo 30 (.bu 65 [(oT 28),(oT 29),(.func 31)])::oM 26 30::oE 31 26 0::oE 32 26 1::oM 10 31::oM 11 32::[]))
(.seq
(.seq
(.plain (oM 33 11::[]))
(.cond (oT 33)
(.seq
(.plain (oo 6 (.mv oZ)::oo 7 (.mv (oC 8))::[]))
.ret)
.skip))
(.seq
(.draw (oo 34 (.load true 3 (oT 8))::oo 35 (.bu 66 [(oT 34)])::oM 36 10::oM 37 2::oo 38 (.qw 1 [(oT 37)])::oo 39 (.bu 68 [(oT 35),(oT 36),(oT 38)])::oo 40 (.load true 2 (oT 3))::oo 41 (.eU 36 [(oT 40)] [])::oo 42 (.bu 67 [(oT 39),(oT 41)])::oE 43 42 0::oE 44 42 1::oM 6 43::oM 7 44::[])
(oO 0::oO 2::oO 3::oO 6::oO 7::⟨1,[4],[6]⟩::oO 4::⟨5,[],[6]⟩::oO 8::oO 9::oO 10::oO 11::oO 12:: []))
.ret)))
.skip))
(.seq
(.plain (oo 45 (.load true 3 (oT 8))::oM 46 2::oo 47 (.bu 69 [(oT 45),(oT 46)])::oM 12 47::[]))
(.seq
(.draw (oo 49 (.load true 2 (oT 3))::oF 50 2 8::oL 51 50::oM 52 12::oI 53 37 51 52::oo 54 (.load true 37 (oT 53))::oM 55 2::oo 56 (.bu 39 [(oT 49),(oT 54),(oT 55)])::oM 48 56::oE 57 48 0::oE 58 48 1::oM 13 57::oM 9 58::[])
(oO 0::oO 1::oO 2::oO 3::oO 4::oO 5::oO 6::oO 7::oO 8::oO 9::oO 10::oO 11::oO 12:: []))
(.seq
(.seq
(.plain (oM 59 9::oD 60 .neq 59 0::[]))
(.cond (oT 60)
(.seq
(.plain (oM 61 9::oo 6 (.mv oZ)::oM 7 61::[]))
.ret)
.skip))
(.seq
(.draw (oF 62 2 8::oL 63 62::oM 64 12::oM 65 12::oD 66 .add 65 1::oM 67 13::oo 68 (.bu 71 [(oT 63),(oT 64),(oT 66),(oT 67)])::oo 69 (.load true 2 (oT 3))::oo 70 (.eU 62 [(oT 69)] [])::oo 71 (.bu 70 [(oT 68),(oT 70)])::oE 72 71 0::oE 73 71 1::oM 6 72::oM 7 73::[])
(oO 0::oO 1::oO 2::oO 3::oO 4::oO 5::oO 7::oO 8::⟨6,[],[7]⟩::oO 9::oO 10::oO 11::oO 12::oO 13:: []))
.ret))))))))
theorem acR:cU Tryz.prog 1 39=some F39:=by kernel_rfl
def F40:cT where
 ntmps:=18
 nparams:=2
 results:= [(4,none)]
 code:=
(.seq
(.plain (oo 4 (.mv oN)::[]))
(.seq
(.seq
(.plain (oo 5 (.mv (oC 0))::[]))
(.block 0
(.loop
(.seq
(.seq
(.plain (oM 6 5::oM 7 0::oK 8 7::oB 9 .lss 6 8::[]))
(.cond (oT 9)
.skip
(.exit 0)))
(.seq
(.block 1
(.seq
(.plain (oM 12 0::oM 13 5::oI 14 1 12 13::oL 15 14::oM 16 1::oo 17 (.bu 24 [(oT 15),(oT 16)])::[]))
(.cond (oT 17)
(.seq
(.plain (oo 4 (.mv oY)::[]))
.ret)
.skip)))
(.plain (oM 10 5::oD 11 .add 10 1::oM 5 11::[])))))))
(.seq
(.plain (oo 4 (.mv oN)::[]))
.ret)))
theorem acS:cU Tryz.prog 0 40=some F40:=by kernel_rfl
def F41:cT where
 ntmps:=14
 nparams:=1
 results:= [(2,none)]
 code:=
(.seq
(.plain (oo 2 (.mv oP)::[]))
(.seq
(.block 0
(.loop
(.seq
(.seq
(.plain (oM 3 0::oK 4 3::oD 5 .gtr 4 1::[]))
(.cond (oT 5)
.skip
(.exit 0)))
(.block 1
(.plain (oM 6 0::oo 7 (.bu 72 [(oT 6)])::oM 0 7::[]))))))
(.seq
(.seq
(.plain (oM 8 0::oK 9 8::oD 10 .eql 9 0::[]))
(.cond (oT 10)
(.seq
(.plain (oo 2 (.mv oP)::[]))
.ret)
.skip))
(.seq
(.plain (oM 11 0::oo 12 (.kA 1 (oT 11) (oC 0))::oL 13 12::oM 2 13::[]))
.ret))))
theorem acT:cU Tryz.prog 0 41=some F41:=by kernel_rfl
def F42:cT where
 ntmps:=52
 nparams:=2
 results:= [(4,none)]
 code:=
(.seq
(.plain (oo 4 (.mv oZ)::[]))
(.seq
(.seq
(.plain (oM 7 0::oo 8 (.df (oT 7))::oF 9 1 8::oL 10 9::oK 11 10::oD 12 .eql 11 0::[]))
(.cond (oT 12)
(.seq
(.plain (oM 13 0::oo 14 (.df (oT 13))::oF 15 0 14::oL 16 15::oM 17 1::oo 18 (.bu 50 [(oT 16),(oT 17)])::oo 19 (.bu 73 [(oT 18)])::oM 4 19::[]))
.ret)
.skip))
(.seq
(.plain (oM 20 0::oM 21 1::oo 22 (.bu 74 [(oT 20),(oT 21)])::oM 5 22::[]))
(.seq
(.plain (oo 6 (.mv oZ)::[]))
(.seq
(.plain (oM 23 6::oM 24 0::oo 25 (.df (oT 24))::oF 26 1 25::oL 27 26::oM 28 5::oo 29 (.pI 1 (oT 27) none (some (oT 28)))::oo 30 (.app 1 8 (oT 23) (oT 29))::oM 6 30::[]))
(.seq
(.plain (oM 31 6::oM 32 0::oo 33 (.df (oT 32))::oF 34 1 33::oL 35 34::oM 36 5::oI 37 1 35 36::oL 38 37::oM 39 1::oo 40 (.bu 42 [(oT 38),(oT 39)])::oo 41 (.app 1 8 (oT 31) (oT 40))::oM 6 41::[]))
(.seq
(.plain (oM 42 6::oM 43 0::oo 44 (.df (oT 43))::oF 45 1 44::oL 46 45::oM 47 5::oD 48 .add 47 1::oo 49 (.pI 1 (oT 46) (some (oT 48)) none)::oo 50 (.app 1 8 (oT 42) (oT 49))::oo 51 (.bu 72 [(oT 50)])::oM 4 51::[]))
.ret)))))))
theorem a03:cU Tryz.prog 0 42=some F42:=by kernel_rfl
def F43:cT where
 ntmps:=77
 nparams:=3
 results:= [(6,(some (true,3))),(7,none)]
 code:=
(.seq
(.plain (oo 3 (.box 85 (oT 0))::oo 4 (.box 34 (oT 1))::oo 6 (.alloc 100 [(.v (.bool false)),(.sl [] .nil),(.sl [] .nil)])::oo 7 (.mv (oC 0))::[]))
(.seq
(.plain (oo 16 (.load true 2 (oT 3))::oo 17 (.load true 37 (oT 4))::oo 18 (.bu 64 [(oT 16),(oT 17)])::oM 15 18::oE 19 15 0::oE 20 15 1::oo 8 (.alloc 121 [(.v (.int .u8 0)),(.sl [] .nil),(.sl [] .nil)])::on (.store 3 (oT 8) (oT 19))::oM 9 20::[]))
(.seq
(.seq
(.plain (oM 21 9::oD 22 .neq 21 0::[]))
(.cond (oT 22)
(.seq
(.plain (oo 23 (.gf [(.v (.bool false)),(.sl [] .nil),(.sl [] .nil)] [])::oM 24 9::on (.store 3 (oT 6) (oT 23))::oM 7 24::[]))
.ret)
.skip))
(.seq
(.plain (oo 25 (.load true 3 (oT 8))::oo 26 (.bu 75 [(oT 25)])::oo 10 (.alloc 100 [(.v (.bool false)),(.sl [] .nil),(.sl [] .nil)])::on (.store 3 (oT 10) (oT 26))::[]))
(.seq
(.seq
(.plain (oF 27 0 10::oL 28 27::[]))
(.cond (oT 28)
(.seq
(.plain (oF 30 1 10::oL 31 30::oM 32 2::oo 33 (.bu 65 [(oT 31),(oT 32),(.func 31)])::oM 29 33::oE 34 29 0::oE 35 29 1::oM 11 34::oM 12 35::[]))
(.seq
(.seq
(.plain (oM 36 12::oo 37 (.un .not (oT 36))::[]))
(.cond (oT 37)
(.seq
(.plain (oo 38 (.gf [(.v (.bool false)),(.sl [] .nil),(.sl [] .nil)] [])::on (.store 3 (oT 6) (oT 38))::oo 7 (.mv (oC 9))::[]))
.ret)
.skip))
(.seq
(.plain (oF 39 1 10::oL 40 39::oM 41 11::oM 42 11::oD 43 .add 42 1::oo 44 (.bu 76 [(oT 40),(oT 41),(oT 43)])::oF 45 1 10::on (.store 1 (oT 45) (oT 44))::[]))
(.seq
(.plain (oo 46 (.load true 3 (oT 10))::on (.store 3 (oT 6) (oT 46))::oo 7 (.mv (oC 0))::[]))
.ret))))
.skip))
(.seq
(.plain (oo 47 (.load true 3 (oT 8))::oM 48 2::oo 49 (.bu 69 [(oT 47),(oT 48)])::oM 13 49::[]))
(.seq
(.draw (oo 51 (.load true 2 (oT 3))::oF 52 2 10::oL 53 52::oM 54 13::oI 55 37 53 54::oo 56 (.load true 37 (oT 55))::oM 57 2::oo 58 (.bu 43 [(oT 51),(oT 56),(oT 57)])::oM 50 58::oE 59 50 0::oE 60 50 1::oo 14 (.alloc 100 [(.v (.bool false)),(.sl [] .nil),(.sl [] .nil)])::on (.store 3 (oT 14) (oT 59))::oM 9 60::[])
(oO 0::oO 1::oO 2::oO 3::oO 4::oO 5::oO 6::⟨7,[11],[]⟩::oO 8::oO 9::oO 10::oO 11::oO 12::oO 13:: []))
(.seq
(.seq
(.plain (oM 61 9::oD 62 .neq 61 0::[]))
(.cond (oT 62)
(.seq
(.plain (oo 63 (.gf [(.v (.bool false)),(.sl [] .nil),(.sl [] .nil)] [])::oM 64 9::on (.store 3 (oT 6) (oT 63))::oM 7 64::[]))
.ret)
.skip))
(.seq
(.plain (oo 66 (.load true 2 (oT 3))::oF 67 2 10::oL 68 67::oM 69 13::oo 70 (.load true 3 (oT 14))::oo 71 (.bu 77 [(oT 66),(oT 68),(oT 69),(oT 70)])::oM 65 71::oE 72 65 0::oE 73 65 1::oF 74 2 10::on (.store 1 (oT 74) (oT 72))::oM 9 73::[]))
(.seq
(.plain (oo 75 (.load true 3 (oT 10))::oM 76 9::on (.store 3 (oT 6) (oT 75))::oM 7 76::[]))
.ret))))))))))
theorem acU:cU Tryz.prog 1 43=some F43:=by kernel_rfl
def F44:cT where
 ntmps:=20
 nparams:=2
 results:= [(4,(some (true,37))),(5,none)]
 code:=
(.seq
(.plain (oo 2 (.box 85 (oT 0))::oo 3 (.box 100 (oT 1))::oo 4 (.alloc 34 (List.replicate 32 (.v (.int .u8 0))++ [(.sl [] .nil),(.sl [] .nil)]++ [(.v (.int .i64 0)),(.v (.int .i64 0))]++ [(.sl [] .nil)]))::oo 5 (.mv (oC 0))::[]))
(.seq
(.seq
(.plain (oF 6 0 3::oL 7 6::[]))
(.cond (oT 7)
(.seq
(.plain (oo 8 (.load true 2 (oT 2))::oF 9 1 3::oL 10 9::oo 11 (.bu 36 [(oT 8),(oT 10)])::oE 12 11 0::oE 13 11 1::on (.store 37 (oT 4) (oT 12))::oM 5 13::[]))
.ret)
.skip))
(.seq
(.plain (oo 14 (.load true 2 (oT 2))::oF 15 2 3::oL 16 15::oo 17 (.bu 62 [(oT 14),(oT 16)])::oE 18 17 0::oE 19 17 1::on (.store 37 (oT 4) (oT 18))::oM 5 19::[]))
.ret)))
theorem acV:cU Tryz.prog 0 44=some F44:=by kernel_rfl
def F45:cT where
 ntmps:=165
 nparams:=2
 results:= [(4,none)]
 code:=
(.seq
(.plain (oo 4 (.mv oP)::[]))
(.seq
(.seq
(.plain (oM 14 0::oo 15 (.df (oT 14))::oF 16 1 15::oL 17 16::oK 18 17::oD 19 .eql 18 0::[]))
(.cond (oT 19)
(.seq
(.plain (oo 20 (.gf [(.sl [] .nil),(.sl [] .nil)] [])::oo 21 (.box 76 (oT 20))::oM 5 21::[]))
(.seq
(.seq
(.plain (oo 6 (.mv (oC 0))::[]))
(.block 0
(.loop
(.seq
(.seq
(.plain (oM 22 6::oM 23 0::oo 24 (.df (oT 23))::oF 25 0 24::oL 26 25::oK 27 26::oB 28 .lss 22 27::[]))
(.cond (oT 28)
.skip
(.exit 0)))
(.seq
(.block 1
(.seq
(.plain (oM 31 0::oo 32 (.df (oT 31))::oF 33 0 32::oL 34 33::oM 35 6::oI 36 1 34 35::oL 37 36::oM 38 1::oo 39 (.bu 24 [(oT 37),(oT 38)])::oo 40 (.un .not (oT 39))::[]))
(.cond (oT 40)
(.draw (oM 41 5::oM 42 5::oo 43 (.df (oT 42))::oF 44 0 43::oL 45 44::oM 46 0::oo 47 (.df (oT 46))::oF 48 0 47::oL 49 48::oM 50 6::oI 51 1 49 50::oL 52 51::oo 53 (.qw 1 [(oT 52)])::oo 54 (.nh 1 24 (oT 45) (oT 53))::oo 55 (.df (oT 41))::oF 56 0 55::on (.store 1 (oT 56) (oT 54))::[])
(oO 0::oO 1::oO 2::oO 3::oO 4::oO 5::oO 6::oO 7::oO 8::oO 9::oO 10::oO 11::oO 12::oO 13::oO 14::oO 15::oO 16:: []))
.skip)))
(.plain (oM 29 6::oD 30 .add 29 1::oM 6 30::[])))))))
(.seq
(.plain (oM 57 5::oM 4 57::[]))
.ret)))
.skip))
(.seq
(.plain (oM 58 0::oM 59 1::oo 60 (.bu 74 [(oT 58),(oT 59)])::oM 7 60::[]))
(.seq
(.plain (oo 61 (.qw 1 [])::oM 62 0::oo 63 (.df (oT 62))::oF 64 1 63::oL 65 64::oo 66 (.nh 1 8 (oT 61) (oT 65))::oM 8 66::[]))
(.seq
(.plain (oM 67 8::oM 68 7::oM 69 0::oo 70 (.df (oT 69))::oF 71 1 70::oL 72 71::oM 73 7::oI 74 1 72 73::oL 75 74::oM 76 1::oo 77 (.bu 45 [(oT 75),(oT 76)])::oI 78 1 67 68::on (.store 1 (oT 78) (oT 77))::[]))
(.seq
(.seq
(.draw (oM 79 8::oM 80 7::oI 81 1 79 80::oL 82 81::oo 83 (.df (oT 82))::oF 84 0 83::oL 85 84::oK 86 85::oM 87 8::oM 88 7::oI 89 1 87 88::oL 90 89::oo 91 (.df (oT 90))::oF 92 1 91::oL 93 92::oK 94 93::oB 95 .add 86 94::oD 96 .gtr 95 1::[])
(oO 0::oO 1::oO 2::oO 3::oO 4::oO 5::oO 6::oO 7::oO 8::oO 9::oO 10::oO 11::oO 12::oO 13::oO 14::oO 15::oO 16::oO 17:: []))
(.cond (oT 96)
(.seq
(.plain (oM 97 8::oo 98 (.gf [(.sl [] .nil),(.sl [] .nil)] [(1,1,(oT 97))])::oo 99 (.box 76 (oT 98))::oM 4 99::[]))
.ret)
.skip))
(.seq
(.plain (oM 100 7::oD 101 .sub 100 1::oM 9 101::[]))
(.seq
(.seq
(.plain (oM 102 7::oD 103 .eql 102 0::[]))
(.cond (oT 103)
(.plain (oo 9 (.mv (oC 0))::[]))
.skip))
(.seq
(.draw (oM 104 8::oM 105 9::oI 106 1 104 105::oL 107 106::oM 108 8::oM 109 9::oD 110 .add 109 1::oI 111 1 108 110::oL 112 111::oM 10 107::oM 11 112::[])
(oO 0::oO 1::oO 2::oO 3::oO 4::oO 5::oO 6::oO 7::oO 8::oO 9::oO 10:: []))
(.seq
(.plain (oo 12 (.mv oZ)::[]))
(.seq
(.seq
(.plain (oM 113 0::oo 114 (.df (oT 113))::oF 115 1 114::oL 116 115::oM 117 7::oI 118 1 116 117::oL 119 118::oo 120 (.df (oT 119))::oF 121 1 120::oL 122 121::oK 123 122::oD 124 .eql 123 0::[]))
(.cond (oT 124)
(.draw (oo 125 (.qw 1 [])::oM 126 10::oo 127 (.df (oT 126))::oF 128 0 127::oL 129 128::oo 130 (.nh 1 24 (oT 125) (oT 129))::oM 131 11::oo 132 (.df (oT 131))::oF 133 0 132::oL 134 133::oo 135 (.nh 1 24 (oT 130) (oT 134))::oo 136 (.bu 73 [(oT 135)])::oM 12 136::[])
(oO 1::oO 2::oO 3::oO 4::oO 6::oO 7::oO 8::oO 9::oO 0::⟨5,[],[9]⟩::oO 10::oO 11::oO 12:: []))
(.draw (oo 137 (.qw 1 [])::oM 138 10::oo 139 (.df (oT 138))::oF 140 1 139::oL 141 140::oo 142 (.nh 1 8 (oT 137) (oT 141))::oM 143 11::oo 144 (.df (oT 143))::oF 145 1 144::oL 146 145::oo 147 (.nh 1 8 (oT 142) (oT 146))::oo 148 (.bu 72 [(oT 147)])::oM 12 148::[])
(oO 1::oO 2::oO 3::oO 4::oO 6::oO 7::oO 8::oO 9::oO 0::⟨5,[],[9]⟩::oO 10::oO 11::oO 12:: []))))
(.seq
(.plain (oo 13 (.mv oZ)::[]))
(.seq
(.plain (oM 149 13::oM 150 8::oM 151 9::oo 152 (.gu 1 (oT 150) none (some (oT 151)) none)::oo 153 (.nh 1 8 (oT 149) (oT 152))::oM 13 153::[]))
(.seq
(.plain (oM 154 13::oM 155 12::oo 156 (.nh 1 8 (oT 154) (oT 155))::oM 13 156::[]))
(.seq
(.plain (oM 157 13::oM 158 8::oM 159 9::oD 160 .add 159 2::oo 161 (.gu 1 (oT 158) (some (oT 160)) none none)::oo 162 (.nh 1 8 (oT 157) (oT 161))::oo 163 (.gf [(.sl [] .nil),(.sl [] .nil)] [(1,1,(oT 162))])::oo 164 (.box 76 (oT 163))::oM 4 164::[]))
.ret)))))))))))))))
theorem a04:cU Tryz.prog 6 45=some F45:=by kernel_rfl
def F46:cT where
 ntmps:=40
 nparams:=1
 results:= [(2,none)]
 code:=
(.seq
(.plain (oo 2 (.mv oN)::[]))
(.seq
(.draw (oM 3 0::oo 4 (.df (oT 3))::oF 5 0 4::oL 6 5::oo 7 (.bu 78 [(oT 6)])::oM 8 7::og 8 true 9 (.mv (oT 0))::og 8 true 10 (.df (oT 9))::og 8 true 11 (.fa 1 (oT 10))::og 8 true 12 (.load false 1 (oT 11))::og 8 true 13 (.bu 78 [(oT 12)])::oo 14 (.pick (oT 8) (oT 13) oN)::oM 15 14::og 15 true 16 (.mv (oT 0))::og 15 true 17 (.df (oT 16))::og 15 true 18 (.fa 0 (oT 17))::og 15 true 19 (.load false 1 (oT 18))::og 15 true 20 (.df (oT 19))::og 15 true 21 (.fa 2 (oT 20))::og 15 true 22 (.load false 1 (oT 21))::og 15 true 23 (.kA 38 (oT 22) (oC 0))::og 15 true 24 (.fa 1 (oT 23))::og 15 true 25 (.fa 0 (oT 24))::og 15 true 26 (.load true 32 (oT 25))::og 15 true 27 (.mv (oT 0))::og 15 true 28 (.df (oT 27))::og 15 true 29 (.fa 1 (oT 28))::og 15 true 30 (.load false 1 (oT 29))::og 15 true 31 (.df (oT 30))::og 15 true 32 (.fa 2 (oT 31))::og 15 true 33 (.load false 1 (oT 32))::og 15 true 34 (.kA 38 (oT 33) (oC 0))::og 15 true 35 (.fa 1 (oT 34))::og 15 true 36 (.fa 0 (oT 35))::og 15 true 37 (.load true 32 (oT 36))::og 15 true 38 (.eqv false [(32,.int .u8)] (oT 26) (oT 37))::oo 39 (.pick (oT 15) (oT 38) oN)::oM 2 39::[])
(oO 0::oO 1::oO 2::oO 3::oO 4::oO 5::oO 6::oO 7::oO 8::oO 9::oO 10::oO 11::oO 12::oO 13::oO 14::oO 15::oO 16::oO 17::oO 18::oO 19::oO 20::oO 21::oO 22::oO 23::oO 24::oO 25::oO 26::oO 27::oO 28::oO 29::oO 30::oO 31::oO 32::oO 33::oO 34::oO 35::oO 36::oO 37:: []))
.ret))
theorem acW:cU Tryz.prog 0 46=some F46:=by kernel_rfl
def F47:cT where
 ntmps:=52
 nparams:=1
 results:= [(2,none),(3,none)]
 code:=
(.seq
(.plain (oo 2 (.mv oN)::oo 3 (.mv oN)::[]))
(.seq
(.draw (oM 8 0::oo 9 (.df (oT 8))::oF 10 0 9::oL 11 10::oo 12 (.bu 78 [(oT 11)])::oM 13 0::oo 14 (.df (oT 13))::oF 15 1 14::oL 16 15::oo 17 (.bu 78 [(oT 16)])::oM 4 12::oM 5 17::[])
(oO 0::oO 1::oO 2::oO 3::oO 5::oO 6::oO 7::oO 8::⟨4,[],[8]⟩::oO 9::oO 10::oO 11:: []))
(.seq
(.seq
(.plain (oM 18 4::oM 19 18::og 19 true 20 (.mv (oT 5))::oo 21 (.pick (oT 19) (oT 20) oN)::[]))
(.cond (oT 21)
(.seq
(.draw (oM 22 0::oo 23 (.df (oT 22))::oF 24 0 23::oL 25 24::oo 26 (.df (oT 25))::oF 27 2 26::oL 28 27::oo 29 (.kA 38 (oT 28) (oC 0))::oF 30 1 29::oF 31 35 30::oL 32 31::oM 33 0::oo 34 (.df (oT 33))::oF 35 1 34::oL 36 35::oo 37 (.df (oT 36))::oF 38 2 37::oL 39 38::oo 40 (.kA 38 (oT 39) (oC 0))::oF 41 1 40::oF 42 35 41::oL 43 42::oM 6 32::oM 7 43::[])
(oO 0::oO 1::oO 2::oO 3::oO 4::oO 5::oO 6::oO 7::oO 8::oO 9::oO 10::oO 11::oO 12::oO 13::oO 14::oO 15::oO 16::oO 17::oO 18::oO 19::oO 20::oO 21::oO 22::oO 23:: []))
(.seq
(.plain (oM 44 6::oM 45 7::oB 46 .geq 44 45::oM 47 7::oM 48 6::oB 49 .geq 47 48::oM 2 46::oM 3 49::[]))
.ret))
.skip))
(.seq
(.plain (oM 50 4::oM 51 5::oM 2 50::oM 3 51::[]))
.ret))))
theorem acX:cU Tryz.prog 0 47=some F47:=by kernel_rfl
def F48:cT where
 ntmps:=117
 nparams:=1
 results:= []
 code:=
(.block 0
(.seq
(.draw (oM 13 0::oo 14 (.df (oT 13))::oF 15 1 14::oL 16 15::oo 17 (.df (oT 16))::oF 18 2 17::oL 19 18::oK 20 19::oD 21 .eql 20 0::oM 22 21::og 22 false 23 (.mv (oT 0))::og 22 false 24 (.df (oT 23))::og 22 false 25 (.fa 0 (oT 24))::og 22 false 26 (.load false 1 (oT 25))::og 22 false 27 (.df (oT 26))::og 22 false 28 (.fa 2 (oT 27))::og 22 false 29 (.load false 1 (oT 28))::og 22 false 30 (.len (oT 29))::og 22 false 31 (.bin .gtr (oT 30) (oC 0))::og 22 false 32 (.mv (oT 31))::og 32 true 33 (.mv (oT 0))::og 32 true 34 (.df (oT 33))::og 32 true 35 (.fa 0 (oT 34))::og 32 true 36 (.load false 1 (oT 35))::og 32 true 37 (.df (oT 36))::og 32 true 38 (.fa 2 (oT 37))::og 32 true 39 (.load false 1 (oT 38))::og 32 true 40 (.kA 38 (oT 39) (oC 0))::og 32 true 41 (.fa 0 (oT 40))::og 32 true 42 (.load false 1 (oT 41))::og 32 true 43 (.mv (oT 0))::og 32 true 44 (.df (oT 43))::og 32 true 45 (.fa 1 (oT 44))::og 32 true 46 (.load false 1 (oT 45))::og 32 true 47 (.df (oT 46))::og 32 true 48 (.fa 2 (oT 47))::og 32 true 49 (.load false 1 (oT 48))::og 32 true 50 (.kA 38 (oT 49) (oC 0))::og 32 true 51 (.fa 0 (oT 50))::og 32 true 52 (.load false 1 (oT 51))::og 32 true 53 (.bu 58 [(oT 42),(oT 52)])::og 22 false 54 (.pick (oT 32) (oT 53) oN)::oo 55 (.pick (oT 22) oY (oT 54))::oM 12 55::[])
(oO 0::oO 1::oO 2::oO 3::oO 4::oO 5::oO 6::oO 7::oO 8::oO 9::oO 10::oO 11::oO 12::oO 13::oO 14::oO 15::oO 16::oO 17::oO 18::oO 19::oO 20::oO 21::oO 22::oO 23::oO 24::oO 25::oO 26::oO 27::oO 28::oO 29::oO 30::oO 31::oO 32::oO 33::oO 34::oO 35::oO 36::oO 37::oO 38::oO 39::oO 40::oO 41::oO 42::oO 43:: []))
(.cond (oT 12)
(.draw (oM 56 0::oM 57 0::oo 58 (.df (oT 57))::oF 59 2 58::oL 60 59::oM 61 0::oo 62 (.df (oT 61))::oF 63 0 62::oL 64 63::oo 65 (.bu 79 [(oT 64)])::oo 66 (.gL 1 [(oT 65)])::oo 67 (.app 1 24 (oT 60) (oT 66))::oo 68 (.df (oT 56))::oF 69 2 68::on (.store 1 (oT 69) (oT 67))::[])
(oO 0::oO 1::oO 2::oO 3::oO 4::oO 5::oO 6::oO 7::oO 8::⟨9,[],[4]⟩::oO 10::oO 11::oO 12::oO 13::oO 14:: []))
(.seq
(.draw (oM 71 0::oo 72 (.df (oT 71))::oF 73 0 72::oL 74 73::oo 75 (.df (oT 74))::oF 76 2 75::oL 77 76::oK 78 77::oD 79 .eql 78 0::oM 80 79::og 80 false 81 (.mv (oT 0))::og 80 false 82 (.df (oT 81))::og 80 false 83 (.fa 1 (oT 82))::og 80 false 84 (.load false 1 (oT 83))::og 80 false 85 (.df (oT 84))::og 80 false 86 (.fa 2 (oT 85))::og 80 false 87 (.load false 1 (oT 86))::og 80 false 88 (.kA 38 (oT 87) (oC 0))::og 80 false 89 (.fa 0 (oT 88))::og 80 false 90 (.load false 1 (oT 89))::og 80 false 91 (.mv (oT 0))::og 80 false 92 (.df (oT 91))::og 80 false 93 (.fa 0 (oT 92))::og 80 false 94 (.load false 1 (oT 93))::og 80 false 95 (.df (oT 94))::og 80 false 96 (.fa 2 (oT 95))::og 80 false 97 (.load false 1 (oT 96))::og 80 false 98 (.kA 38 (oT 97) (oC 0))::og 80 false 99 (.fa 0 (oT 98))::og 80 false 100 (.load false 1 (oT 99))::og 80 false 101 (.bu 58 [(oT 90),(oT 100)])::oo 102 (.pick (oT 80) oY (oT 101))::oM 70 102::[])
(oO 0::oO 1::oO 2::oO 3::oO 4::oO 5::oO 6::oO 7::oO 8::oO 9::oO 10::oO 11::oO 12::oO 13::oO 14::oO 15::oO 16::oO 17::oO 18::oO 19::oO 20::oO 21::oO 22::oO 23::oO 24::oO 25::oO 26::oO 27::oO 28::oO 29::oO 30::oO 31::oO 32:: []))
(.cond (oT 70)
(.draw (oM 103 0::oM 104 0::oo 105 (.df (oT 104))::oF 106 3 105::oL 107 106::oM 108 0::oo 109 (.df (oT 108))::oF 110 1 109::oL 111 110::oo 112 (.bu 79 [(oT 111)])::oo 113 (.gL 1 [(oT 112)])::oo 114 (.app 1 24 (oT 107) (oT 113))::oo 115 (.df (oT 103))::oF 116 3 115::on (.store 1 (oT 116) (oT 114))::[])
(oO 0::oO 1::oO 2::oO 3::oO 4::oO 5::oO 6::oO 7::oO 8::⟨9,[],[4]⟩::oO 10::oO 11::oO 12::oO 13::oO 14:: []))
(.seq
(.plain (oM 2 0::oo 3 (.df (oT 2))::oF 4 0 3::oL 5 4::oo 6 (.bu 79 [(oT 5)])::[]))
(.plain (oM 7 0::oo 8 (.df (oT 7))::oF 9 1 8::oL 10 9::oo 11 (.bu 79 [(oT 10)])::[]))))))))
theorem acY:cU Tryz.prog 0 48=some F48:=by kernel_rfl
def F49:cT where
 ntmps:=73
 nparams:=1
 results:= [(2,none)]
 code:=
(.seq
(.plain (oo 2 (.mv (oC 0))::[]))
(.seq
(.draw (oM 11 0::oo 12 (.df (oT 11))::oF 13 0 12::oL 14 13::oM 15 0::oo 16 (.df (oT 15))::oF 17 2 16::oL 18 17::oo 19 (.kA 38 (oT 18) (oC 0))::oF 20 1 19::oo 21 (.load true 37 (oT 20))::oM 22 0::oo 23 (.df (oT 22))::oF 24 1 23::oL 25 24::oo 26 (.bu 80 [(oT 14),(oT 21),(oT 25)])::oM 10 26::oE 27 10 0::oE 28 10 1::oo 3 (.alloc 121 [(.v (.int .u8 0)),(.sl [] .nil),(.sl [] .nil)])::on (.store 3 (oT 3) (oT 27))::oM 4 28::[])
(oO 0::oO 1::oO 2::oO 3::oO 4::oO 5::oO 6::oO 7::oO 8::oO 9::oO 10::oO 11::oO 12::oO 13::oO 14::⟨15,[19],[]⟩::oO 16::oO 17::oO 18::oO 19::oO 20::oO 21:: []))
(.seq
(.seq
(.plain (oM 29 4::oD 30 .neq 29 0::oM 31 30::og 31 false 32 (.fa 0 (oT 3))::og 31 false 33 (.load false 1 (oT 32))::og 31 false 34 (.bin .eql (oT 33) (.const (.int .u8 1)))::oo 35 (.pick (oT 31) oY (oT 34))::[]))
(.cond (oT 35)
(.seq
(.plain (oo 2 (.mv (oC 21))::[]))
.ret)
.skip))
(.seq
(.plain (oo 5 (.mv oZ)::[]))
(.seq
(.seq
(.plain (oF 36 1 3::oL 37 36::oK 38 37::oo 39 (.mv (oC 0))::[]))
(.block 0
(.loop
(.seq
(.plain (oB 40 .lss 39 38::[]))
(.seq
(.cond (oT 40)
.skip
(.exit 0))
(.seq
(.block 1
(.seq
(.plain (oI 41 2 37 39::oo 42 (.load true 2 (oT 41))::oo 7 (.alloc 123 [(.sl [] .nil),(.v (.bool false))])::on (.store 2 (oT 7) (oT 42))::[]))
(.plain (oM 43 5::oF 44 0 7::oL 45 44::oo 46 (.gf ([(.sl [] .nil)]++List.replicate 32 (.v (.int .u8 0))++ [(.sl [] .nil),(.sl [] .nil)]++ [(.v (.int .i64 0)),(.v (.int .i64 0))]++ [(.sl [] .nil)]) [(0,1,(oT 45))])::oo 47 (.gL 38 [(oT 46)])::oo 48 (.app 38 144 (oT 43) (oT 47))::oM 5 48::[]))))
(.plain (oD 49 .add 39 1::oM 39 49::[]))))))))
(.seq
(.seq
(.plain (oF 50 2 3::oL 51 50::oK 52 51::oo 53 (.mv (oC 0))::[]))
(.block 2
(.loop
(.seq
(.plain (oB 54 .lss 53 52::[]))
(.seq
(.cond (oT 54)
.skip
(.exit 2))
(.seq
(.block 3
(.seq
(.plain (oI 55 37 51 53::oo 56 (.load true 37 (oT 55))::oo 9 (.alloc 34 (List.replicate 32 (.v (.int .u8 0))++ [(.sl [] .nil),(.sl [] .nil)]++ [(.v (.int .i64 0)),(.v (.int .i64 0))]++ [(.sl [] .nil)]))::on (.store 37 (oT 9) (oT 56))::[]))
(.plain (oM 57 5::oo 58 (.load true 37 (oT 9))::oo 59 (.gf ([(.sl [] .nil)]++List.replicate 32 (.v (.int .u8 0))++ [(.sl [] .nil),(.sl [] .nil)]++ [(.v (.int .i64 0)),(.v (.int .i64 0))]++ [(.sl [] .nil)]) [(1,37,(oT 58))])::oo 60 (.gL 38 [(oT 59)])::oo 61 (.app 38 144 (oT 57) (oT 60))::oM 5 61::[]))))
(.plain (oD 62 .add 53 1::oM 53 62::[]))))))))
(.seq
(.plain (oM 63 0::oM 64 5::oM 65 0::oo 66 (.df (oT 65))::oF 67 2 66::oL 68 67::oo 69 (.pI 38 (oT 68) (some (oC 1)) none)::oo 70 (.app 38 144 (oT 64) (oT 69))::oo 71 (.df (oT 63))::oF 72 2 71::on (.store 1 (oT 72) (oT 70))::[]))
(.seq
(.plain (oo 2 (.mv (oC 0))::[]))
.ret))))))))
theorem acZ:cU Tryz.prog 0 49=some F49:=by kernel_rfl
def F50:cT where
 ntmps:=37
 nparams:=2
 results:= [(4,none)]
 code:=
(.seq
(.plain (oo 4 (.mv oZ)::[]))
(.seq
(.plain (oo 5 (.mv oZ)::[]))
(.seq
(.plain (oo 6 (.mv (oC 0))::[]))
(.seq
(.block 0
(.loop
(.seq
(.seq
(.plain (oM 7 6::oM 8 0::oK 9 8::oB 10 .lss 7 9::oM 11 10::og 11 true 12 (.mv (oT 0))::og 11 true 13 (.mv (oT 6))::og 11 true 14 (.kA 1 (oT 12) (oT 13))::og 11 true 15 (.load false 1 (oT 14))::og 11 true 16 (.mv (oT 1))::og 11 true 17 (.bu 81 [(oT 15),(oT 16)])::oo 18 (.pick (oT 11) (oT 17) oN)::[]))
(.cond (oT 18)
.skip
(.exit 0)))
(.block 1
(.seq
(.plain (oM 19 5::oM 20 0::oM 21 6::oI 22 1 20 21::oL 23 22::oo 24 (.gL 1 [(oT 23)])::oo 25 (.app 1 24 (oT 19) (oT 24))::oM 5 25::[]))
(.plain (oM 26 6::oD 27 .add 26 1::oM 6 27::[])))))))
(.seq
(.plain (oM 28 5::oM 29 1::oo 30 (.gL 1 [(oT 29)])::oo 31 (.app 1 24 (oT 28) (oT 30))::oM 5 31::[]))
(.seq
(.plain (oM 32 5::oM 33 0::oM 34 6::oo 35 (.pI 1 (oT 33) (some (oT 34)) none)::oo 36 (.app 1 24 (oT 32) (oT 35))::oM 4 36::[]))
.ret))))))
theorem ad0:cU Tryz.prog 0 50=some F50:=by kernel_rfl
def F54:cT where
 ntmps:=9
 nparams:=2
 results:= [(4,none)]
 code:=
(.seq
(.plain (oo 4 (.mv oN)::[]))
(.seq
(.plain (oM 5 0::oM 6 1::oo 7 (.bu 84 [(oT 5),(oT 6)])::oD 8 .geq 7 0::oM 4 8::[]))
.ret))
theorem ad1:cU Tryz.prog 0 54=some F54:=by kernel_rfl
def F55:cT where
 ntmps:=8
 nparams:=1
 results:= [(3,none)]
 code:=
(.seq
(.plain (oo 3 (.mv oN)::[]))
(.seq
(.plain (oM 4 0::oK 5 4::oL 6 1::oB 7 .neq 5 6::oM 3 7::[]))
.ret))
theorem ad2:cU Tryz.prog 0 55=some F55:=by kernel_rfl
def F56:cT where
 ntmps:=148
 nparams:=5
 results:= []
 code:=
(.seq
(.plain (oo 10 (.mv oY)::[]))
(.seq
(.plain (oo 11 (.mv oY)::[]))
(.block 0
(.loop
(.block 1
(.seq
(.plain (oM 21 2::oM 22 1::oB 23 .sub 21 22::oM 12 23::[]))
(.seq
(.seq
(.plain (oM 24 12::oD 25 .leq 24 12::[]))
(.cond (oT 25)
(.seq
(.plain (oM 26 0::oM 27 1::oM 28 2::oM 29 4::oo 30 (.bu 85 [(oT 26),(oT 27),(oT 28),(oT 29)])::[]))
.ret)
.skip))
(.seq
(.seq
(.plain (oM 31 3::oD 32 .eql 31 0::[]))
(.cond (oT 32)
(.seq
(.plain (oM 33 0::oM 34 1::oM 35 2::oM 36 4::oo 37 (.bu 86 [(oT 33),(oT 34),(oT 35),(oT 36)])::[]))
.ret)
.skip))
(.seq
(.seq
(.plain (oM 38 10::oo 39 (.un .not (oT 38))::[]))
(.cond (oT 39)
(.seq
(.plain (oM 40 0::oM 41 1::oM 42 2::oM 43 4::oo 44 (.bu 87 [(oT 40),(oT 41),(oT 42),(oT 43)])::[]))
(.plain (oM 45 3::oD 46 .sub 45 1::oM 3 46::[])))
.skip))
(.seq
(.plain (oM 48 0::oM 49 1::oM 50 2::oM 51 4::oo 52 (.bu 88 [(oT 48),(oT 49),(oT 50),(oT 51)])::oM 47 52::oE 53 47 0::oE 54 47 1::oM 13 53::oM 14 54::[]))
(.seq
(.seq
(.plain (oM 55 14::oD 56 .eql 55 2::[]))
(.cond (oT 56)
(.seq
(.plain (oM 57 0::oM 58 1::oM 59 2::oM 60 4::oo 61 (.bu 89 [(oT 57),(oT 58),(oT 59),(oT 60)])::[]))
(.seq
(.plain (oM 62 2::oD 63 .sub 62 1::oM 64 13::oM 65 1::oB 66 .sub 64 65::oB 67 .sub 63 66::oM 13 67::[]))
(.plain (oo 14 (.mv (oC 1))::[]))))
.skip))
(.seq
(.seq
(.plain (oM 68 10::oM 69 68::og 69 true 70 (.mv (oT 11))::oo 71 (.pick (oT 69) (oT 70) oN)::oM 72 71::og 72 true 73 (.mv (oT 14))::og 72 true 74 (.bin .eql (oT 73) (oC 1))::oo 75 (.pick (oT 72) (oT 74) oN)::[]))
(.cond (oT 75)
(.seq
(.plain (oM 76 0::oM 77 1::oM 78 2::oM 79 4::oo 80 (.bu 90 [(oT 76),(oT 77),(oT 78),(oT 79)])::[]))
(.cond (oT 80)
.ret
.skip))
.skip))
(.seq
(.seq
(.draw (oM 81 1::oD 82 .gtr 81 0::oM 83 82::og 83 true 84 (.mv (oT 4))::og 83 true 85 (.mv (oT 0))::og 83 true 86 (.mv (oT 1))::og 83 true 87 (.bin .sub (oT 86) (oC 1))::og 83 true 88 (.kA 1 (oT 85) (oT 87))::og 83 true 89 (.load false 1 (oT 88))::og 83 true 90 (.mv (oT 0))::og 83 true 91 (.mv (oT 13))::og 83 true 92 (.kA 1 (oT 90) (oT 91))::og 83 true 93 (.load false 1 (oT 92))::og 83 true 94 (.rn (oT 84) [(oT 89),(oT 93)])::og 83 true 95 (.bin .lss (oT 94) (oC 0))::og 83 true 96 (.un .not (oT 95))::oo 97 (.pick (oT 83) (oT 96) oN)::[])
(oO 0::oO 1::oO 2::oO 3::oO 4::oO 5::oO 6::oO 7::oO 8::oO 9::oO 10::oO 11::oO 12::oO 13::oO 14::oO 15::oO 16:: []))
(.cond (oT 97)
(.seq
(.plain (oM 98 0::oM 99 1::oM 100 2::oM 101 13::oM 102 4::oo 103 (.bu 91 [(oT 98),(oT 99),(oT 100),(oT 101),(oT 102)])::oM 15 103::[]))
(.seq
(.plain (oM 104 15::oM 1 104::[]))
(.exit 1)))
.skip))
(.seq
(.plain (oM 106 0::oM 107 1::oM 108 2::oM 109 13::oM 110 4::oo 111 (.bu 92 [(oT 106),(oT 107),(oT 108),(oT 109),(oT 110)])::oM 105 111::oE 112 105 0::oE 113 105 1::oM 16 112::oM 17 113::[]))
(.seq
(.plain (oM 114 17::oM 11 114::[]))
(.seq
(.plain (oM 115 16::oM 116 1::oB 117 .sub 115 116::oM 118 2::oM 119 16::oB 120 .sub 118 119::oM 18 117::oM 19 120::[]))
(.seq
(.plain (oM 121 12::oD 122 .quo 121 8::oM 20 122::[]))
(.seq
(.plain (oM 123 18::oM 124 19::oB 125 .lss 123 124::[]))
(.cond (oT 125)
(.seq
(.plain (oM 126 18::oM 127 20::oB 128 .geq 126 127::oM 10 128::[]))
(.seq
(.plain (oM 129 0::oM 130 1::oM 131 16::oM 132 3::oM 133 4::oo 134 (.bu 56 [(oT 129),(oT 130),(oT 131),(oT 132),(oT 133)])::[]))
(.plain (oM 135 16::oD 136 .add 135 1::oM 1 136::[]))))
(.seq
(.plain (oM 137 19::oM 138 20::oB 139 .geq 137 138::oM 10 139::[]))
(.seq
(.plain (oM 140 0::oM 141 16::oD 142 .add 141 1::oM 143 2::oM 144 3::oM 145 4::oo 146 (.bu 56 [(oT 140),(oT 142),(oT 143),(oT 144),(oT 145)])::[]))
(.plain (oM 147 16::oM 2 147::[])))))))))))))))))))))))
theorem ad3:cU Tryz.prog 0 56=some F56:=by kernel_rfl
def F57:cT where
 ntmps:=8
 nparams:=1
 results:= [(2,none)]
 code:=
(.seq
(.plain (oo 2 (.mv (oC 0))::[]))
(.seq
(.cond oN
(.seq
(.plain (oM 3 0::oo 4 (.jF .u32 (oT 3))::oo 5 (.bu 93 [(oT 4)])::oM 2 5::[]))
.ret)
.skip)
(.seq
(.plain (oM 6 0::oo 7 (.bu 94 [(oT 6)])::oM 2 7::[]))
.ret)))
theorem ad4:cU Tryz.prog 0 57=some F57:=by kernel_rfl
def F58:cT where
 ntmps:=58
 nparams:=2
 results:= [(4,none)]
 code:=
(.seq
(.plain (oo 4 (.mv oN)::[]))
(.seq
(.seq
(.plain (oM 9 0::oK 10 9::oo 11 (.bu 95 [(oT 10)])::oo 12 (.un .not (oT 11))::oM 13 12::og 13 false 14 (.mv (oT 1))::og 13 false 15 (.len (oT 14))::og 13 false 16 (.mv (oT 0))::og 13 false 17 (.len (oT 16))::og 13 false 18 (.bin .neq (oT 15) (oT 17))::oo 19 (.pick (oT 13) oY (oT 18))::[]))
(.cond (oT 19)
(.seq
(.plain (oo 4 (.mv oN)::[]))
.ret)
.skip))
(.seq
(.plain (oo 5 (.mv (oC 0))::oo 6 (.mv (.const (.int .u64 0)))::[]))
(.seq
(.seq
(.plain (oM 20 0::oK 21 20::oo 22 (.mv (oC 0))::[]))
(.block 0
(.loop
(.seq
(.plain (oB 23 .lss 22 21::[]))
(.seq
(.cond (oT 23)
.skip
(.exit 0))
(.seq
(.block 1
(.seq
(.plain (oM 24 22::oM 7 24::[]))
(.seq
(.draw (oM 25 0::oM 26 7::oI 27 1 25 26::oL 28 27::oo 29 (.bu 96 [(oT 28)])::oM 30 1::oM 31 7::oI 32 1 30 31::oL 33 32::oo 34 (.bu 96 [(oT 33)])::oB 35 .xor 29 34::oM 8 35::[])
(oO 0::oO 1::oO 2::oO 3::oO 5::oO 6::oO 7::oO 8::⟨4,[],[8]⟩::oO 9::oO 10::oO 11:: []))
(.seq
(.plain (oM 36 6::oM 37 8::oB 38 .lss 36 37::oM 39 38::og 39 true 40 (.mv (oT 6))::og 39 true 41 (.mv (oT 6))::og 39 true 42 (.mv (oT 8))::og 39 true 43 (.bin .xor (oT 41) (oT 42))::og 39 true 44 (.bin .lss (oT 40) (oT 43))::oo 45 (.pick (oT 39) (oT 44) oN)::[]))
(.cond (oT 45)
(.plain (oM 46 7::oM 47 8::oM 5 46::oM 6 47::[]))
.skip)))))
(.plain (oD 48 .add 22 1::oM 22 48::[]))))))))
(.seq
(.draw (oM 49 0::oM 50 5::oI 51 1 49 50::oL 52 51::oM 53 1::oM 54 5::oI 55 1 53 54::oL 56 55::oB 57 .lss 52 56::oM 4 57::[])
(oO 0::oO 1::oO 2::oO 3::oO 4::oO 5::oO 6::oO 7::oO 8::oO 9:: []))
.ret)))))
theorem ad5:cU Tryz.prog 0 58=some F58:=by kernel_rfl
def F59:cT where
 ntmps:=32
 nparams:=3
 results:= [(6,(some (true,37))),(7,none)]
 code:=
(.seq
(.plain (oo 4 (.box 121 (oT 1))::oo 6 (.alloc 34 (List.replicate 32 (.v (.int .u8 0))++ [(.sl [] .nil),(.sl [] .nil)]++ [(.v (.int .i64 0)),(.v (.int .i64 0))]++ [(.sl [] .nil)]))::oo 7 (.mv (oC 0))::[]))
(.seq
(.plain (oo 13 (.load true 3 (oT 4))::oM 14 2::oo 15 (.bu 97 [(oT 13),(oT 14)])::oM 12 15::oE 16 12 0::oE 17 12 1::oo 8 (.alloc 34 (List.replicate 32 (.v (.int .u8 0))++ [(.sl [] .nil),(.sl [] .nil)]++ [(.v (.int .i64 0)),(.v (.int .i64 0))]++ [(.sl [] .nil)]))::on (.store 37 (oT 8) (oT 16))::oM 9 17::[]))
(.seq
(.seq
(.plain (oM 18 9::oD 19 .neq 18 0::[]))
(.cond (oT 19)
(.seq
(.plain (oo 20 (.gf (List.replicate 32 (.v (.int .u8 0))++ [(.sl [] .nil),(.sl [] .nil)]++ [(.v (.int .i64 0)),(.v (.int .i64 0))]++ [(.sl [] .nil)]) [])::oM 21 9::on (.store 37 (oT 6) (oT 20))::oM 7 21::[]))
.ret)
.skip))
(.seq
(.plain (oo 23 (.load true 3 (oT 4))::oM 24 2::oo 25 (.bu 98 [(oT 23),(oT 24)])::oM 22 25::oE 26 22 0::oE 27 22 1::oM 10 26::oM 11 27::[]))
(.seq
(.plain (oM 28 0::oM 29 10::oo 30 (.bu 99 [(oT 28),(oT 29)])::[]))
(.seq
(.plain (oo 31 (.load true 37 (oT 8))::on (.store 37 (oT 6) (oT 31))::oo 7 (.mv (oC 0))::[]))
.ret))))))
theorem ad6:cU Tryz.prog 0 59=some F59:=by kernel_rfl
def F60:cT where
 ntmps:=32
 nparams:=2
 results:= [(4,none),(5,none)]
 code:=
(.seq
(.plain (oo 4 (.mv oZ)::oo 5 (.mv (oC 0))::[]))
(.seq
(.plain (oo 6 (.mv oZ)::[]))
(.seq
(.seq
(.plain (oM 11 0::oK 12 11::oo 13 (.mv (oC 0))::[]))
(.block 0
(.loop
(.seq
(.plain (oB 14 .lss 13 12::[]))
(.seq
(.cond (oT 14)
.skip
(.exit 0))
(.seq
(.block 1
(.seq
(.plain (oI 15 1 11 13::oL 16 15::oM 8 16::[]))
(.seq
(.plain (oM 18 1::oM 19 8::oo 20 (.rn (oT 18) [(oT 19)])::oM 17 20::oE 21 17 0::oE 22 17 1::oo 9 (.alloc 34 (List.replicate 32 (.v (.int .u8 0))++ [(.sl [] .nil),(.sl [] .nil)]++ [(.v (.int .i64 0)),(.v (.int .i64 0))]++ [(.sl [] .nil)]))::on (.store 37 (oT 9) (oT 21))::oM 10 22::[]))
(.seq
(.seq
(.plain (oM 23 10::oD 24 .neq 23 0::[]))
(.cond (oT 24)
(.seq
(.plain (oM 25 10::oo 4 (.mv oZ)::oM 5 25::[]))
.ret)
.skip))
(.plain (oM 26 6::oo 27 (.load true 37 (oT 9))::oo 28 (.qw 37 [(oT 27)])::oo 29 (.nh 37 120 (oT 26) (oT 28))::oM 6 29::[]))))))
(.plain (oD 30 .add 13 1::oM 13 30::[]))))))))
(.seq
(.plain (oM 31 6::oM 4 31::oo 5 (.mv (oC 0))::[]))
.ret))))
theorem ad7:cU Tryz.prog 1 60=some F60:=by kernel_rfl
def F61:cT where
 ntmps:=39
 nparams:=2
 results:= [(4,none)]
 code:=
(.seq
(.plain (oo 4 (.mv oZ)::[]))
(.seq
(.plain (oo 5 (.mv oZ)::[]))
(.seq
(.seq
(.plain (oM 8 1::oo 9 (.mv (oC 0))::[]))
(.block 0
(.loop
(.seq
(.plain (oB 10 .lss 9 8::[]))
(.seq
(.cond (oT 10)
.skip
(.exit 0))
(.seq
(.block 1
(.seq
(.plain (oM 11 9::oM 6 11::[]))
(.seq
(.plain (oM 12 0::oK 13 12::oM 14 1::oM 15 6::oB 16 .sub 14 15::oB 17 .quo 13 16::oM 7 17::[]))
(.seq
(.seq
(.plain (oM 18 0::oK 19 18::oM 20 1::oM 21 6::oB 22 .sub 20 21::oB 23 .rem 19 22::oD 24 .gtr 23 0::[]))
(.cond (oT 24)
(.plain (oM 25 7::oD 26 .add 25 1::oM 7 26::[]))
.skip))
(.seq
(.plain (oM 27 5::oM 28 0::oM 29 7::oo 30 (.pI 37 (oT 28) none (some (oT 29)))::oo 31 (.bu 100 [(oT 30)])::oo 32 (.gL 1 [(oT 31)])::oo 33 (.app 1 24 (oT 27) (oT 32))::oM 5 33::[]))
(.plain (oM 34 0::oM 35 7::oo 36 (.pI 37 (oT 34) (some (oT 35)) none)::oM 0 36::[])))))))
(.plain (oD 37 .add 9 1::oM 9 37::[]))))))))
(.seq
(.plain (oM 38 5::oM 4 38::[]))
.ret))))
theorem ad8:cU Tryz.prog 0 61=some F61:=by kernel_rfl
def F62:cT where
 ntmps:=15
 nparams:=2
 results:= [(4,(some (true,37))),(5,none)]
 code:=
(.seq
(.plain (oo 2 (.box 85 (oT 0))::oo 4 (.alloc 34 (List.replicate 32 (.v (.int .u8 0))++ [(.sl [] .nil),(.sl [] .nil)]++ [(.v (.int .i64 0)),(.v (.int .i64 0))]++ [(.sl [] .nil)]))::oo 5 (.mv (oC 0))::[]))
(.seq
(.plain (oF 6 0 2::oL 7 6::oM 8 1::oo 9 (.gf [(.v (.int .u8 0)),(.sl [] .nil),(.sl [] .nil)] [(0,1,(.const (.int .u8 3))),(2,1,(oT 8))])::oF 10 1 2::oL 11 10::oo 12 (.bu 59 [(oT 7),(oT 9),(oT 11)])::oE 13 12 0::oE 14 12 1::on (.store 37 (oT 4) (oT 13))::oM 5 14::[]))
.ret))
theorem ad9:cU Tryz.prog 0 62=some F62:=by kernel_rfl
def F63:cT where
 ntmps:=38
 nparams:=2
 results:= [(4,none)]
 code:=
(.seq
(.plain (oo 2 (.box 34 (oT 0))::oo 3 (.box 34 (oT 1))::oo 4 (.mv oN)::[]))
(.seq
(.plain (oF 5 0 2::oo 6 (.load true 32 (oT 5))::oF 7 0 3::oo 8 (.load true 32 (oT 7))::oo 9 (.eqv false [(32,.int .u8)] (oT 6) (oT 8))::oM 10 9::og 10 true 11 (.fa 34 (oT 2))::og 10 true 12 (.load false 1 (oT 11))::og 10 true 13 (.fa 34 (oT 3))::og 10 true 14 (.load false 1 (oT 13))::og 10 true 15 (.bin .eql (oT 12) (oT 14))::oo 16 (.pick (oT 10) (oT 15) oN)::oM 17 16::og 17 true 18 (.fa 35 (oT 2))::og 17 true 19 (.load false 1 (oT 18))::og 17 true 20 (.fa 35 (oT 3))::og 17 true 21 (.load false 1 (oT 20))::og 17 true 22 (.bin .eql (oT 19) (oT 21))::oo 23 (.pick (oT 17) (oT 22) oN)::oM 24 23::og 24 true 25 (.fa 32 (oT 2))::og 24 true 26 (.load true 2 (oT 25))::og 24 true 27 (.fa 32 (oT 3))::og 24 true 28 (.load true 2 (oT 27))::og 24 true 29 (.bu 101 [(oT 26),(oT 28)])::oo 30 (.pick (oT 24) (oT 29) oN)::oM 31 30::og 31 true 32 (.fa 36 (oT 2))::og 31 true 33 (.load false 1 (oT 32))::og 31 true 34 (.fa 36 (oT 3))::og 31 true 35 (.load false 1 (oT 34))::og 31 true 36 (.bu 32 [(oT 33),(oT 35)])::oo 37 (.pick (oT 31) (oT 36) oN)::oM 4 37::[]))
.ret))
theorem ada:cU Tryz.prog 0 63=some F63:=by kernel_rfl
def F64:cT where
 ntmps:=31
 nparams:=2
 results:= [(4,(some (true,3))),(5,none)]
 code:=
(.seq
(.plain (oo 2 (.box 85 (oT 0))::oo 3 (.box 34 (oT 1))::oo 4 (.alloc 121 [(.v (.int .u8 0)),(.sl [] .nil),(.sl [] .nil)])::oo 5 (.mv (oC 0))::[]))
(.seq
(.plain (oF 9 0 2::oL 10 9::oo 11 (.load true 37 (oT 3))::oF 12 1 2::oL 13 12::oo 14 (.bu 80 [(oT 10),(oT 11),(oT 13)])::oM 8 14::oE 15 8 0::oE 16 8 1::oo 6 (.alloc 121 [(.v (.int .u8 0)),(.sl [] .nil),(.sl [] .nil)])::on (.store 3 (oT 6) (oT 15))::oM 7 16::[]))
(.seq
(.seq
(.plain (oM 17 7::oD 18 .neq 17 0::oM 19 18::og 19 false 20 (.fa 0 (oT 6))::og 19 false 21 (.load false 1 (oT 20))::og 19 false 22 (.bin .neq (oT 21) (.const (.int .u8 2)))::og 19 false 23 (.mv (oT 22))::og 23 true 24 (.fa 0 (oT 6))::og 23 true 25 (.load false 1 (oT 24))::og 23 true 26 (.bin .neq (oT 25) (.const (.int .u8 3)))::og 19 false 27 (.pick (oT 23) (oT 26) oN)::oo 28 (.pick (oT 19) oY (oT 27))::[]))
(.cond (oT 28)
(.seq
(.plain (oo 29 (.gf [(.v (.int .u8 0)),(.sl [] .nil),(.sl [] .nil)] [])::on (.store 3 (oT 4) (oT 29))::oo 5 (.mv (oC 21))::[]))
.ret)
.skip))
(.seq
(.plain (oo 30 (.load true 3 (oT 6))::on (.store 3 (oT 4) (oT 30))::oo 5 (.mv (oC 0))::[]))
.ret))))
theorem adb:cU Tryz.prog 0 64=some F64:=by kernel_rfl
def F65:cT where
 ntmps:=49
 nparams:=3
 results:= [(6,none),(7,none)]
 code:=
(.seq
(.plain (oo 6 (.mv (oC 0))::oo 7 (.mv oN)::[]))
(.seq
(.plain (oM 12 0::oK 13 12::oM 8 13::[]))
(.seq
(.plain (oM 14 8::oo 9 (.mv (oC 0))::oM 10 14::[]))
(.seq
(.block 0
(.loop
(.seq
(.seq
(.plain (oM 15 9::oM 16 10::oB 17 .lss 15 16::[]))
(.cond (oT 17)
.skip
(.exit 0)))
(.block 1
(.seq
(.plain (oM 18 9::oM 19 10::oB 20 .add 18 19::oo 21 (.jF .u64 (oT 20))::oo 22 (.bin .shr (oT 21) (.const (.int .u64 1)))::oo 23 (.jF .i64 (oT 22))::oM 11 23::[]))
(.seq
(.plain (oM 24 2::oM 25 0::oM 26 11::oI 27 1 25 26::oL 28 27::oM 29 1::oo 30 (.rn (oT 24) [(oT 28),(oT 29)])::oD 31 .lss 30 0::[]))
(.cond (oT 31)
(.plain (oM 32 11::oD 33 .add 32 1::oM 9 33::[]))
(.plain (oM 34 11::oM 10 34::[])))))))))
(.seq
(.plain (oM 35 9::oM 36 9::oM 37 8::oB 38 .lss 36 37::oM 39 38::og 39 true 40 (.mv (oT 2))::og 39 true 41 (.mv (oT 0))::og 39 true 42 (.mv (oT 9))::og 39 true 43 (.kA 1 (oT 41) (oT 42))::og 39 true 44 (.load false 1 (oT 43))::og 39 true 45 (.mv (oT 1))::og 39 true 46 (.rn (oT 40) [(oT 44),(oT 45)])::og 39 true 47 (.bin .eql (oT 46) (oC 0))::oo 48 (.pick (oT 39) (oT 47) oN)::oM 6 35::oM 7 48::[]))
.ret)))))
theorem ade:cU Tryz.prog 0 65=some F65:=by kernel_rfl
def F66:cT where
 ntmps:=20
 nparams:=1
 results:= [(2,none)]
 code:=
(.seq
(.plain (oo 1 (.box 121 (oT 0))::oo 2 (.mv oZ)::[]))
(.seq
(.plain (oo 3 (.mv oZ)::[]))
(.seq
(.seq
(.plain (oF 6 1 1::oL 7 6::oK 8 7::oo 9 (.mv (oC 0))::[]))
(.block 0
(.loop
(.seq
(.plain (oB 10 .lss 9 8::[]))
(.seq
(.cond (oT 10)
.skip
(.exit 0))
(.seq
(.block 1
(.seq
(.plain (oI 11 2 7 9::oo 12 (.load true 2 (oT 11))::oo 5 (.alloc 123 [(.sl [] .nil),(.v (.bool false))])::on (.store 2 (oT 5) (oT 12))::[]))
(.plain (oM 13 3::oF 14 0 5::oL 15 14::oo 16 (.qw 1 [(oT 15)])::oo 17 (.nh 1 24 (oT 13) (oT 16))::oM 3 17::[]))))
(.plain (oD 18 .add 9 1::oM 9 18::[]))))))))
(.seq
(.plain (oM 19 3::oM 2 19::[]))
.ret))))
theorem adf:cU Tryz.prog 1 66=some F66:=by kernel_rfl
def F67:cT where
 ntmps:=15
 nparams:=2
 results:= [(4,none),(5,none)]
 code:=
(.seq
(.plain (oo 4 (.mv oZ)::oo 5 (.mv (oC 0))::[]))
(.seq
(.plain (oM 6 0::oM 7 0::oK 8 7::oo 9 (.bu 35 [(oT 8)])::oo 10 (.bu 34 [(oT 6),(oT 9)])::oM 11 1::oo 12 (.bu 33 [(oT 10),(oT 11)])::oE 13 12 0::oE 14 12 1::oM 4 13::oM 5 14::[]))
.ret))
theorem adg:cU Tryz.prog 0 67=some F67:=by kernel_rfl
def F68:cT where
 ntmps:=95
 nparams:=3
 results:= [(6,none)]
 code:=
(.seq
(.plain (oo 6 (.mv oZ)::[]))
(.seq
(.plain (oM 10 0::oM 11 1::oo 12 (.gu 1 (oT 10) (some (oT 11)) none none)::[]))
(.seq
(.plain (oM 13 2::oK 14 13::oM 7 14::[]))
(.seq
(.seq
(.plain (oM 15 7::oD 16 .eql 15 0::[]))
(.cond (oT 16)
(.seq
(.plain (oM 17 0::oM 6 17::[]))
.ret)
.skip))
(.seq
(.plain (oM 18 0::oK 19 18::oM 8 19::[]))
(.seq
(.seq
(.plain (oM 20 1::oM 21 8::oB 22 .eql 20 21::[]))
(.cond (oT 22)
(.seq
(.plain (oM 23 0::oM 24 2::oo 25 (.nh 1 24 (oT 23) (oT 24))::oM 6 25::[]))
.ret)
.skip))
(.seq
(.seq
(.plain (oM 26 8::oM 27 7::oB 28 .add 26 27::oM 29 0::oo 30 (.wS (oT 29))::oB 31 .gtr 28 30::[]))
(.cond (oT 31)
(.seq
(.plain (oM 32 0::oM 33 1::oo 34 (.gu 1 (oT 32) none (some (oT 33)) none)::oM 35 8::oM 36 7::oB 37 .add 35 36::oM 38 1::oB 39 .sub 37 38::oo 40 (.yZ 1 24 [(.sl [] .nil)] (oT 34) (oT 39))::oM 9 40::[]))
(.seq
(.plain (oM 41 9::oM 42 1::oo 43 (.gu 1 (oT 41) (some (oT 42)) none none)::oM 44 2::oo 45 (.pD 1 (oT 43) (oT 44))::[]))
(.seq
(.draw (oM 46 9::oM 47 1::oM 48 7::oB 49 .add 47 48::oo 50 (.gu 1 (oT 46) (some (oT 49)) none none)::oM 51 0::oM 52 1::oo 53 (.gu 1 (oT 51) (some (oT 52)) none none)::oo 54 (.pD 1 (oT 50) (oT 53))::[])
(oO 0::oO 1::oO 2::oO 3::oO 4::oO 5::oO 6::oO 7::oO 8:: []))
(.seq
(.plain (oM 55 9::oM 6 55::[]))
.ret))))
.skip))
(.seq
(.plain (oM 56 0::oM 57 8::oM 58 7::oB 59 .add 57 58::oo 60 (.gu 1 (oT 56) none (some (oT 59)) none)::oM 0 60::[]))
(.seq
(.seq
(.plain (oM 61 2::oM 62 0::oM 63 1::oM 64 7::oB 65 .add 63 64::oo 66 (.gu 1 (oT 62) (some (oT 65)) none none)::oo 67 (.zr (oT 61) (oT 66))::oo 68 (.un .not (oT 67))::[]))
(.cond (oT 68)
(.seq
(.draw (oM 69 0::oM 70 1::oM 71 7::oB 72 .add 70 71::oo 73 (.gu 1 (oT 69) (some (oT 72)) none none)::oM 74 0::oM 75 1::oo 76 (.gu 1 (oT 74) (some (oT 75)) none none)::oo 77 (.pD 1 (oT 73) (oT 76))::[])
(oO 0::oO 1::oO 2::oO 3::oO 4::oO 5::oO 6::oO 7::oO 8:: []))
(.seq
(.plain (oM 78 0::oM 79 1::oo 80 (.gu 1 (oT 78) (some (oT 79)) none none)::oM 81 2::oo 82 (.pD 1 (oT 80) (oT 81))::[]))
(.seq
(.plain (oM 83 0::oM 6 83::[]))
.ret)))
.skip))
(.seq
(.plain (oM 84 0::oM 85 8::oo 86 (.gu 1 (oT 84) (some (oT 85)) none none)::oM 87 2::oo 88 (.pD 1 (oT 86) (oT 87))::[]))
(.seq
(.plain (oM 89 0::oM 90 1::oo 91 (.gu 1 (oT 89) (some (oT 90)) none none)::oM 92 7::oo 93 (.bu 103 [(oT 91),(oT 92)])::[]))
(.seq
(.plain (oM 94 0::oM 6 94::[]))
.ret))))))))))))
theorem adh:cU Tryz.prog 6 68=some F68:=by kernel_rfl
def F69:cT where
 ntmps:=27
 nparams:=2
 results:= [(4,none)]
 code:=
(.seq
(.plain (oo 2 (.box 121 (oT 0))::oo 4 (.mv (oC 0))::[]))
(.seq
(.plain (oo 5 (.mv (oC 0))::[]))
(.seq
(.block 0
(.loop
(.seq
(.seq
(.plain (oM 6 5::oD 7 .add 6 1::oF 8 2 2::oL 9 8::oK 10 9::oB 11 .lss 7 10::oM 12 11::og 12 true 13 (.mv (oT 1))::og 12 true 14 (.fa 2 (oT 2))::og 12 true 15 (.load false 1 (oT 14))::og 12 true 16 (.mv (oT 5))::og 12 true 17 (.bin .add (oT 16) (oC 1))::og 12 true 18 (.kA 37 (oT 15) (oT 17))::og 12 true 19 (.fa 36 (oT 18))::og 12 true 20 (.load false 1 (oT 19))::og 12 true 21 (.bu 58 [(oT 13),(oT 20)])::og 12 true 22 (.un .not (oT 21))::oo 23 (.pick (oT 12) (oT 22) oN)::[]))
(.cond (oT 23)
.skip
(.exit 0)))
(.block 1
(.plain (oM 24 5::oD 25 .add 24 1::oM 5 25::[]))))))
(.seq
(.plain (oM 26 5::oM 4 26::[]))
.ret))))
theorem adi:cU Tryz.prog 0 69=some F69:=by kernel_rfl
def F70:cT where
 ntmps:=15
 nparams:=2
 results:= [(4,none),(5,none)]
 code:=
(.seq
(.plain (oo 4 (.mv oZ)::oo 5 (.mv (oC 0))::[]))
(.seq
(.plain (oM 6 0::oM 7 0::oK 8 7::oo 9 (.bu 35 [(oT 8)])::oo 10 (.bu 61 [(oT 6),(oT 9)])::oM 11 1::oo 12 (.bu 60 [(oT 10),(oT 11)])::oE 13 12 0::oE 14 12 1::oM 4 13::oM 5 14::[]))
.ret))
theorem adj:cU Tryz.prog 0 70=some F70:=by kernel_rfl
def F71:cT where
 ntmps:=224
 nparams:=4
 results:= [(8,none)]
 code:=
(.seq
(.plain (oo 8 (.mv oZ)::[]))
(.seq
(.plain (oM 15 0::oM 16 1::oM 17 2::oo 18 (.gu 37 (oT 15) (some (oT 16)) (some (oT 17)) none)::[]))
(.seq
(.seq
(.plain (oM 19 1::oM 20 2::oB 21 .eql 19 20::[]))
(.cond (oT 21)
(.seq
(.plain (oM 22 0::oM 23 1::oM 24 3::oo 25 (.bu 104 [(oT 22),(oT 23),(oT 24)])::oM 8 25::[]))
.ret)
.skip))
(.seq
(.seq
(.plain (oM 26 2::oM 27 0::oK 28 27::oB 29 .eql 26 28::[]))
(.cond (oT 29)
(.seq
(.plain (oM 30 0::oM 31 1::oo 32 (.gu 37 (oT 30) none (some (oT 31)) none)::oM 33 3::oo 34 (.nh 37 120 (oT 32) (oT 33))::oM 9 34::[]))
(.seq
(.seq
(.plain (oM 35 9::oK 36 35::oM 37 0::oK 38 37::oB 39 .lss 36 38::[]))
(.cond (oT 39)
(.plain (oM 40 0::oM 41 9::oK 42 41::oo 43 (.gu 37 (oT 40) (some (oT 42)) none none)::on (.AB 37 (List.replicate 32 (.v (.int .u8 0))++ [(.sl [] .nil),(.sl [] .nil)]++ [(.v (.int .i64 0)),(.v (.int .i64 0))]++ [(.sl [] .nil)]) (oT 43))::[]))
.skip))
(.seq
(.plain (oM 44 9::oM 8 44::[]))
.ret)))
.skip))
(.seq
(.draw (oM 45 0::oM 46 1::oo 47 (.gu 37 (oT 45) none (some (oT 46)) none)::oK 48 47::oM 49 3::oK 50 49::oB 51 .add 48 50::oM 52 0::oM 53 2::oo 54 (.gu 37 (oT 52) (some (oT 53)) none none)::oK 55 54::oB 56 .add 51 55::oM 10 56::[])
(oO 0::oO 1::oO 2::oO 3::oO 4::oO 5::oO 6::oO 7::oO 8::oO 9::oO 10::oO 11::oO 12:: []))
(.seq
(.seq
(.plain (oM 57 10::oM 58 0::oo 59 (.wS (oT 58))::oB 60 .gtr 57 59::[]))
(.cond (oT 60)
(.seq
(.plain (oM 61 0::oM 62 1::oo 63 (.gu 37 (oT 61) none (some (oT 62)) none)::oM 64 10::oM 65 1::oB 66 .sub 64 65::oo 67 (.yZ 37 120 (List.replicate 32 (.v (.int .u8 0))++ [(.sl [] .nil),(.sl [] .nil)]++ [(.v (.int .i64 0)),(.v (.int .i64 0))]++ [(.sl [] .nil)]) (oT 63) (oT 66))::oM 11 67::[]))
(.seq
(.plain (oM 68 11::oM 69 1::oo 70 (.gu 37 (oT 68) (some (oT 69)) none none)::oM 71 3::oo 72 (.pD 37 (oT 70) (oT 71))::[]))
(.seq
(.draw (oM 73 11::oM 74 1::oM 75 3::oK 76 75::oB 77 .add 74 76::oo 78 (.gu 37 (oT 73) (some (oT 77)) none none)::oM 79 0::oM 80 2::oo 81 (.gu 37 (oT 79) (some (oT 80)) none none)::oo 82 (.pD 37 (oT 78) (oT 81))::[])
(oO 0::oO 1::oO 2::oO 3::oO 4::oO 5::oO 6::oO 7::oO 8::oO 9:: []))
(.seq
(.plain (oM 83 11::oM 8 83::[]))
.ret))))
.skip))
(.seq
(.plain (oM 84 0::oM 85 10::oo 86 (.gu 37 (oT 84) none (some (oT 85)) none)::oM 12 86::[]))
(.seq
(.seq
(.plain (oM 87 1::oM 88 3::oK 89 88::oB 90 .add 87 89::oM 91 2::oB 92 .leq 90 91::[]))
(.cond (oT 92)
(.seq
(.plain (oM 93 12::oM 94 1::oo 95 (.gu 37 (oT 93) (some (oT 94)) none none)::oM 96 3::oo 97 (.pD 37 (oT 95) (oT 96))::[]))
(.seq
(.draw (oM 98 12::oM 99 1::oM 100 3::oK 101 100::oB 102 .add 99 101::oo 103 (.gu 37 (oT 98) (some (oT 102)) none none)::oM 104 0::oM 105 2::oo 106 (.gu 37 (oT 104) (some (oT 105)) none none)::oo 107 (.pD 37 (oT 103) (oT 106))::[])
(oO 0::oO 1::oO 2::oO 3::oO 4::oO 5::oO 6::oO 7::oO 8::oO 9:: []))
(.seq
(.plain (oM 108 0::oM 109 10::oo 110 (.gu 37 (oT 108) (some (oT 109)) none none)::on (.AB 37 (List.replicate 32 (.v (.int .u8 0))++ [(.sl [] .nil),(.sl [] .nil)]++ [(.v (.int .i64 0)),(.v (.int .i64 0))]++ [(.sl [] .nil)]) (oT 110))::[]))
(.seq
(.plain (oM 111 12::oM 8 111::[]))
.ret))))
.skip))
(.seq
(.seq
(.plain (oM 112 12::oM 113 1::oM 114 3::oK 115 114::oB 116 .add 113 115::oo 117 (.gu 37 (oT 112) (some (oT 116)) none none)::oM 118 3::oo 119 (.zr (oT 117) (oT 118))::oo 120 (.un .not (oT 119))::[]))
(.cond (oT 120)
(.seq
(.draw (oM 121 12::oM 122 1::oM 123 3::oK 124 123::oB 125 .add 122 124::oo 126 (.gu 37 (oT 121) (some (oT 125)) none none)::oM 127 0::oM 128 2::oo 129 (.gu 37 (oT 127) (some (oT 128)) none none)::oo 130 (.pD 37 (oT 126) (oT 129))::[])
(oO 0::oO 1::oO 2::oO 3::oO 4::oO 5::oO 6::oO 7::oO 8::oO 9:: []))
(.seq
(.plain (oM 131 12::oM 132 1::oo 133 (.gu 37 (oT 131) (some (oT 132)) none none)::oM 134 3::oo 135 (.pD 37 (oT 133) (oT 134))::[]))
(.seq
(.plain (oM 136 12::oM 8 136::[]))
.ret)))
.skip))
(.seq
(.plain (oM 137 3::oK 138 137::oM 139 2::oM 140 1::oB 141 .sub 139 140::oB 142 .sub 138 141::oM 13 142::[]))
(.seq
(.seq
(.plain (oM 143 12::oM 144 1::oM 145 2::oo 146 (.gu 37 (oT 143) (some (oT 144)) (some (oT 145)) none)::oM 147 3::oo 148 (.zr (oT 146) (oT 147))::oo 149 (.un .not (oT 148))::[]))
(.cond (oT 149)
(.seq
(.draw (oM 150 12::oM 151 1::oM 152 2::oo 153 (.gu 37 (oT 150) (some (oT 151)) (some (oT 152)) none)::oM 154 3::oM 155 13::oo 156 (.gu 37 (oT 154) (some (oT 155)) none none)::oo 157 (.pD 37 (oT 153) (oT 156))::[])
(oO 0::oO 1::oO 2::oO 3::oO 4::oO 5::oO 6::oO 7:: []))
(.seq
(.draw (oM 158 12::oM 159 0::oK 160 159::oo 161 (.gu 37 (oT 158) (some (oT 160)) none none)::oM 162 3::oM 163 13::oo 164 (.gu 37 (oT 162) none (some (oT 163)) none)::oo 165 (.pD 37 (oT 161) (oT 164))::[])
(oO 0::oO 1::oO 2::oO 3::oO 4::oO 5::oO 6::oO 7:: []))
(.seq
(.plain (oM 166 12::oM 167 1::oo 168 (.gu 37 (oT 166) (some (oT 167)) none none)::oM 169 13::oo 170 (.bu 106 [(oT 168),(oT 169)])::[]))
(.seq
(.plain (oM 171 12::oM 8 171::[]))
.ret))))
.skip))
(.seq
(.seq
(.plain (oM 172 12::oM 173 0::oK 174 173::oo 175 (.gu 37 (oT 172) (some (oT 174)) none none)::oM 176 3::oo 177 (.zr (oT 175) (oT 176))::oo 178 (.un .not (oT 177))::[]))
(.cond (oT 178)
(.seq
(.draw (oM 179 12::oM 180 0::oK 181 180::oo 182 (.gu 37 (oT 179) (some (oT 181)) none none)::oM 183 3::oM 184 13::oo 185 (.gu 37 (oT 183) none (some (oT 184)) none)::oo 186 (.pD 37 (oT 182) (oT 185))::[])
(oO 0::oO 1::oO 2::oO 3::oO 4::oO 5::oO 6::oO 7:: []))
(.seq
(.draw (oM 187 12::oM 188 1::oM 189 2::oo 190 (.gu 37 (oT 187) (some (oT 188)) (some (oT 189)) none)::oM 191 3::oM 192 13::oo 193 (.gu 37 (oT 191) (some (oT 192)) none none)::oo 194 (.pD 37 (oT 190) (oT 193))::[])
(oO 0::oO 1::oO 2::oO 3::oO 4::oO 5::oO 6::oO 7:: []))
(.seq
(.plain (oM 195 12::oM 196 1::oo 197 (.gu 37 (oT 195) (some (oT 196)) none none)::oM 198 13::oo 199 (.bu 106 [(oT 197),(oT 198)])::[]))
(.seq
(.plain (oM 200 12::oM 8 200::[]))
.ret))))
.skip))
(.seq
(.plain (oM 201 3::oM 202 0::oM 203 2::oo 204 (.gu 37 (oT 202) (some (oT 203)) none none)::oo 205 (.bu 107 [(oT 201),(oT 204)])::oM 14 205::[]))
(.seq
(.plain (oM 206 12::oM 207 1::oo 208 (.gu 37 (oT 206) (some (oT 207)) none none)::oM 209 3::oo 210 (.pD 37 (oT 208) (oT 209))::[]))
(.seq
(.draw (oM 211 12::oM 212 1::oM 213 3::oK 214 213::oB 215 .add 212 214::oo 216 (.gu 37 (oT 211) (some (oT 215)) none none)::oM 217 12::oM 218 1::oM 219 14::oB 220 .add 218 219::oo 221 (.gu 37 (oT 217) (some (oT 220)) none none)::oo 222 (.pD 37 (oT 216) (oT 221))::[])
(oO 0::oO 1::oO 2::oO 3::oO 4::oO 5::oO 6::oO 7::oO 8::oO 9::oO 10::oO 11:: []))
(.seq
(.plain (oM 223 12::oM 8 223::[]))
.ret))))))))))))))))
theorem a05:cU Tryz.prog 6 71=some F71:=by kernel_rfl
def F72:cT where
 ntmps:=39
 nparams:=1
 results:= [(2,none)]
 code:=
(.seq
(.plain (oo 2 (.mv oZ)::[]))
(.seq
(.plain (oo 3 (.mv oZ)::[]))
(.seq
(.plain (oo 4 (.mv (oC 0))::[]))
(.seq
(.plain (oM 7 0::oK 8 7::oo 9 (.bu 108 [(oT 8)])::oM 5 9::[]))
(.seq
(.seq
(.plain (oo 6 (.mv (oC 0))::[]))
(.block 0
(.loop
(.seq
(.seq
(.plain (oM 10 6::oM 11 5::oK 12 11::oB 13 .lss 10 12::[]))
(.cond (oT 13)
.skip
(.exit 0)))
(.seq
(.block 1
(.seq
(.plain (oM 16 3::oo 17 (.gL 1 [])::oM 18 0::oM 19 4::oM 20 4::oM 21 5::oM 22 6::oI 23 1 21 22::oL 24 23::oB 25 .add 20 24::oo 26 (.pI 1 (oT 18) (some (oT 19)) (some (oT 25)))::oo 27 (.app 1 8 (oT 17) (oT 26))::oo 28 (.gf [(.sl [] .nil),(.sl [] .nil)] [(1,1,(oT 27))])::oo 29 (.box 76 (oT 28))::oo 30 (.gL 1 [(oT 29)])::oo 31 (.app 1 8 (oT 16) (oT 30))::oM 3 31::[]))
(.plain (oM 32 4::oM 33 5::oM 34 6::oI 35 1 33 34::oL 36 35::oB 37 .add 32 36::oM 4 37::[]))))
(.plain (oM 14 6::oD 15 .add 14 1::oM 6 15::[])))))))
(.seq
(.plain (oM 38 3::oM 2 38::[]))
.ret))))))
theorem adk:cU Tryz.prog 0 72=some F72:=by kernel_rfl
def F73:cT where
 ntmps:=39
 nparams:=1
 results:= [(2,none)]
 code:=
(.seq
(.plain (oo 2 (.mv oZ)::[]))
(.seq
(.plain (oo 3 (.mv oZ)::[]))
(.seq
(.plain (oo 4 (.mv (oC 0))::[]))
(.seq
(.plain (oM 7 0::oK 8 7::oo 9 (.bu 108 [(oT 8)])::oM 5 9::[]))
(.seq
(.seq
(.plain (oo 6 (.mv (oC 0))::[]))
(.block 0
(.loop
(.seq
(.seq
(.plain (oM 10 6::oM 11 5::oK 12 11::oB 13 .lss 10 12::[]))
(.cond (oT 13)
.skip
(.exit 0)))
(.seq
(.block 1
(.seq
(.plain (oM 16 3::oo 17 (.gL 1 [])::oM 18 0::oM 19 4::oM 20 4::oM 21 5::oM 22 6::oI 23 1 21 22::oL 24 23::oB 25 .add 20 24::oo 26 (.pI 1 (oT 18) (some (oT 19)) (some (oT 25)))::oo 27 (.app 1 24 (oT 17) (oT 26))::oo 28 (.gf [(.sl [] .nil),(.sl [] .nil)] [(0,1,(oT 27))])::oo 29 (.box 76 (oT 28))::oo 30 (.gL 1 [(oT 29)])::oo 31 (.app 1 8 (oT 16) (oT 30))::oM 3 31::[]))
(.plain (oM 32 4::oM 33 5::oM 34 6::oI 35 1 33 34::oL 36 35::oB 37 .add 32 36::oM 4 37::[]))))
(.plain (oM 14 6::oD 15 .add 14 1::oM 6 15::[])))))))
(.seq
(.plain (oM 38 3::oM 2 38::[]))
.ret))))))
theorem adl:cU Tryz.prog 0 73=some F73:=by kernel_rfl
def F74:cT where
 ntmps:=29
 nparams:=2
 results:= [(4,none)]
 code:=
(.seq
(.plain (oo 4 (.mv (oC 0))::[]))
(.seq
(.plain (oo 5 (.mv (oC 0))::[]))
(.seq
(.seq
(.plain (oo 6 (.mv (oC 0))::[]))
(.block 0
(.loop
(.seq
(.seq
(.plain (oM 7 6::oM 8 0::oo 9 (.df (oT 8))::oF 10 1 9::oL 11 10::oK 12 11::oB 13 .lss 7 12::[]))
(.cond (oT 13)
.skip
(.exit 0)))
(.seq
(.block 1
(.seq
(.plain (oM 16 1::oM 17 0::oo 18 (.df (oT 17))::oF 19 1 18::oL 20 19::oM 21 6::oI 22 1 20 21::oL 23 22::oo 24 (.bu 109 [(oT 23)])::oo 25 (.bu 81 [(oT 16),(oT 24)])::oo 26 (.un .not (oT 25))::[]))
(.cond (oT 26)
(.plain (oM 27 6::oM 5 27::[]))
.skip)))
(.plain (oM 14 6::oD 15 .add 14 1::oM 6 15::[])))))))
(.seq
(.plain (oM 28 5::oM 4 28::[]))
.ret))))
theorem adm:cU Tryz.prog 0 74=some F74:=by kernel_rfl
def F75:cT where
 ntmps:=11
 nparams:=1
 results:= [(2,(some (true,3)))]
 code:=
(.seq
(.plain (oo 1 (.box 121 (oT 0))::oo 2 (.alloc 100 [(.v (.bool false)),(.sl [] .nil),(.sl [] .nil)])::[]))
(.seq
(.draw (oF 3 0 1::oL 4 3::oo 5 (.bin .eql (oT 4) (.const (.int .u8 2)))::oo 6 (.load true 3 (oT 1))::oo 7 (.bu 66 [(oT 6)])::oF 8 2 1::oL 9 8::oo 10 (.gf [(.v (.bool false)),(.sl [] .nil),(.sl [] .nil)] [(0,1,(oT 5)),(1,1,(oT 7)),(2,1,(oT 9))])::on (.store 3 (oT 2) (oT 10))::[])
(oO 0::oO 1::oO 2::oO 3::oO 5::oO 6::⟨4,[],[1,6]⟩::oO 7::oO 8:: []))
.ret))
theorem adn:cU Tryz.prog 0 75=some F75:=by kernel_rfl
def F76:cT where
 ntmps:=33
 nparams:=3
 results:= [(6,none)]
 code:=
(.seq
(.plain (oo 6 (.mv oZ)::[]))
(.seq
(.plain (oM 8 0::oM 9 1::oM 10 2::oM 11 0::oK 12 11::oo 13 (.gu 1 (oT 8) (some (oT 9)) (some (oT 10)) (some (oT 12)))::[]))
(.seq
(.seq
(.plain (oM 14 1::oM 15 2::oB 16 .eql 14 15::[]))
(.cond (oT 16)
(.seq
(.plain (oM 17 0::oM 6 17::[]))
.ret)
.skip))
(.seq
(.plain (oM 18 0::oK 19 18::oM 7 19::[]))
(.seq
(.draw (oM 20 0::oM 21 1::oo 22 (.gu 1 (oT 20) none (some (oT 21)) none)::oM 23 0::oM 24 2::oo 25 (.gu 1 (oT 23) (some (oT 24)) none none)::oo 26 (.nh 1 24 (oT 22) (oT 25))::oM 0 26::[])
(oO 0::oO 1::oO 2::oO 3::oO 4::oO 5::oO 6::oO 7:: []))
(.seq
(.plain (oM 27 0::oM 28 0::oK 29 28::oM 30 7::oo 31 (.gu 1 (oT 27) (some (oT 29)) (some (oT 30)) none)::on (.AB 1 [(.sl [] .nil)] (oT 31))::[]))
(.seq
(.plain (oM 32 0::oM 6 32::[]))
.ret)))))))
theorem ado:cU Tryz.prog 6 76=some F76:=by kernel_rfl
def F77:cT where
 ntmps:=76
 nparams:=4
 results:= [(8,none),(9,none)]
 code:=
(.seq
(.plain (oo 4 (.box 85 (oT 0))::oo 7 (.box 100 (oT 3))::oo 8 (.mv oZ)::oo 9 (.mv (oC 0))::[]))
(.seq
(.seq
(.plain (oo 19 (.load true 3 (oT 7))::oo 20 (.bu 110 [(oT 19)])::oo 21 (.un .not (oT 20))::[]))
(.cond (oT 21)
(.seq
(.plain (oo 23 (.load true 2 (oT 4))::oo 24 (.load true 3 (oT 7))::oo 25 (.bu 44 [(oT 23),(oT 24)])::oM 22 25::oE 26 22 0::oE 27 22 1::oo 10 (.alloc 34 (List.replicate 32 (.v (.int .u8 0))++ [(.sl [] .nil),(.sl [] .nil)]++ [(.v (.int .i64 0)),(.v (.int .i64 0))]++ [(.sl [] .nil)]))::on (.store 37 (oT 10) (oT 26))::oM 11 27::[]))
(.seq
(.plain (oM 28 1::oM 29 2::oo 30 (.load true 37 (oT 10))::oI 31 37 28 29::on (.store 37 (oT 31) (oT 30))::[]))
(.seq
(.plain (oM 32 1::oM 33 11::oM 8 32::oM 9 33::[]))
.ret)))
.skip))
(.seq
(.plain (oM 34 2::oD 35 .sub 34 1::oo 36 (.mm true .i64 (oT 35) (oC 0))::oM 12 36::[]))
(.seq
(.plain (oM 37 12::oM 13 37::[]))
(.seq
(.seq
(.plain (oM 38 2::oD 39 .eql 38 0::[]))
(.cond (oT 39)
(.plain (oo 13 (.mv (oC 1))::[]))
.skip))
(.seq
(.draw (oo 41 (.load true 2 (oT 4))::oM 42 1::oM 43 13::oI 44 37 42 43::oo 45 (.load true 37 (oT 44))::oo 46 (.bu 64 [(oT 41),(oT 45)])::oM 40 46::oE 47 40 0::oE 48 40 1::oo 14 (.alloc 121 [(.v (.int .u8 0)),(.sl [] .nil),(.sl [] .nil)])::on (.store 3 (oT 14) (oT 47))::oM 15 48::[])
(oO 0::oO 1::oO 2::oO 3::oO 4::⟨5,[9],[]⟩::oO 6::oO 7::oO 8::oO 9::oO 10::oO 11:: []))
(.seq
(.seq
(.plain (oM 49 15::oD 50 .neq 49 0::[]))
(.cond (oT 50)
(.seq
(.plain (oM 51 15::oo 8 (.mv oZ)::oM 9 51::[]))
.ret)
.skip))
(.seq
(.draw (oo 52 (.load true 3 (oT 14))::oo 53 (.bu 75 [(oT 52)])::oo 54 (.load true 3 (oT 7))::oo 16 (.alloc 100 [(.v (.bool false)),(.sl [] .nil),(.sl [] .nil)])::oo 17 (.alloc 100 [(.v (.bool false)),(.sl [] .nil),(.sl [] .nil)])::on (.store 3 (oT 16) (oT 53))::on (.store 3 (oT 17) (oT 54))::[])
(oO 0::oO 2::⟨1,[3,4],[2]⟩::⟨3,[4],[]⟩::oO 4::⟨5,[],[2]⟩::oO 6:: []))
(.seq
(.seq
(.plain (oM 55 2::oD 56 .eql 55 0::[]))
(.cond (oT 56)
(.draw (oo 57 (.load true 3 (oT 7))::oo 58 (.load true 3 (oT 14))::oo 59 (.bu 75 [(oT 58)])::on (.store 3 (oT 16) (oT 57))::on (.store 3 (oT 17) (oT 59))::[])
(oO 0::oO 1::⟨2,[],[0]⟩::oO 3::oO 4:: []))
.skip))
(.seq
(.plain (oo 61 (.load true 2 (oT 4))::oo 62 (.load true 3 (oT 16))::oo 63 (.load true 3 (oT 17))::oo 64 (.bu 111 [(oT 61),(oT 62),(oT 63)])::oM 60 64::oE 65 60 0::oE 66 60 1::oM 18 65::oM 15 66::[]))
(.seq
(.seq
(.plain (oM 67 15::oD 68 .neq 67 0::[]))
(.cond (oT 68)
(.seq
(.plain (oM 69 15::oo 8 (.mv oZ)::oM 9 69::[]))
.ret)
.skip))
(.seq
(.plain (oM 70 1::oM 71 12::oM 72 12::oD 73 .add 72 2::oM 74 18::oo 75 (.bu 71 [(oT 70),(oT 71),(oT 73),(oT 74)])::oM 8 75::oo 9 (.mv (oC 0))::[]))
.ret))))))))))))
theorem adp:cU Tryz.prog 1 77=some F77:=by kernel_rfl
def F78:cT where
 ntmps:=19
 nparams:=1
 results:= [(2,none)]
 code:=
(.seq
(.plain (oo 2 (.mv oN)::[]))
(.seq
(.plain (oM 3 0::oo 4 (.df (oT 3))::oF 5 2 4::oL 6 5::oK 7 6::oD 8 .gtr 7 0::oM 9 8::og 9 true 10 (.mv (oT 0))::og 9 true 11 (.df (oT 10))::og 9 true 12 (.fa 2 (oT 11))::og 9 true 13 (.load false 1 (oT 12))::og 9 true 14 (.kA 38 (oT 13) (oC 0))::og 9 true 15 (.fa 0 (oT 14))::og 9 true 16 (.load false 1 (oT 15))::og 9 true 17 (.wX false (oT 16))::oo 18 (.pick (oT 9) (oT 17) oN)::oM 2 18::[]))
.ret))
theorem adq:cU Tryz.prog 0 78=some F78:=by kernel_rfl
def F79:cT where
 ntmps:=20
 nparams:=1
 results:= [(2,none)]
 code:=
(.seq
(.plain (oo 2 (.mv oZ)::[]))
(.seq
(.plain (oM 4 0::oo 5 (.df (oT 4))::oF 6 2 5::oL 7 6::oo 8 (.kA 38 (oT 7) (oC 0))::oF 9 0 8::oL 10 9::oM 3 10::[]))
(.seq
(.plain (oM 11 0::oM 12 0::oo 13 (.df (oT 12))::oF 14 2 13::oL 15 14::oo 16 (.pI 38 (oT 15) (some (oC 1)) none)::oo 17 (.df (oT 11))::oF 18 2 17::on (.store 1 (oT 18) (oT 16))::[]))
(.seq
(.plain (oM 19 3::oM 2 19::[]))
.ret))))
theorem adr:cU Tryz.prog 0 79=some F79:=by kernel_rfl
def F80:cT where
 ntmps:=48
 nparams:=3
 results:= [(6,(some (true,3))),(7,none)]
 code:=
(.seq
(.plain (oo 4 (.box 34 (oT 1))::oo 6 (.alloc 121 [(.v (.int .u8 0)),(.sl [] .nil),(.sl [] .nil)])::oo 7 (.mv (oC 0))::[]))
(.seq
(.plain (oM 14 0::oF 15 0 4::oo 16 (.load true 32 (oT 15))::oo 17 (.bu 27 [(oT 14),(oT 16)])::oM 13 17::oE 18 13 0::oE 19 13 1::oM 8 18::oM 9 19::[]))
(.seq
(.seq
(.plain (oM 20 9::oD 21 .neq 20 0::[]))
(.cond (oT 21)
(.seq
(.plain (oo 22 (.gf [(.v (.int .u8 0)),(.sl [] .nil),(.sl [] .nil)] [])::on (.store 3 (oT 6) (oT 22))::oo 7 (.mv (oC 21))::[]))
.ret)
.skip))
(.seq
(.plain (oM 24 8::oM 25 2::oo 26 (.bu 112 [(oT 24),(oT 25)])::oM 23 26::oE 27 23 0::oE 28 23 1::oo 10 (.alloc 121 [(.v (.int .u8 0)),(.sl [] .nil),(.sl [] .nil)])::on (.store 3 (oT 10) (oT 27))::oM 9 28::[]))
(.seq
(.seq
(.plain (oM 29 9::oD 30 .neq 29 0::[]))
(.cond (oT 30)
(.seq
(.plain (oo 31 (.gf [(.v (.int .u8 0)),(.sl [] .nil),(.sl [] .nil)] [])::on (.store 3 (oT 6) (oT 31))::oo 7 (.mv (oC 21))::[]))
.ret)
.skip))
(.seq
(.seq
(.plain (oo 33 (.load true 3 (oT 10))::oM 34 2::oo 35 (.bu 97 [(oT 33),(oT 34)])::oM 32 35::oE 36 32 0::oE 37 32 1::oo 11 (.alloc 34 (List.replicate 32 (.v (.int .u8 0))++ [(.sl [] .nil),(.sl [] .nil)]++ [(.v (.int .i64 0)),(.v (.int .i64 0))]++ [(.sl [] .nil)]))::on (.store 37 (oT 11) (oT 36))::oM 12 37::[]))
(.seq
(.plain (oM 38 12::oD 39 .neq 38 0::oM 40 39::og 40 false 41 (.load true 37 (oT 11))::og 40 false 42 (.load true 37 (oT 4))::og 40 false 43 (.bu 63 [(oT 41),(oT 42)])::og 40 false 44 (.un .not (oT 43))::oo 45 (.pick (oT 40) oY (oT 44))::[]))
(.cond (oT 45)
(.seq
(.plain (oo 46 (.gf [(.v (.int .u8 0)),(.sl [] .nil),(.sl [] .nil)] [])::on (.store 3 (oT 6) (oT 46))::oo 7 (.mv (oC 21))::[]))
.ret)
.skip)))
(.seq
(.plain (oo 47 (.load true 3 (oT 10))::on (.store 3 (oT 6) (oT 47))::oo 7 (.mv (oC 0))::[]))
.ret)))))))
theorem ads:cU Tryz.prog 0 80=some F80:=by kernel_rfl
def F81:cT where
 ntmps:=10
 nparams:=2
 results:= [(4,none)]
 code:=
(.seq
(.plain (oo 4 (.mv oN)::[]))
(.seq
(.plain (oM 5 0::oo 6 (.bu 114 [(oT 5)])::oM 7 1::oo 8 (.bu 114 [(oT 7)])::oo 9 (.bu 113 [(oT 6),(oT 8)])::oM 4 9::[]))
.ret))
theorem adt:cU Tryz.prog 0 81=some F81:=by kernel_rfl
def F84:cT where
 ntmps:=19
 nparams:=2
 results:= [(4,none)]
 code:=
(.seq
(.plain (oo 4 (.mv (oC 0))::[]))
(.seq
(.seq
(.plain (oM 6 0::oK 7 6::oo 8 (.mv (oC 0))::[]))
(.block 0
(.loop
(.seq
(.plain (oB 9 .lss 8 7::[]))
(.seq
(.cond (oT 9)
.skip
(.exit 0))
(.seq
(.block 1
(.seq
(.plain (oM 10 8::oM 5 10::[]))
(.seq
(.plain (oM 11 1::oM 12 0::oM 13 5::oI 14 1 12 13::oL 15 14::oo 16 (.rn (oT 11) [(oT 15)])::[]))
(.cond (oT 16)
(.seq
(.plain (oM 17 5::oM 4 17::[]))
.ret)
.skip))))
(.plain (oD 18 .add 8 1::oM 8 18::[]))))))))
(.seq
(.plain (oo 4 (.mv (oC (-1)))::[]))
.ret)))
theorem adu:cU Tryz.prog 0 84=some F84:=by kernel_rfl
def F85:cT where
 ntmps:=53
 nparams:=4
 results:= []
 code:=
(.seq
(.plain (oM 10 1::oD 11 .add 10 1::oM 8 11::[]))
(.block 0
(.loop
(.seq
(.seq
(.plain (oM 12 8::oM 13 2::oB 14 .lss 12 13::[]))
(.cond (oT 14)
.skip
(.exit 0)))
(.seq
(.block 1
(.seq
(.plain (oM 17 8::oM 9 17::[]))
(.block 2
(.loop
(.seq
(.seq
(.draw (oM 18 9::oM 19 1::oB 20 .gtr 18 19::oM 21 20::og 21 true 22 (.mv (oT 3))::og 21 true 23 (.mv (oT 0))::og 21 true 24 (.mv (oT 9))::og 21 true 25 (.kA 1 (oT 23) (oT 24))::og 21 true 26 (.load false 1 (oT 25))::og 21 true 27 (.mv (oT 0))::og 21 true 28 (.mv (oT 9))::og 21 true 29 (.bin .sub (oT 28) (oC 1))::og 21 true 30 (.kA 1 (oT 27) (oT 29))::og 21 true 31 (.load false 1 (oT 30))::og 21 true 32 (.rn (oT 22) [(oT 26),(oT 31)])::og 21 true 33 (.bin .lss (oT 32) (oC 0))::oo 34 (.pick (oT 21) (oT 33) oN)::[])
(oO 0::oO 1::oO 2::oO 3::oO 4::oO 5::oO 6::oO 7::oO 8::oO 9::oO 10::oO 11::oO 12::oO 13::oO 14::oO 15::oO 16:: []))
(.cond (oT 34)
.skip
(.exit 2)))
(.seq
(.block 3
(.draw (oM 37 0::oM 38 9::oM 39 0::oM 40 9::oD 41 .sub 40 1::oM 42 0::oM 43 9::oD 44 .sub 43 1::oI 45 1 42 44::oL 46 45::oM 47 0::oM 48 9::oI 49 1 47 48::oL 50 49::oI 51 1 37 38::on (.store 1 (oT 51) (oT 46))::oI 52 1 39 41::on (.store 1 (oT 52) (oT 50))::[])
(oO 0::oO 1::oO 2::oO 3::oO 4::oO 5::oO 6::oO 7::oO 8::oO 9::oO 10::oO 11::oO 12::oO 13::oO 14::oO 15::oO 16::oO 17:: [])))
(.plain (oM 35 9::oD 36 .sub 35 1::oM 9 36::[]))))))))
(.plain (oM 15 8::oD 16 .add 15 1::oM 8 16::[])))))))
theorem adv:cU Tryz.prog 0 85=some F85:=by kernel_rfl
def F94:cT where
 ntmps:=25
 nparams:=1
 results:= [(2,none)]
 code:=
(.seq
(.plain (oo 2 (.mv (oC 0))::[]))
(.seq
(.seq
(.plain (oM 3 0::oo 4 (.bin .geq (oT 3) (.const (.int .u64 4294967296)))::[]))
(.cond (oT 4)
(.seq
(.plain (oM 5 0::oo 6 (.bin .shr (oT 5) (.const (.int .u64 32)))::oM 0 6::[]))
(.plain (oo 2 (.mv (oC 32))::[])))
.skip))
(.seq
(.seq
(.plain (oM 7 0::oo 8 (.bin .geq (oT 7) (.const (.int .u64 65536)))::[]))
(.cond (oT 8)
(.seq
(.plain (oM 9 0::oo 10 (.bin .shr (oT 9) (.const (.int .u64 16)))::oM 0 10::[]))
(.plain (oM 11 2::oD 12 .add 11 16::oM 2 12::[])))
.skip))
(.seq
(.seq
(.plain (oM 13 0::oo 14 (.bin .geq (oT 13) (.const (.int .u64 256)))::[]))
(.cond (oT 14)
(.seq
(.plain (oM 15 0::oo 16 (.bin .shr (oT 15) (.const (.int .u64 8)))::oM 0 16::[]))
(.plain (oM 17 2::oD 18 .add 17 8::oM 2 18::[])))
.skip))
(.seq
(.plain (oM 19 2::oM 20 0::oo 21 (.jF .u8 (oT 20))::oo 22 (.CM (.const (.string ⟨#[0,1,2,2,3,3,3,3,4,4,4,4,4,4,4,4,5,5,5,5,5,5,5,5,5,5,5,5,5,5,5,5,6,6,6,6,6,6,6,6,6,6,6,6,6,6,6,6,6,6,6,6,6,6,6,6,6,6,6,6,6,6,6,6,7,7,7,7,7,7,7,7,7,7,7,7,7,7,7,7,7,7,7,7,7,7,7,7,7,7,7,7,7,7,7,7,7,7,7,7,7,7,7,7,7,7,7,7,7,7,7,7,7,7,7,7,7,7,7,7,7,7,7,7,7,7,7,7,8,8,8,8,8,8,8,8,8,8,8,8,8,8,8,8,8,8,8,8,8,8,8,8,8,8,8,8,8,8,8,8,8,8,8,8,8,8,8,8,8,8,8,8,8,8,8,8,8,8,8,8,8,8,8,8,8,8,8,8,8,8,8,8,8,8,8,8,8,8,8,8,8,8,8,8,8,8,8,8,8,8,8,8,8,8,8,8,8,8,8,8,8,8,8,8,8,8,8,8,8,8,8,8,8,8,8,8,8,8,8,8,8,8,8,8,8,8,8,8,8,8,8,8,8,8,8,8]⟩)) (oT 21))::oo 23 (.jF .i64 (oT 22))::oB 24 .add 19 23::oM 2 24::[]))
.ret)))))
theorem adw:cU Tryz.prog 0 94=some F94:=by kernel_rfl
def F95:cT where
 ntmps:=9
 nparams:=1
 results:= [(2,none)]
 code:=
(.seq
(.plain (oo 2 (.mv oN)::[]))
(.seq
(.plain (oM 3 0::oD 4 .geq 3 1::oM 5 4::og 5 true 6 (.mv (oT 0))::og 5 true 7 (.bin .leq (oT 6) (oC 8))::oo 8 (.pick (oT 5) (oT 7) oN)::oM 2 8::[]))
.ret))
theorem adx:cU Tryz.prog 0 95=some F95:=by kernel_rfl
def F96:cT where
 ntmps:=6
 nparams:=1
 results:= [(2,none)]
 code:=
(.seq
(.plain (oo 2 (.mv (.const (.int .u64 0)))::[]))
(.seq
(.plain (oM 3 0::oo 4 (.jF .u64 (oT 3))::oo 5 (.bin .xor (oT 4) (.const (.int .u64 9223372036854775808)))::oM 2 5::[]))
.ret))
theorem ady:cU Tryz.prog 0 96=some F96:=by kernel_rfl
def F97:cT where
 ntmps:=101
 nparams:=2
 results:= [(4,(some (true,37))),(5,none)]
 code:=
(.seq
(.plain (oo 2 (.box 121 (oT 0))::oo 4 (.alloc 34 (List.replicate 32 (.v (.int .u8 0))++ [(.sl [] .nil),(.sl [] .nil)]++ [(.v (.int .i64 0)),(.v (.int .i64 0))]++ [(.sl [] .nil)]))::oo 5 (.mv (oC 0))::[]))
(.seq
(.plain (oo 14 (.load true 3 (oT 2))::oM 15 1::oo 16 (.bu 98 [(oT 14),(oT 15)])::oM 13 16::oE 17 13 0::oE 18 13 1::oM 6 17::oM 7 18::[]))
(.seq
(.seq
(.plain (oM 19 7::oD 20 .neq 19 0::[]))
(.cond (oT 20)
(.seq
(.plain (oo 21 (.gf (List.replicate 32 (.v (.int .u8 0))++ [(.sl [] .nil),(.sl [] .nil)]++ [(.v (.int .i64 0)),(.v (.int .i64 0))]++ [(.sl [] .nil)]) [])::oM 22 7::on (.store 37 (oT 4) (oT 21))::oM 5 22::[]))
.ret)
.skip))
(.seq
(.draw (oM 23 6::oo 24 (.bu 128 [(oT 23)])::oF 25 1 2::oL 26 25::oK 27 26::oo 28 (.gf (List.replicate 32 (.v (.int .u8 0))++ [(.sl [] .nil),(.sl [] .nil)]++ [(.v (.int .i64 0)),(.v (.int .i64 0))]++ [(.sl [] .nil)]) [(0,32,(oT 24)),(35,1,(oT 27))])::oo 8 (.alloc 34 (List.replicate 32 (.v (.int .u8 0))++ [(.sl [] .nil),(.sl [] .nil)]++ [(.v (.int .i64 0)),(.v (.int .i64 0))]++ [(.sl [] .nil)]))::on (.store 37 (oT 8) (oT 28))::[])
(oO 0::oO 2::oO 3::oO 4::⟨1,[6],[3]⟩::oO 5::oO 6::oO 7:: []))
(.seq
(.seq
(.plain (oF 29 1 2::oL 30 29::oK 31 30::oo 32 (.mv (oC 0))::[]))
(.block 0
(.loop
(.seq
(.plain (oB 33 .lss 32 31::[]))
(.seq
(.cond (oT 33)
.skip
(.exit 0))
(.seq
(.block 1
(.seq
(.plain (oI 34 2 30 32::oo 35 (.load true 2 (oT 34))::oo 10 (.alloc 123 [(.sl [] .nil),(.v (.bool false))])::on (.store 2 (oT 10) (oT 35))::[]))
(.seq
(.plain (oF 36 1 10::oL 37 36::[]))
(.cond (oT 37)
(.seq
(.plain (oF 38 34 8::oL 39 38::oD 40 .add 39 1::oF 41 34 8::on (.store 1 (oT 41) (oT 40))::[]))
(.draw (oF 42 32 8::oo 43 (.load true 2 (oT 42))::oF 44 0 10::oL 45 44::oo 46 (.bu 130 [(oT 45)])::oo 47 (.bu 129 [(oT 43),(oT 46)])::oF 48 32 8::on (.store 2 (oT 48) (oT 47))::[])
(oO 0::oO 1::oO 2::oO 3::⟨4,[],[1]⟩::oO 5::oO 6::oO 7:: [])))
.skip))))
(.plain (oD 49 .add 32 1::oM 32 49::[]))))))))
(.seq
(.seq
(.plain (oF 50 2 2::oL 51 50::oK 52 51::oo 53 (.mv (oC 0))::[]))
(.block 2
(.loop
(.seq
(.plain (oB 54 .lss 53 52::[]))
(.seq
(.cond (oT 54)
.skip
(.exit 2))
(.seq
(.block 3
(.seq
(.plain (oI 55 37 51 53::oo 56 (.load true 37 (oT 55))::oo 12 (.alloc 34 (List.replicate 32 (.v (.int .u8 0))++ [(.sl [] .nil),(.sl [] .nil)]++ [(.v (.int .i64 0)),(.v (.int .i64 0))]++ [(.sl [] .nil)]))::on (.store 37 (oT 12) (oT 56))::[]))
(.seq
(.plain (oF 57 34 8::oL 58 57::oF 59 34 12::oL 60 59::oB 61 .add 58 60::oF 62 34 8::on (.store 1 (oT 62) (oT 61))::[]))
(.seq
(.plain (oF 63 35 8::oL 64 63::oF 65 35 12::oL 66 65::oB 67 .add 64 66::oF 68 35 8::on (.store 1 (oT 68) (oT 67))::[]))
(.plain (oF 69 32 8::oo 70 (.load true 2 (oT 69))::oF 71 32 12::oo 72 (.load true 2 (oT 71))::oo 73 (.bu 129 [(oT 70),(oT 72)])::oF 74 32 8::on (.store 2 (oT 74) (oT 73))::[]))))))
(.plain (oD 75 .add 53 1::oM 53 75::[]))))))))
(.seq
(.seq
(.plain (oF 76 35 8::oL 77 76::oD 78 .gtr 77 1048576::[]))
(.cond (oT 78)
(.seq
(.plain (oo 79 (.gf (List.replicate 32 (.v (.int .u8 0))++ [(.sl [] .nil),(.sl [] .nil)]++ [(.v (.int .i64 0)),(.v (.int .i64 0))]++ [(.sl [] .nil)]) [])::on (.store 37 (oT 4) (oT 79))::oo 5 (.mv (oC 1))::[]))
.ret)
.skip))
(.seq
(.seq
(.plain (oF 80 0 2::oL 81 80::[]))
(.block 4
(.seq
(.plain (oo 83 (.bin .eql (oT 81) (.const (.int .u8 2)))::oM 82 83::[]))
(.cond (oT 82)
(.plain (oF 84 1 2::oL 85 84::oo 86 (.kA 2 (oT 85) (oC 0))::oF 87 0 86::oL 88 87::oo 89 (.bu 131 [(oT 88)])::oF 90 36 8::on (.store 1 (oT 90) (oT 89))::[]))
(.seq
(.plain (oo 92 (.bin .eql (oT 81) (.const (.int .u8 3)))::oM 91 92::[]))
(.cond (oT 91)
(.plain (oF 93 2 2::oL 94 93::oo 95 (.kA 37 (oT 94) (oC 0))::oF 96 36 95::oL 97 96::oo 98 (.bu 131 [(oT 97)])::oF 99 36 8::on (.store 1 (oT 99) (oT 98))::[]))
.skip))))))
(.seq
(.plain (oo 100 (.load true 37 (oT 8))::on (.store 37 (oT 4) (oT 100))::oo 5 (.mv (oC 0))::[]))
.ret)))))))))
theorem adz:cU Tryz.prog 0 97=some F97:=by kernel_rfl
def F98:cT where
 ntmps:=87
 nparams:=2
 results:= [(4,none),(5,none)]
 code:=
(.seq
(.plain (oo 2 (.box 121 (oT 0))::oo 4 (.mv oZ)::oo 5 (.mv (oC 0))::[]))
(.seq
(.seq
(.plain (oo 11 (.load true 3 (oT 2))::oM 12 1::oo 13 (.bu 132 [(oT 11),(oT 12)])::oo 14 (.un .not (oT 13))::[]))
(.cond (oT 14)
(.seq
(.plain (oo 4 (.mv oZ)::oo 5 (.mv (oC 1))::[]))
.ret)
.skip))
(.seq
(.plain (oo 15 (.gf [(.sl [] .nil),(.v (.int .i64 0))] [])::oo 16 (.box 195 (oT 15))::oM 6 16::[]))
(.seq
(.plain (oM 17 6::oF 18 0 2::oL 19 18::oo 20 (.bu 133 [(oT 17),(oT 19)])::[]))
(.seq
(.plain (oM 21 6::oF 22 1 2::oL 23 22::oK 24 23::oo 25 (.jF .u8 (oT 24))::oo 26 (.bu 133 [(oT 21),(oT 25)])::[]))
(.seq
(.seq
(.plain (oF 27 1 2::oL 28 27::oK 29 28::oo 30 (.mv (oC 0))::[]))
(.block 0
(.loop
(.seq
(.plain (oB 31 .lss 30 29::[]))
(.seq
(.cond (oT 31)
.skip
(.exit 0))
(.seq
(.block 1
(.seq
(.plain (oI 32 2 28 30::oo 33 (.load true 2 (oT 32))::oo 8 (.alloc 123 [(.sl [] .nil),(.v (.bool false))])::on (.store 2 (oT 8) (oT 33))::[]))
(.seq
(.plain (oM 34 6::oF 35 1 8::oL 36 35::oo 37 (.bu 134 [(oT 34),(oT 36)])::[]))
(.plain (oM 38 6::oF 39 0 8::oL 40 39::oo 41 (.bu 135 [(oT 38),(oT 40)])::[])))))
(.plain (oD 42 .add 30 1::oM 30 42::[]))))))))
(.seq
(.plain (oM 43 6::oF 44 2 2::oL 45 44::oK 46 45::oo 47 (.jF .u8 (oT 46))::oo 48 (.bu 133 [(oT 43),(oT 47)])::[]))
(.seq
(.seq
(.plain (oF 49 2 2::oL 50 49::oK 51 50::oo 52 (.mv (oC 0))::[]))
(.block 2
(.loop
(.seq
(.plain (oB 53 .lss 52 51::[]))
(.seq
(.cond (oT 53)
.skip
(.exit 2))
(.seq
(.block 3
(.seq
(.plain (oI 54 37 50 52::oo 55 (.load true 37 (oT 54))::oo 10 (.alloc 34 (List.replicate 32 (.v (.int .u8 0))++ [(.sl [] .nil),(.sl [] .nil)]++ [(.v (.int .i64 0)),(.v (.int .i64 0))]++ [(.sl [] .nil)]))::on (.store 37 (oT 10) (oT 55))::[]))
(.seq
(.plain (oM 56 6::oF 57 0 10::oo 58 (.load true 32 (oT 57))::oo 59 (.bu 136 [(oT 56),(oT 58)])::[]))
(.seq
(.plain (oM 60 6::oF 61 34 10::oL 62 61::oo 63 (.bu 137 [(oT 60),(oT 62)])::[]))
(.seq
(.plain (oM 64 6::oF 65 35 10::oL 66 65::oo 67 (.bu 137 [(oT 64),(oT 66)])::[]))
(.seq
(.plain (oM 68 6::oF 69 32 10::oF 70 0 69::oL 71 70::oo 72 (.bu 135 [(oT 68),(oT 71)])::[]))
(.seq
(.plain (oM 73 6::oF 74 32 10::oF 75 1 74::oL 76 75::oo 77 (.bu 135 [(oT 73),(oT 76)])::[]))
(.plain (oM 78 6::oF 79 36 10::oL 80 79::oo 81 (.bu 135 [(oT 78),(oT 80)])::[])))))))))
(.plain (oD 82 .add 52 1::oM 52 82::[]))))))))
(.seq
(.plain (oM 83 6::oo 84 (.bu 138 [(oT 83)])::oM 85 6::oo 86 (.bu 139 [(oT 85)])::oM 4 84::oM 5 86::[]))
.ret)))))))))
theorem adA:cU Tryz.prog 0 98=some F98:=by kernel_rfl
def F99:cT where
 ntmps:=54
 nparams:=2
 results:= [(4,(some (true,32)))]
 code:=
(.seq
(.plain (oo 4 (.alloc 28 (List.replicate 32 (.v (.int .u8 0))))::[]))
(.seq
(.plain (oM 8 1::oo 9 (.bu 128 [(oT 8)])::oo 5 (.alloc 28 (List.replicate 32 (.v (.int .u8 0))))::on (.store 32 (oT 5) (oT 9))::[]))
(.seq
(.seq
(.draw (oM 11 0::oo 12 (.df (oT 11))::oF 13 0 12::oL 14 13::oo 15 (.load true 32 (oT 5))::oo 16 (.BR true [(32,.int .u8)] (.sl [] .nil) (oT 14) (oT 15))::oM 10 16::oE 17 10 0::oE 18 10 1::oM 6 17::oM 7 18::[])
(oO 0::oO 1::oO 2::oO 3::oO 4::oO 5::oO 6::oO 7::oO 8::oO 9::oO 10:: []))
(.block 0
(.seq
(.plain (oM 20 7::oo 21 (.un .not (oT 20))::oM 19 21::[]))
(.cond (oT 19)
(.draw (oM 22 0::oo 23 (.df (oT 22))::oF 24 0 23::oL 25 24::oo 26 (.load true 32 (oT 5))::oM 27 1::oo 28 (.bu 23 [(oT 27)])::on (.BS [(32,.int .u8)] (oT 25) (oT 26) (oT 28))::[])
(oO 0::oO 1::oO 2::oO 3::oO 4::oO 5::⟨6,[],[3,4]⟩::oO 7:: []))
(.seq
(.plain (oM 30 0::oo 31 (.df (oT 30))::oF 32 3 31::oL 33 32::oo 34 (.un .not (oT 33))::oM 35 34::og 35 true 36 (.mv (oT 6))::og 35 true 37 (.mv (oT 1))::og 35 true 38 (.bu 140 [(oT 36),(oT 37)])::og 35 true 39 (.un .not (oT 38))::oo 40 (.pick (oT 35) (oT 39) oN)::oM 29 40::[]))
(.cond (oT 29)
(.plain (oM 41 0::oM 42 0::oM 43 0::oM 44 6::oM 45 1::oo 46 (.bu 23 [(oT 45)])::oo 47 (.df (oT 41))::oF 48 1 47::on (.store 1 (oT 48) (oT 44))::oo 49 (.df (oT 42))::oF 50 2 49::on (.store 1 (oT 50) (oT 46))::oo 51 (.df (oT 43))::oF 52 3 51::on (.store 1 (oT 52) oY)::[]))
.skip))))))
(.seq
(.plain (oo 53 (.load true 32 (oT 5))::on (.store 32 (oT 4) (oT 53))::[]))
.ret))))
theorem adB:cU Tryz.prog 0 99=some F99:=by kernel_rfl
def agC:cT where
 ntmps:=8
 nparams:=1
 results:= [(2,none)]
 code:=
(.seq
(.plain (oo 2 (.mv oZ)::[]))
(.seq
(.seq
(.plain (oM 3 0::oo 4 (.wX false (oT 3))::[]))
(.cond (oT 4)
(.seq
(.plain (oo 2 (.mv oZ)::[]))
.ret)
.skip))
(.seq
(.plain (oo 5 (.gL 37 [])::oM 6 0::oo 7 (.app 37 120 (oT 5) (oT 6))::oM 2 7::[]))
.ret)))
theorem a9n:cU Tryz.prog 0 100=some agC:=by kernel_rfl
def agD:cT where
 ntmps:=17
 nparams:=2
 results:= [(4,none)]
 code:=
(.seq
(.plain (oo 2 (.box 32 (oT 0))::oo 3 (.box 32 (oT 1))::oo 4 (.mv oN)::[]))
(.seq
(.plain (oF 5 0 2::oL 6 5::oF 7 0 3::oL 8 7::oo 9 (.bu 32 [(oT 6),(oT 8)])::oM 10 9::og 10 true 11 (.fa 1 (oT 2))::og 10 true 12 (.load false 1 (oT 11))::og 10 true 13 (.fa 1 (oT 3))::og 10 true 14 (.load false 1 (oT 13))::og 10 true 15 (.bu 32 [(oT 12),(oT 14)])::oo 16 (.pick (oT 10) (oT 15) oN)::oM 4 16::[]))
.ret))
theorem a9o:cU Tryz.prog 0 101=some agD:=by kernel_rfl
def agE:cT where
 ntmps:=35
 nparams:=1
 results:= [(2,none)]
 code:=
(.seq
(.plain (oo 2 (.mv oZ)::[]))
(.seq
(.plain (oM 7 0::oD 8 .quo 7 4::oM 3 8::[]))
(.seq
(.seq
(.plain (oM 9 3::oo 10 (.bin .mul (oC 4) (oT 9))::oM 11 0::oB 12 .lss 10 11::[]))
(.cond (oT 12)
(.plain (oM 13 3::oD 14 .add 13 1::oM 3 14::[]))
.skip))
(.seq
(.plain (oo 4 (.mv oZ)::[]))
(.seq
(.seq
(.plain (oo 5 (.mv (oC 0))::[]))
(.block 0
(.loop
(.seq
(.seq
(.plain (oM 15 5::oM 16 3::oB 17 .lss 15 16::[]))
(.cond (oT 17)
.skip
(.exit 0)))
(.seq
(.block 1
(.seq
(.plain (oM 20 0::oM 21 3::oB 22 .quo 20 21::oM 6 22::[]))
(.seq
(.seq
(.plain (oM 23 5::oM 24 0::oM 25 3::oB 26 .rem 24 25::oB 27 .lss 23 26::[]))
(.cond (oT 27)
(.plain (oM 28 6::oD 29 .add 28 1::oM 6 29::[]))
.skip))
(.plain (oM 30 4::oM 31 6::oo 32 (.gL 1 [(oT 31)])::oo 33 (.app 1 8 (oT 30) (oT 32))::oM 4 33::[])))))
(.plain (oM 18 5::oD 19 .add 18 1::oM 5 19::[])))))))
(.seq
(.plain (oM 34 4::oM 2 34::[]))
.ret))))))
theorem a9p:cU Tryz.prog 0 108=some agE:=by kernel_rfl
def agF:cT where
 ntmps:=7
 nparams:=1
 results:= [(2,none)]
 code:=
(.seq
(.plain (oo 2 (.mv oZ)::[]))
(.seq
(.plain (oM 3 0::oo 4 (.bu 13 [(oT 3)])::oo 5 (.kA 1 (oT 4) (oC 0))::oL 6 5::oM 2 6::[]))
.ret))
theorem a9q:cU Tryz.prog 0 109=some agF:=by kernel_rfl
def agG:cT where
 ntmps:=11
 nparams:=1
 results:= [(2,none)]
 code:=
(.seq
(.plain (oo 1 (.box 100 (oT 0))::oo 2 (.mv oN)::[]))
(.seq
(.plain (oF 3 1 1::oL 4 3::oK 5 4::oF 6 2 1::oL 7 6::oK 8 7::oB 9 .add 5 8::oD 10 .lss 9 2::oM 2 10::[]))
.ret))
theorem a9r:cU Tryz.prog 0 110=some agG:=by kernel_rfl
def agH:cT where
 ntmps:=32
 nparams:=3
 results:= [(6,none),(7,none)]
 code:=
(.seq
(.plain (oo 3 (.box 85 (oT 0))::oo 4 (.box 100 (oT 1))::oo 5 (.box 100 (oT 2))::oo 6 (.mv oZ)::oo 7 (.mv (oC 0))::[]))
(.seq
(.seq
(.plain (oF 8 0 4::oL 9 8::[]))
(.cond (oT 9)
(.seq
(.draw (oF 10 1 4::oL 11 10::oF 12 1 5::oL 13 12::oo 14 (.gL 1 [(oT 11),(oT 13)])::oo 15 (.bu 143 [(oT 14)])::oo 16 (.load true 2 (oT 3))::oo 17 (.eU 36 [(oT 16)] [])::oo 18 (.bu 67 [(oT 15),(oT 17)])::oE 19 18 0::oE 20 18 1::oM 6 19::oM 7 20::[])
(oO 0::oO 1::oO 2::oO 3::oO 6::oO 7::oO 4::⟨5,[],[6]⟩::oO 8::oO 9::oO 10::oO 11::oO 12:: []))
.ret)
.skip))
(.seq
(.draw (oF 21 2 4::oL 22 21::oF 23 2 5::oL 24 23::oo 25 (.gL 1 [(oT 22),(oT 24)])::oo 26 (.bu 144 [(oT 25)])::oo 27 (.load true 2 (oT 3))::oo 28 (.eU 62 [(oT 27)] [])::oo 29 (.bu 70 [(oT 26),(oT 28)])::oE 30 29 0::oE 31 29 1::oM 6 30::oM 7 31::[])
(oO 0::oO 1::oO 2::oO 3::oO 6::oO 7::oO 4::⟨5,[],[6]⟩::oO 8::oO 9::oO 10::oO 11::oO 12:: []))
.ret)))
theorem a9s:cU Tryz.prog 0 111=some agH:=by kernel_rfl
def agI:cT where
 ntmps:=74
 nparams:=2
 results:= [(4,(some (true,3))),(5,none)]
 code:=
(.seq
(.plain (oo 4 (.alloc 121 [(.v (.int .u8 0)),(.sl [] .nil),(.sl [] .nil)])::oo 5 (.mv (oC 0))::[]))
(.seq
(.plain (oM 11 0::oo 12 (.bu 145 [(oT 11)])::oM 6 12::[]))
(.seq
(.plain (oM 13 6::oo 14 (.bu 146 [(oT 13)])::oo 15 (.gf [(.v (.int .u8 0)),(.sl [] .nil),(.sl [] .nil)] [(0,1,(oT 14))])::oo 7 (.alloc 121 [(.v (.int .u8 0)),(.sl [] .nil),(.sl [] .nil)])::on (.store 3 (oT 7) (oT 15))::[]))
(.seq
(.seq
(.plain (oM 16 6::oo 17 (.bu 146 [(oT 16)])::oo 18 (.jF .i64 (oT 17))::oo 19 (.mv (oC 0))::[]))
(.block 0
(.loop
(.seq
(.plain (oB 20 .lss 19 18::[]))
(.seq
(.cond (oT 20)
.skip
(.exit 0))
(.seq
(.block 1
(.seq
(.plain (oM 21 6::oo 22 (.bu 147 [(oT 21)])::oM 8 22::[]))
(.draw (oF 23 1 7::oL 24 23::oM 25 6::oM 26 1::oo 27 (.bu 148 [(oT 25),(oT 26)])::oM 28 8::oo 29 (.gf [(.sl [] .nil),(.v (.bool false))] [(0,1,(oT 27)),(1,1,(oT 28))])::oo 30 (.qw 2 [(oT 29)])::oo 31 (.nh 2 32 (oT 24) (oT 30))::oF 32 1 7::on (.store 1 (oT 32) (oT 31))::[])
(oO 0::oO 1::oO 2::oO 3::oO 5::⟨4,[],[1]⟩::oO 6::oO 7::oO 8::oO 9::oO 10:: []))))
(.plain (oD 33 .add 19 1::oM 19 33::[]))))))))
(.seq
(.seq
(.plain (oM 34 6::oo 35 (.bu 146 [(oT 34)])::oo 36 (.jF .i64 (oT 35))::oo 37 (.mv (oC 0))::[]))
(.block 2
(.loop
(.seq
(.plain (oB 38 .lss 37 36::[]))
(.seq
(.cond (oT 38)
.skip
(.exit 2))
(.seq
(.block 3
(.draw (oF 39 2 7::oL 40 39::oM 41 6::oM 42 1::oo 43 (.bu 149 [(oT 41),(oT 42)])::oo 44 (.qw 37 [(oT 43)])::oo 45 (.nh 37 120 (oT 40) (oT 44))::oF 46 2 7::on (.store 1 (oT 46) (oT 45))::[])
(oO 0::oO 1::oO 2::oO 3::⟨4,[],[1]⟩::oO 5::oO 6::oO 7::oO 8:: [])))
(.plain (oD 47 .add 37 1::oM 37 47::[]))))))))
(.seq
(.seq
(.plain (oM 48 6::oo 49 (.bu 150 [(oT 48)])::oD 50 .neq 49 0::oM 51 50::og 51 false 52 (.load true 3 (oT 7))::og 51 false 53 (.mv (oT 1))::og 51 false 54 (.bu 132 [(oT 52),(oT 53)])::og 51 false 55 (.un .not (oT 54))::oo 56 (.pick (oT 51) oY (oT 55))::[]))
(.cond (oT 56)
(.seq
(.plain (oo 57 (.gf [(.v (.int .u8 0)),(.sl [] .nil),(.sl [] .nil)] [])::on (.store 3 (oT 4) (oT 57))::oo 5 (.mv (oC 21))::[]))
.ret)
.skip))
(.seq
(.seq
(.plain (oo 59 (.load true 3 (oT 7))::oM 60 1::oo 61 (.bu 98 [(oT 59),(oT 60)])::oM 58 61::oE 62 58 0::oE 63 58 1::oM 9 62::oM 10 63::[]))
(.seq
(.plain (oM 64 10::oD 65 .neq 64 0::oM 66 65::og 66 false 67 (.mv (oT 9))::og 66 false 68 (.mv (oT 0))::og 66 false 69 (.bu 151 [(oT 67),(oT 68)])::og 66 false 70 (.un .not (oT 69))::oo 71 (.pick (oT 66) oY (oT 70))::[]))
(.cond (oT 71)
(.seq
(.plain (oo 72 (.gf [(.v (.int .u8 0)),(.sl [] .nil),(.sl [] .nil)] [])::on (.store 3 (oT 4) (oT 72))::oo 5 (.mv (oC 21))::[]))
.ret)
.skip)))
(.seq
(.plain (oo 73 (.load true 3 (oT 7))::on (.store 3 (oT 4) (oT 73))::oo 5 (.mv (oC 0))::[]))
.ret))))))))
theorem a9t:cU Tryz.prog 1 112=some agI:=by kernel_rfl
def agJ:cT where
 ntmps:=20
 nparams:=2
 results:= [(4,none)]
 code:=
(.seq
(.plain (oo 4 (.mv oN)::[]))
(.seq
(.seq
(.plain (oM 5 0::oK 6 5::oM 7 1::oK 8 7::oB 9 .neq 6 8::[]))
(.cond (oT 9)
(.seq
(.plain (oM 10 0::oK 11 10::oM 12 1::oK 13 12::oB 14 .lss 11 13::oM 4 14::[]))
.ret)
.skip))
(.seq
(.plain (oM 15 0::oo 16 (.D9 (oT 15))::oM 17 1::oo 18 (.D9 (oT 17))::oB 19 .lss 16 18::oM 4 19::[]))
.ret)))
theorem a9u:cU Tryz.prog 0 113=some agJ:=by kernel_rfl
def agK:cT where
 ntmps:=6
 nparams:=1
 results:= [(2,none)]
 code:=
(.seq
(.plain (oo 2 (.mv oZ)::[]))
(.seq
(.plain (oM 3 0::oo 4 (.bu 153 [(oT 3)])::oo 5 (.bu 152 [(oT 4)])::oM 2 5::[]))
.ret))
theorem a9v:cU Tryz.prog 0 114=some agK:=by kernel_rfl
def agL:cT where
 ntmps:=6
 nparams:=1
 results:= [(2,(some (true,32)))]
 code:=
(.seq
(.plain (oo 2 (.alloc 28 (List.replicate 32 (.v (.int .u8 0))))::[]))
(.seq
(.plain (oM 3 0::oo 4 (.bu 159 [(oT 3)])::oo 5 (.bu 158 [(oT 4)])::on (.store 32 (oT 2) (oT 5))::[]))
.ret))
theorem a9w:cU Tryz.prog 0 128=some agL:=by kernel_rfl
def agM:cT where
 ntmps:=88
 nparams:=2
 results:= [(4,(some (true,2)))]
 code:=
(.seq
(.plain (oo 2 (.box 32 (oT 0))::oo 3 (.box 32 (oT 1))::oo 4 (.alloc 32 [(.sl [] .nil),(.sl [] .nil)])::[]))
(.seq
(.draw (oo 9 (.load true 2 (oT 2))::oF 10 0 2::oL 11 10::oK 12 11::oo 13 (.bu 160 [(oT 9),(oT 12)])::oo 14 (.load true 2 (oT 3))::oF 15 0 3::oL 16 15::oK 17 16::oo 18 (.bu 160 [(oT 14),(oT 17)])::oM 5 13::oM 6 18::[])
(oO 0::oO 1::oO 2::oO 3::oO 5::oO 6::oO 7::oO 8::⟨4,[],[5,7]⟩::oO 9::oO 10::oO 11:: []))
(.seq
(.block 0
(.seq
(.plain (oM 20 5::oM 21 20::og 21 true 22 (.mv (oT 6))::og 21 true 23 (.un .not (oT 22))::oo 24 (.pick (oT 21) (oT 23) oN)::oM 19 24::[]))
(.cond (oT 19)
(.seq
(.plain (oo 25 (.load true 2 (oT 2))::oo 26 (.bu 161 [(oT 25)])::on (.store 2 (oT 4) (oT 26))::[]))
.ret)
(.seq
(.plain (oM 28 6::oM 29 28::og 29 true 30 (.mv (oT 5))::og 29 true 31 (.un .not (oT 30))::oo 32 (.pick (oT 29) (oT 31) oN)::oM 27 32::[]))
(.cond (oT 27)
(.seq
(.plain (oo 33 (.load true 2 (oT 3))::oo 34 (.bu 161 [(oT 33)])::on (.store 2 (oT 4) (oT 34))::[]))
.ret)
(.seq
(.plain (oM 36 5::oo 37 (.un .not (oT 36))::oM 38 37::og 38 false 39 (.fa 0 (oT 2))::og 38 false 40 (.load false 1 (oT 39))::og 38 false 41 (.len (oT 40))::og 38 false 42 (.fa 0 (oT 3))::og 38 false 43 (.load false 1 (oT 42))::og 38 false 44 (.len (oT 43))::og 38 false 45 (.bin .neq (oT 41) (oT 44))::oo 46 (.pick (oT 38) oY (oT 45))::oM 35 46::[]))
(.cond (oT 35)
(.seq
(.plain (oo 47 (.gf [(.sl [] .nil),(.sl [] .nil)] [])::on (.store 2 (oT 4) (oT 47))::[]))
.ret)
.skip)))))))
(.seq
(.plain (oo 48 (.load true 2 (oT 2))::oo 49 (.bu 161 [(oT 48)])::oo 7 (.alloc 32 [(.sl [] .nil),(.sl [] .nil)])::on (.store 2 (oT 7) (oT 49))::[]))
(.seq
(.seq
(.plain (oF 50 0 7::oL 51 50::oK 52 51::oo 53 (.mv (oC 0))::[]))
(.block 1
(.loop
(.seq
(.plain (oB 54 .lss 53 52::[]))
(.seq
(.cond (oT 54)
.skip
(.exit 1))
(.seq
(.block 2
(.seq
(.plain (oM 55 53::oM 8 55::[]))
(.draw (oF 56 0 7::oL 57 56::oM 58 8::oF 59 1 7::oL 60 59::oM 61 8::oF 62 0 2::oL 63 62::oM 64 8::oI 65 1 63 64::oL 66 65::oF 67 0 3::oL 68 67::oM 69 8::oI 70 1 68 69::oL 71 70::oo 72 (.mm false .i64 (oT 66) (oT 71))::oF 73 1 2::oL 74 73::oM 75 8::oI 76 1 74 75::oL 77 76::oF 78 1 3::oL 79 78::oM 80 8::oI 81 1 79 80::oL 82 81::oo 83 (.mm true .i64 (oT 77) (oT 82))::oI 84 1 57 58::on (.store 1 (oT 84) (oT 72))::oI 85 1 60 61::on (.store 1 (oT 85) (oT 83))::[])
(oO 0::oO 1::oO 2::oO 3::oO 4::oO 5::oO 6::oO 7::oO 8::oO 9::oO 10::oO 11::oO 12::oO 13::oO 14::oO 15::oO 16::oO 17::oO 18::oO 19::oO 20::oO 21::oO 22::oO 23::oO 24::oO 25::oO 26::oO 27::oO 28::⟨29,[],[4]⟩::oO 30::oO 31:: []))))
(.plain (oD 86 .add 53 1::oM 53 86::[]))))))))
(.seq
(.plain (oo 87 (.load true 2 (oT 7))::on (.store 2 (oT 4) (oT 87))::[]))
.ret))))))
theorem a9x:cU Tryz.prog 1 129=some agM:=by kernel_rfl
def agN:cT where
 ntmps:=17
 nparams:=1
 results:= [(2,(some (true,2)))]
 code:=
(.seq
(.plain (oo 2 (.alloc 32 [(.sl [] .nil),(.sl [] .nil)])::[]))
(.seq
(.seq
(.plain (oM 3 0::oK 4 3::oD 5 .lss 4 1::oM 6 5::og 6 false 7 (.mv (oT 0))::og 6 false 8 (.len (oT 7))::og 6 false 9 (.bin .gtr (oT 8) (oC 8))::oo 10 (.pick (oT 6) oY (oT 9))::[]))
(.cond (oT 10)
(.seq
(.plain (oo 11 (.gf [(.sl [] .nil),(.sl [] .nil)] [])::on (.store 2 (oT 2) (oT 11))::[]))
.ret)
.skip))
(.seq
(.plain (oM 12 0::oo 13 (.bu 131 [(oT 12)])::oM 14 0::oo 15 (.bu 131 [(oT 14)])::oo 16 (.gf [(.sl [] .nil),(.sl [] .nil)] [(0,1,(oT 13)),(1,1,(oT 15))])::on (.store 2 (oT 2) (oT 16))::[]))
.ret)))
theorem a9y:cU Tryz.prog 0 130=some agN:=by kernel_rfl
def agO:cT where
 ntmps:=8
 nparams:=1
 results:= [(2,none)]
 code:=
(.seq
(.plain (oo 2 (.mv oZ)::[]))
(.seq
(.seq
(.plain (oM 3 0::oo 4 (.wX false (oT 3))::[]))
(.cond (oT 4)
(.seq
(.plain (oo 2 (.mv oZ)::[]))
.ret)
.skip))
(.seq
(.plain (oo 5 (.qw 1 [])::oM 6 0::oo 7 (.nh 1 8 (oT 5) (oT 6))::oM 2 7::[]))
.ret)))
theorem a9z:cU Tryz.prog 1 131=some agO:=by kernel_rfl
def agP:cT where
 ntmps:=91
 nparams:=2
 results:= [(4,none)]
 code:=
(.seq
(.plain (oo 2 (.box 121 (oT 0))::oo 3 (.box 3 (oT 1))::oo 4 (.mv oN)::[]))
(.seq
(.seq
(.plain (oL 5 3::oD 6 .lss 5 1::oM 7 6::og 7 false 8 (.load false 1 (oT 3))::og 7 false 9 (.bin .gtr (oT 8) (oC 8))::oo 10 (.pick (oT 7) oY (oT 9))::oM 11 10::og 11 false 12 (.fa 1 (oT 2))::og 11 false 13 (.load false 1 (oT 12))::og 11 false 14 (.eU 163 [] [(oT 3)])::og 11 false 15 (.bu 162 [(oT 13),(oT 14)])::og 11 false 16 (.un .not (oT 15))::oo 17 (.pick (oT 11) oY (oT 16))::oM 18 17::og 18 false 19 (.fa 2 (oT 2))::og 18 false 20 (.load false 1 (oT 19))::og 18 false 21 (.eU 165 [] [(oT 3)])::og 18 false 22 (.bu 164 [(oT 20),(oT 21)])::og 18 false 23 (.un .not (oT 22))::oo 24 (.pick (oT 18) oY (oT 23))::[]))
(.cond (oT 24)
(.seq
(.plain (oo 4 (.mv oN)::[]))
.ret)
.skip))
(.seq
(.seq
(.plain (oF 25 0 2::oL 26 25::[]))
(.block 0
(.seq
(.plain (oo 28 (.bin .eql (oT 26) (.const (.int .u8 1)))::oM 27 28::[]))
(.cond (oT 27)
(.seq
(.plain (oF 29 1 2::oL 30 29::oK 31 30::oD 32 .eql 31 1::oM 33 32::og 33 true 34 (.fa 2 (oT 2))::og 33 true 35 (.load false 1 (oT 34))::og 33 true 36 (.len (oT 35))::og 33 true 37 (.bin .eql (oT 36) (oC 2))::oo 38 (.pick (oT 33) (oT 37) oN)::oM 39 38::og 39 true 40 (.fa 2 (oT 2))::og 39 true 41 (.load false 1 (oT 40))::og 39 true 42 (.bu 164 [(oT 41),(.func 167)])::oo 43 (.pick (oT 39) (oT 42) oN)::oM 4 43::[]))
.ret)
(.seq
(.plain (oo 45 (.bin .eql (oT 26) (.const (.int .u8 2)))::oM 44 45::[]))
(.cond (oT 44)
(.seq
(.plain (oF 46 1 2::oL 47 46::oK 48 47::oD 49 .geq 48 1::oM 50 49::og 50 true 51 (.fa 1 (oT 2))::og 50 true 52 (.load false 1 (oT 51))::og 50 true 53 (.len (oT 52))::og 50 true 54 (.bin .leq (oT 53) (oC 4))::oo 55 (.pick (oT 50) (oT 54) oN)::oM 56 55::og 56 true 57 (.fa 2 (oT 2))::og 56 true 58 (.load false 1 (oT 57))::og 56 true 59 (.len (oT 58))::og 56 true 60 (.bin .eql (oT 59) (oC 0))::oo 61 (.pick (oT 56) (oT 60) oN)::oM 62 61::og 62 true 63 (.fa 1 (oT 2))::og 62 true 64 (.load false 1 (oT 63))::og 62 true 65 (.bu 162 [(oT 64),(.func 168)])::oo 66 (.pick (oT 62) (oT 65) oN)::oM 4 66::[]))
.ret)
(.seq
(.plain (oo 68 (.bin .eql (oT 26) (.const (.int .u8 3)))::oM 67 68::[]))
(.cond (oT 67)
(.seq
(.plain (oF 69 1 2::oL 70 69::oK 71 70::oD 72 .eql 71 0::oM 73 72::og 73 true 74 (.fa 2 (oT 2))::og 73 true 75 (.load false 1 (oT 74))::og 73 true 76 (.len (oT 75))::og 73 true 77 (.bin .geq (oT 76) (oC 2))::oo 78 (.pick (oT 73) (oT 77) oN)::oM 79 78::og 79 true 80 (.fa 2 (oT 2))::og 79 true 81 (.load false 1 (oT 80))::og 79 true 82 (.len (oT 81))::og 79 true 83 (.bin .leq (oT 82) (oC 4))::oo 84 (.pick (oT 79) (oT 83) oN)::oM 85 84::og 85 true 86 (.fa 2 (oT 2))::og 85 true 87 (.load false 1 (oT 86))::og 85 true 88 (.eU 169 [] [(oT 3)])::og 85 true 89 (.bu 164 [(oT 87),(oT 88)])::oo 90 (.pick (oT 85) (oT 89) oN)::oM 4 90::[]))
.ret)
.skip))))))))
(.seq
(.plain (oo 4 (.mv oN)::[]))
.ret))))
theorem a9A:cU Tryz.prog 0 132=some agP:=by kernel_rfl
def agQ:cT where
 ntmps:=8
 nparams:=2
 results:= []
 code:=
(.plain (oM 4 0::oM 5 1::oo 6 (.gL 1 [(oT 5)])::oo 7 (.bu 170 [(oT 4),oY,(oT 6)])::[]))
theorem a9B:cU Tryz.prog 0 133=some agQ:=by kernel_rfl
def agR:cT where
 ntmps:=9
 nparams:=2
 results:= []
 code:=
(.seq
(.seq
(.plain (oM 4 1::[]))
(.cond (oT 4)
(.seq
(.plain (oM 5 0::oo 6 (.bu 133 [(oT 5),(.const (.int .u8 1))])::[]))
.ret)
.skip))
(.plain (oM 7 0::oo 8 (.bu 133 [(oT 7),(.const (.int .u8 0))])::[])))
theorem a9C:cU Tryz.prog 0 134=some agR:=by kernel_rfl
def agS:cT where
 ntmps:=27
 nparams:=2
 results:= []
 code:=
(.seq
(.seq
(.plain (oM 6 1::oK 7 6::oD 8 .gtr 7 255::[]))
(.cond (oT 8)
(.seq
(.plain (oM 9 0::oo 10 (.df (oT 9))::oF 11 1 10::on (.store 1 (oT 11) (oC 10))::[]))
.ret)
.skip))
(.seq
(.plain (oM 12 0::oM 13 1::oK 14 13::oo 15 (.jF .u8 (oT 14))::oo 16 (.bu 133 [(oT 12),(oT 15)])::[]))
(.seq
(.plain (oM 17 1::oK 18 17::oo 19 (.mv (oC 0))::[]))
(.block 0
(.loop
(.seq
(.plain (oB 20 .lss 19 18::[]))
(.seq
(.cond (oT 20)
.skip
(.exit 0))
(.seq
(.block 1
(.seq
(.plain (oI 21 1 17 19::oL 22 21::oM 5 22::[]))
(.plain (oM 23 0::oM 24 5::oo 25 (.bu 171 [(oT 23),(oT 24)])::[]))))
(.plain (oD 26 .add 19 1::oM 19 26::[]))))))))))
theorem a9D:cU Tryz.prog 0 135=some agS:=by kernel_rfl
def agT:cT where
 ntmps:=7
 nparams:=2
 results:= []
 code:=
(.seq
(.plain (oo 3 (.yX 28 (oT 1))::[]))
(.plain (oM 4 0::oo 5 (.yY 1 32 (oT 3) none none)::oo 6 (.bu 170 [(oT 4),oY,(oT 5)])::[])))
theorem a9E:cU Tryz.prog 0 136=some agT:=by kernel_rfl
def agU:cT where
 ntmps:=21
 nparams:=2
 results:= []
 code:=
(.plain (oM 4 0::oM 5 1::oD 6 .geq 5 0::oM 7 6::og 7 true 8 (.mv (oT 1))::og 7 true 9 (.bin .leq (oT 8) (oC 1048576))::oo 10 (.pick (oT 7) (oT 9) oN)::oM 11 1::oo 12 (.bin .shr (oT 11) (.const (.int .u64 16)))::oo 13 (.jF .u8 (oT 12))::oM 14 1::oo 15 (.bin .shr (oT 14) (.const (.int .u64 8)))::oo 16 (.jF .u8 (oT 15))::oM 17 1::oo 18 (.jF .u8 (oT 17))::oo 19 (.gL 1 [(oT 13),(oT 16),(oT 18)])::oo 20 (.bu 170 [(oT 4),(oT 10),(oT 19)])::[]))
theorem a9F:cU Tryz.prog 0 137=some agU:=by kernel_rfl
def agV:cT where
 ntmps:=13
 nparams:=1
 results:= [(2,none)]
 code:=
(.seq
(.plain (oo 2 (.mv oZ)::[]))
(.seq
(.seq
(.plain (oM 3 0::oo 4 (.df (oT 3))::oF 5 1 4::oL 6 5::oD 7 .neq 6 0::[]))
(.cond (oT 7)
(.seq
(.plain (oo 2 (.mv oZ)::[]))
.ret)
.skip))
(.seq
(.plain (oM 8 0::oo 9 (.df (oT 8))::oF 10 0 9::oL 11 10::oo 12 (.bu 172 [(oT 11)])::oM 2 12::[]))
.ret)))
theorem a9G:cU Tryz.prog 0 138=some agV:=by kernel_rfl
def agW:cT where
 ntmps:=7
 nparams:=1
 results:= [(2,none)]
 code:=
(.seq
(.plain (oo 2 (.mv (oC 0))::[]))
(.seq
(.plain (oM 3 0::oo 4 (.df (oT 3))::oF 5 1 4::oL 6 5::oM 2 6::[]))
.ret))
theorem a9H:cU Tryz.prog 0 139=some agW:=by kernel_rfl
def agX:cT where
 ntmps:=10
 nparams:=2
 results:= [(4,none)]
 code:=
(.seq
(.plain (oo 4 (.mv oN)::[]))
(.seq
(.plain (oM 5 0::oo 6 (.D9 (oT 5))::oM 7 1::oo 8 (.D9 (oT 7))::oB 9 .eql 6 8::oM 4 9::[]))
.ret))
theorem a9I:cU Tryz.prog 0 140=some agX:=by kernel_rfl
def agY:cT where
 ntmps:=36
 nparams:=1
 results:= [(2,none)]
 code:=
(.seq
(.plain (oo 2 (.mv oZ)::[]))
(.seq
(.plain (oo 3 (.mv (oC 0))::[]))
(.seq
(.seq
(.plain (oM 9 0::oK 10 9::oo 11 (.mv (oC 0))::[]))
(.block 0
(.loop
(.seq
(.plain (oB 12 .lss 11 10::[]))
(.seq
(.cond (oT 12)
.skip
(.exit 0))
(.seq
(.block 1
(.seq
(.plain (oI 13 1 9 11::oL 14 13::oM 5 14::[]))
(.seq
(.plain (oM 15 3::oM 16 5::oK 17 16::oB 18 .add 15 17::oM 3 18::[]))
(.seq
(.plain (oM 19 3::oD 20 .lss 19 0::[]))
(.cond (oT 20)
(.plain (oo 21 (.Db 9 (.const (.string ⟨#[108,101,110,32,111,117,116,32,111,102,32,114,97,110,103,101]⟩)))::on (.zp (oT 21))::[]))
.skip)))))
(.plain (oD 22 .add 11 1::oM 11 22::[]))))))))
(.seq
(.plain (oM 23 3::oo 24 (.bu 175 [oZ,(oT 23)])::oM 6 24::[]))
(.seq
(.seq
(.plain (oM 25 0::oK 26 25::oo 27 (.mv (oC 0))::[]))
(.block 2
(.loop
(.seq
(.plain (oB 28 .lss 27 26::[]))
(.seq
(.cond (oT 28)
.skip
(.exit 2))
(.seq
(.block 3
(.seq
(.plain (oI 29 1 25 27::oL 30 29::oM 8 30::[]))
(.plain (oM 31 6::oM 32 8::oo 33 (.nh 1 24 (oT 31) (oT 32))::oM 6 33::[]))))
(.plain (oD 34 .add 27 1::oM 27 34::[]))))))))
(.seq
(.plain (oM 35 6::oM 2 35::[]))
.ret))))))
theorem a9J:cU Tryz.prog 1 143=some agY:=by kernel_rfl
def agZ:cT where
 ntmps:=36
 nparams:=1
 results:= [(2,none)]
 code:=
(.seq
(.plain (oo 2 (.mv oZ)::[]))
(.seq
(.plain (oo 3 (.mv (oC 0))::[]))
(.seq
(.seq
(.plain (oM 9 0::oK 10 9::oo 11 (.mv (oC 0))::[]))
(.block 0
(.loop
(.seq
(.plain (oB 12 .lss 11 10::[]))
(.seq
(.cond (oT 12)
.skip
(.exit 0))
(.seq
(.block 1
(.seq
(.plain (oI 13 1 9 11::oL 14 13::oM 5 14::[]))
(.seq
(.plain (oM 15 3::oM 16 5::oK 17 16::oB 18 .add 15 17::oM 3 18::[]))
(.seq
(.plain (oM 19 3::oD 20 .lss 19 0::[]))
(.cond (oT 20)
(.plain (oo 21 (.Db 9 (.const (.string ⟨#[108,101,110,32,111,117,116,32,111,102,32,114,97,110,103,101]⟩)))::on (.zp (oT 21))::[]))
.skip)))))
(.plain (oD 22 .add 11 1::oM 11 22::[]))))))))
(.seq
(.plain (oM 23 3::oo 24 (.bu 176 [oZ,(oT 23)])::oM 6 24::[]))
(.seq
(.seq
(.plain (oM 25 0::oK 26 25::oo 27 (.mv (oC 0))::[]))
(.block 2
(.loop
(.seq
(.plain (oB 28 .lss 27 26::[]))
(.seq
(.cond (oT 28)
.skip
(.exit 2))
(.seq
(.block 3
(.seq
(.plain (oI 29 1 25 27::oL 30 29::oM 8 30::[]))
(.plain (oM 31 6::oM 32 8::oo 33 (.nh 37 120 (oT 31) (oT 32))::oM 6 33::[]))))
(.plain (oD 34 .add 27 1::oM 27 34::[]))))))))
(.seq
(.plain (oM 35 6::oM 2 35::[]))
.ret))))))
theorem a9K:cU Tryz.prog 1 144=some agZ:=by kernel_rfl
def ah0:cT where
 ntmps:=7
 nparams:=1
 results:= [(2,none)]
 code:=
(.seq
(.plain (oo 2 (.mv oP)::[]))
(.seq
(.plain (oM 3 0::oo 4 (.bu 172 [(oT 3)])::oo 5 (.gf [(.sl [] .nil),(.v (.int .i64 0))] [(0,1,(oT 4))])::oo 6 (.box 227 (oT 5))::oM 2 6::[]))
.ret))
theorem a9L:cU Tryz.prog 0 145=some ah0:=by kernel_rfl
def ah1:cT where
 ntmps:=15
 nparams:=1
 results:= [(2,none)]
 code:=
(.seq
(.plain (oo 2 (.mv (.const (.int .u8 0)))::[]))
(.seq
(.plain (oM 6 0::oo 7 (.bu 177 [(oT 6),(oC 1)])::oM 5 7::oE 8 5 0::oE 9 5 1::oM 3 8::oM 4 9::[]))
(.seq
(.seq
(.plain (oM 10 4::oo 11 (.un .not (oT 10))::[]))
(.cond (oT 11)
(.seq
(.plain (oo 2 (.mv (.const (.int .u8 0)))::[]))
.ret)
.skip))
(.seq
(.plain (oM 12 3::oo 13 (.kA 1 (oT 12) (oC 0))::oL 14 13::oM 2 14::[]))
.ret))))
theorem a9M:cU Tryz.prog 0 146=some ah1:=by kernel_rfl
def ah2:cT where
 ntmps:=12
 nparams:=1
 results:= [(2,none)]
 code:=
(.seq
(.plain (oo 2 (.mv oN)::[]))
(.seq
(.plain (oM 4 0::oo 5 (.bu 146 [(oT 4)])::oM 3 5::[]))
(.seq
(.seq
(.plain (oM 6 3::oo 7 (.bin .gtr (oT 6) (.const (.int .u8 1)))::[]))
(.cond (oT 7)
(.plain (oM 8 0::oo 9 (.bu 178 [(oT 8),(oC 21)])::[]))
.skip))
(.seq
(.plain (oM 10 3::oo 11 (.bin .eql (oT 10) (.const (.int .u8 1)))::oM 2 11::[]))
.ret))))
theorem a9N:cU Tryz.prog 0 147=some ah2:=by kernel_rfl
def ah3:cT where
 ntmps:=37
 nparams:=2
 results:= [(4,none)]
 code:=
(.seq
(.plain (oo 4 (.mv oZ)::[]))
(.seq
(.plain (oM 8 0::oo 9 (.bu 146 [(oT 8)])::oo 10 (.jF .i64 (oT 9))::oM 5 10::[]))
(.seq
(.seq
(.plain (oM 11 5::oM 12 1::oB 13 .gtr 11 12::[]))
(.cond (oT 13)
(.plain (oM 14 0::oo 15 (.bu 178 [(oT 14),(oC 10)])::[]))
.skip))
(.seq
(.plain (oo 6 (.mv oZ)::[]))
(.seq
(.seq
(.plain (oM 16 5::oo 17 (.mv (oC 0))::[]))
(.block 0
(.loop
(.seq
(.plain (oB 18 .lss 17 16::[]))
(.seq
(.cond (oT 18)
.skip
(.exit 0))
(.seq
(.block 1
(.seq
(.plain (oM 19 0::oo 20 (.bu 179 [(oT 19)])::oM 7 20::[]))
(.seq
(.plain (oM 21 0::oo 22 (.df (oT 21))::oF 23 1 22::oL 24 23::oD 25 .eql 24 0::[]))
(.cond (oT 25)
(.plain (oM 26 6::oM 27 7::oo 28 (.gL 1 [(oT 27)])::oo 29 (.app 1 8 (oT 26) (oT 28))::oM 6 29::[]))
.skip))))
(.plain (oD 30 .add 17 1::oM 17 30::[]))))))))
(.seq
(.seq
(.plain (oM 31 0::oo 32 (.df (oT 31))::oF 33 1 32::oL 34 33::oD 35 .neq 34 0::[]))
(.cond (oT 35)
(.seq
(.plain (oo 4 (.mv oZ)::[]))
.ret)
.skip))
(.seq
(.plain (oM 36 6::oM 4 36::[]))
.ret)))))))
theorem a9O:cU Tryz.prog 0 148=some ah3:=by kernel_rfl
def ah4:cT where
 ntmps:=30
 nparams:=2
 results:= [(4,(some (true,37)))]
 code:=
(.seq
(.plain (oo 4 (.alloc 34 (List.replicate 32 (.v (.int .u8 0))++ [(.sl [] .nil),(.sl [] .nil)]++ [(.v (.int .i64 0)),(.v (.int .i64 0))]++ [(.sl [] .nil)]))::[]))
(.seq
(.plain (oM 6 0::oo 7 (.bu 180 [(oT 6)])::oo 8 (.gf (List.replicate 32 (.v (.int .u8 0))++ [(.sl [] .nil),(.sl [] .nil)]++ [(.v (.int .i64 0)),(.v (.int .i64 0))]++ [(.sl [] .nil)]) [(0,32,(oT 7))])::oo 5 (.alloc 34 (List.replicate 32 (.v (.int .u8 0))++ [(.sl [] .nil),(.sl [] .nil)]++ [(.v (.int .i64 0)),(.v (.int .i64 0))]++ [(.sl [] .nil)]))::on (.store 37 (oT 5) (oT 8))::[]))
(.seq
(.plain (oM 9 0::oo 10 (.bu 181 [(oT 9),(oC 1048576)])::oF 11 34 5::on (.store 1 (oT 11) (oT 10))::[]))
(.seq
(.plain (oM 12 0::oo 13 (.bu 181 [(oT 12),(oC 1048576)])::oF 14 35 5::on (.store 1 (oT 14) (oT 13))::[]))
(.seq
(.plain (oM 15 0::oM 16 1::oo 17 (.bu 148 [(oT 15),(oT 16)])::oF 18 32 5::oF 19 0 18::on (.store 1 (oT 19) (oT 17))::[]))
(.seq
(.plain (oM 20 0::oM 21 1::oo 22 (.bu 148 [(oT 20),(oT 21)])::oF 23 32 5::oF 24 1 23::on (.store 1 (oT 24) (oT 22))::[]))
(.seq
(.plain (oM 25 0::oM 26 1::oo 27 (.bu 148 [(oT 25),(oT 26)])::oF 28 36 5::on (.store 1 (oT 28) (oT 27))::[]))
(.seq
(.plain (oo 29 (.load true 37 (oT 5))::on (.store 37 (oT 4) (oT 29))::[]))
.ret))))))))
theorem a9P:cU Tryz.prog 0 149=some ah4:=by kernel_rfl
def ah5:cT where
 ntmps:=15
 nparams:=1
 results:= [(2,none)]
 code:=
(.seq
(.plain (oo 2 (.mv (oC 0))::[]))
(.seq
(.seq
(.plain (oM 3 0::oo 4 (.df (oT 3))::oF 5 0 4::oL 6 5::oK 7 6::oD 8 .gtr 7 0::[]))
(.cond (oT 8)
(.plain (oM 9 0::oo 10 (.bu 178 [(oT 9),(oC 22)])::[]))
.skip))
(.seq
(.plain (oM 11 0::oo 12 (.df (oT 11))::oF 13 1 12::oL 14 13::oM 2 14::[]))
.ret)))
theorem a9Q:cU Tryz.prog 0 150=some ah5:=by kernel_rfl
def ah6:cT where
 ntmps:=26
 nparams:=2
 results:= [(4,none)]
 code:=
(.seq
(.plain (oo 4 (.mv oN)::[]))
(.seq
(.seq
(.plain (oM 6 0::oK 7 6::oM 8 1::oK 9 8::oB 10 .neq 7 9::[]))
(.cond (oT 10)
(.seq
(.plain (oo 4 (.mv oN)::[]))
.ret)
.skip))
(.seq
(.seq
(.plain (oM 11 0::oK 12 11::oo 13 (.mv (oC 0))::[]))
(.block 0
(.loop
(.seq
(.plain (oB 14 .lss 13 12::[]))
(.seq
(.cond (oT 14)
.skip
(.exit 0))
(.seq
(.block 1
(.seq
(.plain (oM 15 13::oM 5 15::[]))
(.seq
(.draw (oM 16 0::oM 17 5::oI 18 1 16 17::oL 19 18::oM 20 1::oM 21 5::oI 22 1 20 21::oL 23 22::oB 24 .neq 19 23::[])
(oO 0::oO 1::oO 2::oO 3::oO 4::oO 5::oO 6::oO 7::oO 8:: []))
(.cond (oT 24)
(.seq
(.plain (oo 4 (.mv oN)::[]))
.ret)
.skip))))
(.plain (oD 25 .add 13 1::oM 13 25::[]))))))))
(.seq
(.plain (oo 4 (.mv oY)::[]))
.ret))))
theorem a9R:cU Tryz.prog 0 151=some ah6:=by kernel_rfl
def ah7:cT where
 ntmps:=32
 nparams:=1
 results:= [(2,none)]
 code:=
(.seq
(.plain (oo 2 (.mv oZ)::[]))
(.seq
(.plain (oo 3 (.mv oZ)::[]))
(.seq
(.seq
(.plain (oo 4 (.mv (oC 0))::[]))
(.block 0
(.loop
(.seq
(.seq
(.plain (oM 7 4::oD 8 .add 7 7::oM 9 0::oK 10 9::oB 11 .lss 8 10::[]))
(.cond (oT 11)
.skip
(.exit 0)))
(.seq
(.block 1
(.seq
(.plain (oo 5 (.mv (.const (.int .u8 0)))::[]))
(.seq
(.seq
(.plain (oo 6 (.mv (oC 0))::[]))
(.block 2
(.loop
(.seq
(.seq
(.plain (oM 14 6::oD 15 .lss 14 8::[]))
(.cond (oT 15)
.skip
(.exit 2)))
(.seq
(.block 3
(.plain (oM 18 5::oo 19 (.bin .mul (.const (.int .u8 2)) (oT 18))::oM 20 0::oM 21 4::oM 22 6::oB 23 .add 21 22::oI 24 1 20 23::oL 25 24::oB 26 .add 19 25::oM 5 26::[])))
(.plain (oM 16 6::oD 17 .add 16 1::oM 6 17::[])))))))
(.plain (oM 27 3::oM 28 5::oo 29 (.gL 1 [(oT 28)])::oo 30 (.app 1 1 (oT 27) (oT 29))::oM 3 30::[])))))
(.plain (oM 12 4::oD 13 .add 12 8::oM 4 13::[])))))))
(.seq
(.plain (oM 31 3::oM 2 31::[]))
.ret))))
theorem a9S:cU Tryz.prog 0 152=some ah7:=by kernel_rfl
def ah8:cT where
 ntmps:=33
 nparams:=1
 results:= [(2,none)]
 code:=
(.seq
(.plain (oo 2 (.mv oZ)::[]))
(.seq
(.plain (oo 3 (.mv oZ)::[]))
(.seq
(.seq
(.plain (oo 4 (.mv (oC 63))::[]))
(.block 0
(.loop
(.seq
(.seq
(.plain (oM 7 4::oD 8 .geq 7 0::[]))
(.cond (oT 8)
.skip
(.exit 0)))
(.seq
(.block 1
(.seq
(.plain (oo 5 (.mv (oC 0))::[]))
(.block 2
(.loop
(.seq
(.seq
(.plain (oM 11 5::oM 12 0::oK 13 12::oB 14 .lss 11 13::[]))
(.cond (oT 14)
.skip
(.exit 2)))
(.seq
(.block 3
(.seq
(.plain (oM 17 0::oM 18 5::oI 19 1 17 18::oL 20 19::oo 21 (.jF .u64 (oT 20))::oo 22 (.bin .add (oT 21) (.const (.int .u64 9223372036854775808)))::oM 6 22::[]))
(.plain (oM 23 3::oM 24 6::oM 25 4::oo 26 (.jF .u64 (oT 25))::oB 27 .shr 24 26::oo 28 (.bin .rem (oT 27) (.const (.int .u64 2)))::oo 29 (.jF .u8 (oT 28))::oo 30 (.gL 1 [(oT 29)])::oo 31 (.app 1 1 (oT 23) (oT 30))::oM 3 31::[]))))
(.plain (oM 15 5::oD 16 .add 15 1::oM 5 16::[]))))))))
(.plain (oM 9 4::oD 10 .sub 9 1::oM 4 10::[])))))))
(.seq
(.plain (oM 32 3::oM 2 32::[]))
.ret))))
theorem a9T:cU Tryz.prog 0 153=some ah8:=by kernel_rfl
def ah9:cT where
 ntmps:=10
 nparams:=1
 results:= [(2,(some (true,32)))]
 code:=
(.seq
(.plain (oo 2 (.alloc 28 (List.replicate 32 (.v (.int .u8 0))))::[]))
(.seq
(.plain (oo 4 (.bu 183 [])::oM 3 4::[]))
(.seq
(.plain (oM 5 3::oM 6 0::oo 7 (.bu 184 [(oT 5),(oT 6)])::[]))
(.seq
(.plain (oM 8 3::oo 9 (.bu 185 [(oT 8)])::on (.store 32 (oT 2) (oT 9))::[]))
.ret))))
theorem a9U:cU Tryz.prog 0 158=some ah9:=by kernel_rfl
def aha:cT where
 ntmps:=6
 nparams:=1
 results:= [(2,none)]
 code:=
(.seq
(.plain (oo 2 (.mv oZ)::[]))
(.seq
(.plain (oM 3 0::oo 4 (.gL 1 [(oT 3)])::oo 5 (.bu 186 [(.const (.int .u8 80)),(oT 4)])::oM 2 5::[]))
.ret))
theorem a9V:cU Tryz.prog 0 159=some aha:=by kernel_rfl
def ahb:cT where
 ntmps:=28
 nparams:=2
 results:= [(4,none)]
 code:=
(.seq
(.plain (oo 2 (.box 32 (oT 0))::oo 4 (.mv oN)::[]))
(.seq
(.seq
(.plain (oM 5 1::oD 6 .lss 5 1::oM 7 6::og 7 false 8 (.mv (oT 1))::og 7 false 9 (.bin .gtr (oT 8) (oC 8))::oo 10 (.pick (oT 7) oY (oT 9))::oM 11 10::og 11 false 12 (.fa 0 (oT 2))::og 11 false 13 (.load false 1 (oT 12))::og 11 false 14 (.len (oT 13))::og 11 false 15 (.mv (oT 1))::og 11 false 16 (.bin .neq (oT 14) (oT 15))::oo 17 (.pick (oT 11) oY (oT 16))::oM 18 17::og 18 false 19 (.fa 1 (oT 2))::og 18 false 20 (.load false 1 (oT 19))::og 18 false 21 (.len (oT 20))::og 18 false 22 (.mv (oT 1))::og 18 false 23 (.bin .neq (oT 21) (oT 22))::oo 24 (.pick (oT 18) oY (oT 23))::[]))
(.cond (oT 24)
(.seq
(.plain (oo 4 (.mv oN)::[]))
.ret)
.skip))
(.seq
(.plain (oM 25 1::oo 26 (.eU 188 [] [(oT 2)])::oo 27 (.bu 187 [(oT 25),(oT 26)])::oM 4 27::[]))
.ret)))
theorem a9W:cU Tryz.prog 0 160=some ahb:=by kernel_rfl
def ahc:cT where
 ntmps:=10
 nparams:=1
 results:= [(2,(some (true,2)))]
 code:=
(.seq
(.plain (oo 1 (.box 32 (oT 0))::oo 2 (.alloc 32 [(.sl [] .nil),(.sl [] .nil)])::[]))
(.seq
(.draw (oF 3 0 1::oL 4 3::oo 5 (.bu 131 [(oT 4)])::oF 6 1 1::oL 7 6::oo 8 (.bu 131 [(oT 7)])::oo 9 (.gf [(.sl [] .nil),(.sl [] .nil)] [(0,1,(oT 5)),(1,1,(oT 8))])::on (.store 2 (oT 2) (oT 9))::[])
(oO 0::oO 1::oO 3::oO 4::⟨2,[],[4]⟩::oO 5::oO 6::oO 7:: []))
.ret))
theorem a9X:cU Tryz.prog 1 161=some ahc:=by kernel_rfl
def ahd:cT where
 ntmps:=9
 nparams:=2
 results:= [(4,none)]
 code:=
(.seq
(.plain (oo 3 (.box 218 (oT 1))::oo 4 (.mv oN)::[]))
(.seq
(.plain (oM 5 0::oo 6 (.eU 190 [] [(oT 3)])::oo 7 (.bu 189 [(oT 5),(oT 6)])::oo 8 (.un .not (oT 7))::oM 4 8::[]))
.ret))
theorem a9Y:cU Tryz.prog 0 162=some ahd:=by kernel_rfl
def ahe:cT where
 ntmps:=9
 nparams:=1
 results:= [(3,none)]
 code:=
(.seq
(.plain (oo 2 (.box 123 (oT 0))::oo 3 (.mv oN)::[]))
(.seq
(.plain (oF 4 0 2::oL 5 4::oK 6 5::oL 7 1::oB 8 .eql 6 7::oM 3 8::[]))
.ret))
theorem a9Z:cU Tryz.prog 0 163=some ahe:=by kernel_rfl
def ahf:cT where
 ntmps:=9
 nparams:=2
 results:= [(4,none)]
 code:=
(.seq
(.plain (oo 3 (.box 94 (oT 1))::oo 4 (.mv oN)::[]))
(.seq
(.plain (oM 5 0::oo 6 (.eU 192 [] [(oT 3)])::oo 7 (.bu 191 [(oT 5),(oT 6)])::oo 8 (.un .not (oT 7))::oM 4 8::[]))
.ret))
theorem aa0:cU Tryz.prog 0 164=some ahf:=by kernel_rfl
def ahg:cT where
 ntmps:=7
 nparams:=1
 results:= [(3,none)]
 code:=
(.seq
(.plain (oo 2 (.box 34 (oT 0))::oo 3 (.mv oN)::[]))
(.seq
(.plain (oo 4 (.load true 37 (oT 2))::oL 5 1::oo 6 (.bu 166 [(oT 4),(oT 5)])::oM 3 6::[]))
.ret))
theorem aa1:cU Tryz.prog 0 165=some ahg:=by kernel_rfl
def ahh:cT where
 ntmps:=49
 nparams:=2
 results:= [(4,none)]
 code:=
(.seq
(.plain (oo 2 (.box 34 (oT 0))::oo 4 (.mv oN)::[]))
(.seq
(.block 0
(.seq
(.plain (oo 6 (.load true 37 (oT 2))::oo 7 (.bu 38 [(oT 6)])::oM 5 7::[]))
(.cond (oT 5)
(.seq
(.plain (oo 4 (.mv oY)::[]))
.ret)
(.seq
(.plain (oF 9 35 2::oL 10 9::oD 11 .lss 10 1::oM 12 11::og 12 false 13 (.fa 35 (oT 2))::og 12 false 14 (.load false 1 (oT 13))::og 12 false 15 (.bin .gtr (oT 14) (oC 1048576))::oo 16 (.pick (oT 12) oY (oT 15))::oM 17 16::og 17 false 18 (.fa 34 (oT 2))::og 17 false 19 (.load false 1 (oT 18))::og 17 false 20 (.bin .lss (oT 19) (oC 0))::oo 21 (.pick (oT 17) oY (oT 20))::oM 22 21::og 22 false 23 (.fa 34 (oT 2))::og 22 false 24 (.load false 1 (oT 23))::og 22 false 25 (.fa 35 (oT 2))::og 22 false 26 (.load false 1 (oT 25))::og 22 false 27 (.bin .gtr (oT 24) (oT 26))::oo 28 (.pick (oT 22) oY (oT 27))::oM 8 28::[]))
(.cond (oT 8)
(.seq
(.plain (oo 4 (.mv oN)::[]))
.ret)
(.seq
(.plain (oF 30 34 2::oL 31 30::oD 32 .eql 31 0::oM 29 32::[]))
(.cond (oT 29)
(.seq
(.plain (oF 33 32 2::oF 34 0 33::oL 35 34::oK 36 35::oD 37 .eql 36 0::oM 38 37::og 38 true 39 (.fa 32 (oT 2))::og 38 true 40 (.fa 1 (oT 39))::og 38 true 41 (.load false 1 (oT 40))::og 38 true 42 (.len (oT 41))::og 38 true 43 (.bin .eql (oT 42) (oC 0))::oo 44 (.pick (oT 38) (oT 43) oN)::oM 4 44::[]))
.ret)
.skip)))))))
(.seq
(.plain (oF 45 32 2::oo 46 (.load true 2 (oT 45))::oM 47 1::oo 48 (.bu 160 [(oT 46),(oT 47)])::oM 4 48::[]))
.ret)))
theorem aa2:cU Tryz.prog 0 166=some ahh:=by kernel_rfl
def ahj:cT where
 ntmps:=7
 nparams:=1
 results:= [(2,none)]
 code:=
(.seq
(.plain (oo 1 (.box 34 (oT 0))::oo 2 (.mv oN)::[]))
(.seq
(.plain (oF 3 36 1::oL 4 3::oK 5 4::oD 6 .eql 5 0::oM 2 6::[]))
.ret))
theorem aa3:cU Tryz.prog 0 167=some ahj:=by kernel_rfl
def ahk:cT where
 ntmps:=5
 nparams:=1
 results:= [(2,none)]
 code:=
(.seq
(.plain (oo 1 (.box 123 (oT 0))::oo 2 (.mv oN)::[]))
(.seq
(.plain (oF 3 1 1::oL 4 3::oM 2 4::[]))
.ret))
theorem aa4:cU Tryz.prog 0 168=some ahk:=by kernel_rfl
def ahl:cT where
 ntmps:=14
 nparams:=1
 results:= [(3,none)]
 code:=
(.seq
(.plain (oo 2 (.box 34 (oT 0))::oo 3 (.mv oN)::[]))
(.seq
(.plain (oF 4 36 2::oL 5 4::oK 6 5::oL 7 1::oB 8 .eql 6 7::oM 9 8::og 9 true 10 (.load true 37 (oT 2))::og 9 true 11 (.bu 38 [(oT 10)])::og 9 true 12 (.un .not (oT 11))::oo 13 (.pick (oT 9) (oT 12) oN)::oM 3 13::[]))
.ret))
theorem aa5:cU Tryz.prog 0 169=some ahl:=by kernel_rfl
def ahm:cT where
 ntmps:=20
 nparams:=3
 results:= []
 code:=
(.seq
(.seq
(.plain (oM 6 1::oo 7 (.un .not (oT 6))::[]))
(.cond (oT 7)
(.seq
(.plain (oM 8 0::oo 9 (.df (oT 8))::oF 10 1 9::on (.store 1 (oT 10) (oC 10))::[]))
.ret)
.skip))
(.plain (oM 11 0::oM 12 0::oo 13 (.df (oT 12))::oF 14 0 13::oL 15 14::oM 16 2::oo 17 (.app 1 1 (oT 15) (oT 16))::oo 18 (.df (oT 11))::oF 19 0 18::on (.store 1 (oT 19) (oT 17))::[])))
theorem aa6:cU Tryz.prog 0 170=some ahm:=by kernel_rfl
def ahn:cT where
 ntmps:=19
 nparams:=2
 results:= []
 code:=
(.seq
(.plain (oM 6 1::oo 7 (.jF .u64 (oT 6))::oo 8 (.bin .xor (oT 7) (.const (.int .u64 9223372036854775808)))::oM 4 8::[]))
(.seq
(.plain (oo 5 (.mv (oC 56))::[]))
(.block 0
(.loop
(.seq
(.seq
(.plain (oM 9 5::oD 10 .geq 9 0::[]))
(.cond (oT 10)
.skip
(.exit 0)))
(.seq
(.block 1
(.plain (oM 13 0::oM 14 4::oM 15 5::oB 16 .shr 14 15::oo 17 (.jF .u8 (oT 16))::oo 18 (.bu 133 [(oT 13),(oT 17)])::[])))
(.plain (oM 11 5::oD 12 .sub 11 8::oM 5 12::[]))))))))
theorem aa7:cU Tryz.prog 0 171=some ahn:=by kernel_rfl
def aho:cT where
 ntmps:=8
 nparams:=1
 results:= [(2,none)]
 code:=
(.seq
(.plain (oo 2 (.mv oZ)::[]))
(.seq
(.seq
(.plain (oM 3 0::oo 4 (.wX false (oT 3))::[]))
(.cond (oT 4)
(.seq
(.plain (oo 2 (.mv oZ)::[]))
.ret)
.skip))
(.seq
(.plain (oo 5 (.gL 1 [])::oM 6 0::oo 7 (.app 1 1 (oT 5) (oT 6))::oM 2 7::[]))
.ret)))
theorem aa8:cU Tryz.prog 0 172=some aho:=by kernel_rfl
def ahp:cT where
 ntmps:=27
 nparams:=2
 results:= [(4,none)]
 code:=
(.seq
(.plain (oo 4 (.mv oZ)::[]))
(.seq
(.seq
(.plain (oM 5 1::oD 6 .lss 5 0::[]))
(.cond (oT 6)
(.plain (oo 7 (.Db 9 (.const (.string ⟨#[99,97,110,110,111,116,32,98,101,32,110,101,103,97,116,105,118,101]⟩)))::on (.zp (oT 7))::[]))
.skip))
(.seq
(.seq
(.plain (oM 8 1::oM 9 0::oo 10 (.wS (oT 9))::oM 11 0::oK 12 11::oB 13 .sub 10 12::oB 14 .sub 8 13::oM 1 14::[]))
(.seq
(.plain (oM 15 1::oD 16 .gtr 15 0::[]))
(.cond (oT 16)
(.plain (oM 17 0::oM 18 0::oo 19 (.wS (oT 18))::oo 20 (.gu 1 (oT 17) none (some (oT 19)) none)::oM 21 1::oo 22 (.yZ 1 24 [(.sl [] .nil)] (oT 20) (oT 21))::oM 23 0::oK 24 23::oo 25 (.gu 1 (oT 22) none (some (oT 24)) none)::oM 0 25::[]))
.skip)))
(.seq
(.plain (oM 26 0::oM 4 26::[]))
.ret))))
theorem aa9:cU Tryz.prog 6 175=some ahp:=by kernel_rfl
def ahq:cT where
 ntmps:=27
 nparams:=2
 results:= [(4,none)]
 code:=
(.seq
(.plain (oo 4 (.mv oZ)::[]))
(.seq
(.seq
(.plain (oM 5 1::oD 6 .lss 5 0::[]))
(.cond (oT 6)
(.plain (oo 7 (.Db 9 (.const (.string ⟨#[99,97,110,110,111,116,32,98,101,32,110,101,103,97,116,105,118,101]⟩)))::on (.zp (oT 7))::[]))
.skip))
(.seq
(.seq
(.plain (oM 8 1::oM 9 0::oo 10 (.wS (oT 9))::oM 11 0::oK 12 11::oB 13 .sub 10 12::oB 14 .sub 8 13::oM 1 14::[]))
(.seq
(.plain (oM 15 1::oD 16 .gtr 15 0::[]))
(.cond (oT 16)
(.plain (oM 17 0::oM 18 0::oo 19 (.wS (oT 18))::oo 20 (.gu 37 (oT 17) none (some (oT 19)) none)::oM 21 1::oo 22 (.yZ 37 120 (List.replicate 32 (.v (.int .u8 0))++ [(.sl [] .nil),(.sl [] .nil)]++ [(.v (.int .i64 0)),(.v (.int .i64 0))]++ [(.sl [] .nil)]) (oT 20) (oT 21))::oM 23 0::oK 24 23::oo 25 (.gu 37 (oT 22) none (some (oT 24)) none)::oM 0 25::[]))
.skip)))
(.seq
(.plain (oM 26 0::oM 4 26::[]))
.ret))))
theorem aaa:cU Tryz.prog 6 176=some ahq:=by kernel_rfl
def ahr:cT where
 ntmps:=44
 nparams:=2
 results:= [(4,none),(5,none)]
 code:=
(.seq
(.plain (oo 4 (.mv oZ)::oo 5 (.mv oN)::[]))
(.seq
(.seq
(.plain (oM 7 0::oo 8 (.df (oT 7))::oF 9 1 8::oL 10 9::oD 11 .eql 10 0::oM 12 11::og 12 true 13 (.mv (oT 1))::og 12 true 14 (.mv (oT 0))::og 12 true 15 (.df (oT 14))::og 12 true 16 (.fa 0 (oT 15))::og 12 true 17 (.load false 1 (oT 16))::og 12 true 18 (.len (oT 17))::og 12 true 19 (.bin .gtr (oT 13) (oT 18))::oo 20 (.pick (oT 12) (oT 19) oN)::[]))
(.cond (oT 20)
(.plain (oM 21 0::oo 22 (.bu 178 [(oT 21),(oC 20)])::[]))
.skip))
(.seq
(.seq
(.plain (oM 23 0::oo 24 (.df (oT 23))::oF 25 1 24::oL 26 25::oD 27 .neq 26 0::[]))
(.cond (oT 27)
(.seq
(.plain (oo 4 (.mv oZ)::oo 5 (.mv oN)::[]))
.ret)
.skip))
(.seq
(.plain (oM 28 0::oo 29 (.df (oT 28))::oF 30 0 29::oL 31 30::oM 32 1::oo 33 (.pI 1 (oT 31) none (some (oT 32)))::oM 6 33::[]))
(.seq
(.plain (oM 34 0::oM 35 0::oo 36 (.df (oT 35))::oF 37 0 36::oL 38 37::oM 39 1::oo 40 (.pI 1 (oT 38) (some (oT 39)) none)::oo 41 (.df (oT 34))::oF 42 0 41::on (.store 1 (oT 42) (oT 40))::[]))
(.seq
(.plain (oM 43 6::oM 4 43::oo 5 (.mv oY)::[]))
.ret))))))
theorem aab:cU Tryz.prog 0 177=some ahr:=by kernel_rfl
def ahs:cT where
 ntmps:=13
 nparams:=2
 results:= []
 code:=
(.seq
(.plain (oM 4 0::oo 5 (.df (oT 4))::oF 6 1 5::oL 7 6::oD 8 .eql 7 0::[]))
(.cond (oT 8)
(.plain (oM 9 0::oM 10 1::oo 11 (.df (oT 9))::oF 12 1 11::on (.store 1 (oT 12) (oT 10))::[]))
.skip))
theorem aac:cU Tryz.prog 0 178=some ahs:=by kernel_rfl
def aht:cT where
 ntmps:=30
 nparams:=1
 results:= [(2,none)]
 code:=
(.seq
(.plain (oo 2 (.mv (oC 0))::[]))
(.seq
(.plain (oM 9 0::oo 10 (.bu 177 [(oT 9),(oC 8)])::oM 8 10::oE 11 8 0::oE 12 8 1::oM 3 11::oM 4 12::[]))
(.seq
(.seq
(.plain (oM 13 4::oo 14 (.un .not (oT 13))::[]))
(.cond (oT 14)
(.seq
(.plain (oo 2 (.mv (oC 0))::[]))
.ret)
.skip))
(.seq
(.plain (oo 5 (.mv (.const (.int .u64 0)))::[]))
(.seq
(.seq
(.plain (oM 15 3::oK 16 15::oo 17 (.mv (oC 0))::[]))
(.block 0
(.loop
(.seq
(.plain (oB 18 .lss 17 16::[]))
(.seq
(.cond (oT 18)
.skip
(.exit 0))
(.seq
(.block 1
(.seq
(.plain (oI 19 1 15 17::oL 20 19::oM 7 20::[]))
(.plain (oM 21 5::oo 22 (.bin .shl (oT 21) (.const (.int .u64 8)))::oM 23 7::oo 24 (.jF .u64 (oT 23))::oB 25 .or 22 24::oM 5 25::[]))))
(.plain (oD 26 .add 17 1::oM 17 26::[]))))))))
(.seq
(.plain (oM 27 5::oo 28 (.bin .xor (oT 27) (.const (.int .u64 9223372036854775808)))::oo 29 (.jF .i64 (oT 28))::oM 2 29::[]))
.ret))))))
theorem aad:cU Tryz.prog 0 179=some aht:=by kernel_rfl
def ahu:cT where
 ntmps:=15
 nparams:=1
 results:= [(2,(some (true,32)))]
 code:=
(.seq
(.plain (oo 2 (.alloc 28 (List.replicate 32 (.v (.int .u8 0))))::[]))
(.seq
(.plain (oo 3 (.alloc 28 (List.replicate 32 (.v (.int .u8 0))))::[]))
(.seq
(.plain (oM 7 0::oo 8 (.bu 177 [(oT 7),(oC 32)])::oM 6 8::oE 9 6 0::oE 10 6 1::oM 4 9::oM 5 10::[]))
(.seq
(.plain (oo 11 (.BK 1 32 (oT 3) none none false)::oM 12 4::oo 13 (.Da 1 (oT 11) (oT 12))::[]))
(.seq
(.plain (oo 14 (.load true 32 (oT 3))::on (.store 32 (oT 2) (oT 14))::[]))
.ret)))))
theorem aae:cU Tryz.prog 0 180=some ahu:=by kernel_rfl
def ahv:cT where
 ntmps:=38
 nparams:=2
 results:= [(4,none)]
 code:=
(.seq
(.plain (oo 4 (.mv (oC 0))::[]))
(.seq
(.plain (oM 9 0::oo 10 (.bu 177 [(oT 9),(oC 3)])::oM 8 10::oE 11 8 0::oE 12 8 1::oM 5 11::oM 6 12::[]))
(.seq
(.seq
(.plain (oM 13 6::oo 14 (.un .not (oT 13))::[]))
(.cond (oT 14)
(.seq
(.plain (oo 4 (.mv (oC 0))::[]))
.ret)
.skip))
(.seq
(.draw (oM 15 5::oo 16 (.kA 1 (oT 15) (oC 0))::oL 17 16::oo 18 (.jF .i64 (oT 17))::oo 19 (.bin .shl (oT 18) (.const (.int .u64 16)))::oM 20 5::oo 21 (.kA 1 (oT 20) (oC 1))::oL 22 21::oo 23 (.jF .i64 (oT 22))::oo 24 (.bin .shl (oT 23) (.const (.int .u64 8)))::oB 25 .or 19 24::oM 26 5::oo 27 (.kA 1 (oT 26) (oC 2))::oL 28 27::oo 29 (.jF .i64 (oT 28))::oB 30 .or 25 29::oM 7 30::[])
(oO 0::oO 1::oO 2::oO 3::oO 4::oO 5::oO 6::oO 7::oO 8::oO 9::oO 10::oO 11::oO 12::oO 13::oO 14::oO 15::oO 16:: []))
(.seq
(.seq
(.plain (oM 31 7::oM 32 1::oo 33 (.mm false .i64 (oT 32) (oC 1048576))::oB 34 .gtr 31 33::[]))
(.cond (oT 34)
(.seq
(.plain (oM 35 0::oo 36 (.bu 178 [(oT 35),(oC 10)])::[]))
(.seq
(.plain (oo 4 (.mv (oC 0))::[]))
.ret))
.skip))
(.seq
(.plain (oM 37 7::oM 4 37::[]))
.ret))))))
theorem aaf:cU Tryz.prog 0 181=some ahv:=by kernel_rfl
def ahw:cT where
 ntmps:=4
 nparams:=0
 results:= [(0,none)]
 code:=
(.seq
(.plain (oo 0 (.mv oP)::[]))
(.seq
(.plain (oo 1 (.bu 193 [])::oo 2 (.gf (List.replicate 8 (.v (.int .u32 0))++ [(.sl [] .nil)]++ [(.v (.int .u64 0))]) [(0,8,(oT 1))])::oo 3 (.box 242 (oT 2))::oM 0 3::[]))
.ret))
theorem aag:cU Tryz.prog 0 183=some ahw:=by kernel_rfl
def ahx:cT where
 ntmps:=51
 nparams:=2
 results:= []
 code:=
(.seq
(.seq
(.plain (oM 5 0::oo 6 (.df (oT 5))::oF 7 9 6::oL 8 7::oo 9 (.bin .eql (oT 8) (.const (.int .u64 0)))::[]))
(.cond (oT 9)
(.plain (oM 10 0::oo 11 (.bu 193 [])::oo 12 (.df (oT 10))::oF 13 0 12::on (.store 8 (oT 13) (oT 11))::[]))
.skip))
(.seq
(.plain (oM 14 0::oo 15 (.df (oT 14))::oF 16 9 15::oL 17 16::oM 18 1::oK 19 18::oo 20 (.jF .u64 (oT 19))::oB 21 .add 17 20::oo 22 (.df (oT 14))::oF 23 9 22::on (.store 1 (oT 23) (oT 21))::[]))
(.seq
(.plain (oo 24 (.gL 1 [])::oM 25 0::oo 26 (.df (oT 25))::oF 27 8 26::oL 28 27::oo 29 (.app 1 1 (oT 24) (oT 28))::oM 30 1::oo 31 (.app 1 1 (oT 29) (oT 30))::oM 4 31::[]))
(.seq
(.block 0
(.loop
(.seq
(.seq
(.plain (oM 32 4::oK 33 32::oD 34 .geq 33 64::[]))
(.cond (oT 34)
.skip
(.exit 0)))
(.block 1
(.seq
(.draw (oM 35 0::oM 36 0::oo 37 (.df (oT 36))::oF 38 0 37::oo 39 (.load true 8 (oT 38))::oM 40 4::oo 41 (.pI 1 (oT 40) none (some (oC 64)))::oo 42 (.bu 194 [(oT 39),(oT 41)])::oo 43 (.df (oT 35))::oF 44 0 43::on (.store 8 (oT 44) (oT 42))::[])
(oO 0::oO 1::oO 2::oO 3::oO 4::oO 5::oO 6::oO 7::oO 8::oO 9::oO 10:: []))
(.plain (oM 45 4::oo 46 (.pI 1 (oT 45) (some (oC 64)) none)::oM 4 46::[])))))))
(.plain (oM 47 0::oM 48 4::oo 49 (.df (oT 47))::oF 50 8 49::on (.store 1 (oT 50) (oT 48))::[]))))))
theorem aah:cU Tryz.prog 0 184=some ahx:=by kernel_rfl
def ahy:cT where
 ntmps:=83
 nparams:=1
 results:= [(2,(some (true,32)))]
 code:=
(.seq
(.plain (oo 2 (.alloc 28 (List.replicate 32 (.v (.int .u8 0))))::[]))
(.seq
(.plain (oM 8 0::oo 9 (.df (oT 8))::oF 10 0 9::oo 11 (.load true 8 (oT 10))::oo 3 (.alloc 239 (List.replicate 8 (.v (.int .u32 0))))::on (.store 8 (oT 3) (oT 11))::[]))
(.seq
(.seq
(.plain (oM 12 0::oo 13 (.df (oT 12))::oF 14 9 13::oL 15 14::oo 16 (.bin .eql (oT 15) (.const (.int .u64 0)))::[]))
(.cond (oT 16)
(.plain (oo 17 (.bu 193 [])::on (.store 8 (oT 3) (oT 17))::[]))
.skip))
(.seq
(.plain (oo 18 (.gL 1 [])::oM 19 0::oo 20 (.df (oT 19))::oF 21 8 20::oL 22 21::oo 23 (.app 1 1 (oT 18) (oT 22))::oo 24 (.gL 1 [(.const (.int .u8 128))])::oo 25 (.app 1 1 (oT 23) (oT 24))::oM 4 25::[]))
(.seq
(.block 0
(.loop
(.seq
(.seq
(.plain (oM 26 4::oK 27 26::oD 28 .rem 27 64::oD 29 .neq 28 56::[]))
(.cond (oT 29)
.skip
(.exit 0)))
(.block 1
(.plain (oM 30 4::oo 31 (.gL 1 [(.const (.int .u8 0))])::oo 32 (.app 1 1 (oT 30) (oT 31))::oM 4 32::[]))))))
(.seq
(.plain (oM 33 4::oM 34 0::oo 35 (.df (oT 34))::oF 36 9 35::oL 37 36::oo 38 (.bin .mul (.const (.int .u64 8)) (oT 37))::oo 39 (.bu 195 [(oT 38)])::oo 40 (.app 1 1 (oT 33) (oT 39))::oM 4 40::[]))
(.seq
(.block 2
(.loop
(.seq
(.seq
(.plain (oM 41 4::oK 42 41::oD 43 .gtr 42 0::[]))
(.cond (oT 43)
.skip
(.exit 2)))
(.seq
(.block 3
(.draw (oo 46 (.load true 8 (oT 3))::oM 47 4::oo 48 (.pI 1 (oT 47) none (some (oC 64)))::oo 49 (.bu 194 [(oT 46),(oT 48)])::on (.store 8 (oT 3) (oT 49))::[])
(oO 0::oO 1::oO 2::oO 3::oO 4:: [])))
(.plain (oM 44 4::oo 45 (.pI 1 (oT 44) (some (oC 64)) none)::oM 4 45::[]))))))
(.seq
(.plain (oo 5 (.alloc 28 (List.replicate 32 (.v (.int .u8 0))))::[]))
(.seq
(.seq
(.plain (oo 50 (.load true 8 (oT 3))::oo 51 (.mv (oC 0))::[]))
(.block 4
(.loop
(.seq
(.plain (oD 52 .lss 51 8::[]))
(.seq
(.cond (oT 52)
.skip
(.exit 4))
(.seq
(.block 5
(.seq
(.plain (oM 53 51::oo 54 (.Im false 1 8 (oT 50) (oT 51))::oM 6 53::oM 7 54::[]))
(.plain (oM 55 6::oo 56 (.bin .mul (oC 4) (oT 55))::oM 57 6::oo 58 (.bin .mul (oC 4) (oT 57))::oD 59 .add 58 1::oM 60 6::oo 61 (.bin .mul (oC 4) (oT 60))::oD 62 .add 61 2::oM 63 6::oo 64 (.bin .mul (oC 4) (oT 63))::oD 65 .add 64 3::oM 66 7::oo 67 (.bin .shr (oT 66) (.const (.int .u64 24)))::oo 68 (.jF .u8 (oT 67))::oM 69 7::oo 70 (.bin .shr (oT 69) (.const (.int .u64 16)))::oo 71 (.jF .u8 (oT 70))::oM 72 7::oo 73 (.bin .shr (oT 72) (.const (.int .u64 8)))::oo 74 (.jF .u8 (oT 73))::oM 75 7::oo 76 (.jF .u8 (oT 75))::oo 77 (.jD 1 32 (oT 5) (oT 56))::on (.store 1 (oT 77) (oT 68))::oo 78 (.jD 1 32 (oT 5) (oT 59))::on (.store 1 (oT 78) (oT 71))::oo 79 (.jD 1 32 (oT 5) (oT 62))::on (.store 1 (oT 79) (oT 74))::oo 80 (.jD 1 32 (oT 5) (oT 65))::on (.store 1 (oT 80) (oT 76))::[]))))
(.plain (oD 81 .add 51 1::oM 51 81::[]))))))))
(.seq
(.plain (oo 82 (.load true 32 (oT 5))::on (.store 32 (oT 2) (oT 82))::[]))
.ret))))))))))
theorem aai:cU Tryz.prog 0 185=some ahy:=by kernel_rfl
def ahz:cT where
 ntmps:=26
 nparams:=2
 results:= [(4,none)]
 code:=
(.seq
(.plain (oo 4 (.mv oZ)::[]))
(.seq
(.plain (oM 8 0::oo 9 (.gL 1 [(oT 8)])::oM 5 9::[]))
(.seq
(.seq
(.plain (oM 10 1::oK 11 10::oo 12 (.mv (oC 0))::[]))
(.block 0
(.loop
(.seq
(.plain (oB 13 .lss 12 11::[]))
(.seq
(.cond (oT 13)
.skip
(.exit 0))
(.seq
(.block 1
(.seq
(.plain (oI 14 1 10 12::oL 15 14::oM 7 15::[]))
(.plain (oM 16 5::oM 17 7::oK 18 17::oo 19 (.jF .u64 (oT 18))::oo 20 (.bu 195 [(oT 19)])::oo 21 (.app 1 1 (oT 16) (oT 20))::oM 22 7::oo 23 (.app 1 1 (oT 21) (oT 22))::oM 5 23::[]))))
(.plain (oD 24 .add 12 1::oM 12 24::[]))))))))
(.seq
(.plain (oM 25 5::oM 4 25::[]))
.ret))))
theorem aaj:cU Tryz.prog 0 186=some ahz:=by kernel_rfl
def ahA:cT where
 ntmps:=15
 nparams:=2
 results:= [(4,none)]
 code:=
(.seq
(.plain (oo 4 (.mv oN)::[]))
(.seq
(.seq
(.plain (oM 6 0::oo 7 (.mv (oC 0))::[]))
(.block 0
(.loop
(.seq
(.plain (oB 8 .lss 7 6::[]))
(.seq
(.cond (oT 8)
.skip
(.exit 0))
(.seq
(.block 1
(.seq
(.plain (oM 9 7::oM 5 9::[]))
(.seq
(.plain (oM 10 1::oM 11 5::oo 12 (.rn (oT 10) [(oT 11)])::oo 13 (.un .not (oT 12))::[]))
(.cond (oT 13)
(.seq
(.plain (oo 4 (.mv oN)::[]))
.ret)
.skip))))
(.plain (oD 14 .add 7 1::oM 7 14::[]))))))))
(.seq
(.plain (oo 4 (.mv oY)::[]))
.ret)))
theorem aak:cU Tryz.prog 0 187=some ahA:=by kernel_rfl
def ahB:cT where
 ntmps:=15
 nparams:=1
 results:= [(3,none)]
 code:=
(.seq
(.plain (oo 3 (.mv oN)::[]))
(.seq
(.draw (oF 4 0 1::oL 5 4::oM 6 0::oI 7 1 5 6::oL 8 7::oF 9 1 1::oL 10 9::oM 11 0::oI 12 1 10 11::oL 13 12::oB 14 .leq 8 13::oM 3 14::[])
(oO 0::oO 1::oO 2::oO 3::oO 4::oO 5::oO 6::oO 7::oO 8::oO 9::oO 10::oO 11:: []))
.ret))
theorem aal:cU Tryz.prog 0 188=some ahB:=by kernel_rfl
def ahC:cT where
 ntmps:=9
 nparams:=2
 results:= [(4,none)]
 code:=
(.seq
(.plain (oo 4 (.mv oN)::[]))
(.seq
(.plain (oM 5 0::oM 6 1::oo 7 (.bu 196 [(oT 5),(oT 6)])::oD 8 .geq 7 0::oM 4 8::[]))
.ret))
theorem aam:cU Tryz.prog 0 189=some ahC:=by kernel_rfl
def ahD:cT where
 ntmps:=8
 nparams:=1
 results:= [(3,none)]
 code:=
(.seq
(.plain (oo 2 (.box 123 (oT 0))::oo 3 (.mv oN)::[]))
(.seq
(.plain (oL 4 1::oo 5 (.load true 2 (oT 2))::oo 6 (.rn (oT 4) [(oT 5)])::oo 7 (.un .not (oT 6))::oM 3 7::[]))
.ret))
theorem aan:cU Tryz.prog 0 190=some ahD:=by kernel_rfl
def ahE:cT where
 ntmps:=9
 nparams:=2
 results:= [(4,none)]
 code:=
(.seq
(.plain (oo 4 (.mv oN)::[]))
(.seq
(.plain (oM 5 0::oM 6 1::oo 7 (.bu 197 [(oT 5),(oT 6)])::oD 8 .geq 7 0::oM 4 8::[]))
.ret))
theorem aao:cU Tryz.prog 0 191=some ahE:=by kernel_rfl
def ahF:cT where
 ntmps:=8
 nparams:=1
 results:= [(3,none)]
 code:=
(.seq
(.plain (oo 2 (.box 34 (oT 0))::oo 3 (.mv oN)::[]))
(.seq
(.plain (oL 4 1::oo 5 (.load true 37 (oT 2))::oo 6 (.rn (oT 4) [(oT 5)])::oo 7 (.un .not (oT 6))::oM 3 7::[]))
.ret))
theorem aap:cU Tryz.prog 0 192=some ahF:=by kernel_rfl
def ahG:cT where
 ntmps:=2
 nparams:=0
 results:= [(0,(some (true,8)))]
 code:=
(.seq
(.plain (oo 0 (.alloc 239 (List.replicate 8 (.v (.int .u32 0))))::[]))
(.seq
(.plain (oo 1 (.gf (List.replicate 8 (.v (.int .u32 0))) [(0,1,(.const (.int .u32 1779033703))),(1,1,(.const (.int .u32 3144134277))),(2,1,(.const (.int .u32 1013904242))),(3,1,(.const (.int .u32 2773480762))),(4,1,(.const (.int .u32 1359893119))),(5,1,(.const (.int .u32 2600822924))),(6,1,(.const (.int .u32 528734635))),(7,1,(.const (.int .u32 1541459225)))])::on (.store 8 (oT 0) (oT 1))::[]))
.ret))
theorem aaq:cU Tryz.prog 0 193=some ahG:=by kernel_rfl
def ahH:cT where
 ntmps:=121
 nparams:=2
 results:= [(4,(some (true,8)))]
 code:=
(.seq
(.plain (oo 2 (.box 239 (oT 0))::oo 4 (.alloc 239 (List.replicate 8 (.v (.int .u32 0))))::[]))
(.seq
(.draw (oM 14 1::oo 15 (.bu 198 [(oT 14)])::oo 16 (.bu 199 [])::oo 17 (.load true 8 (oT 2))::oo 5 (.alloc 247 (List.replicate 64 (.v (.int .u32 0))))::oo 6 (.alloc 247 (List.replicate 64 (.v (.int .u32 0))))::oo 7 (.alloc 239 (List.replicate 8 (.v (.int .u32 0))))::on (.store 64 (oT 5) (oT 15))::on (.store 64 (oT 6) (oT 16))::on (.store 8 (oT 7) (oT 17))::[])
(oO 0::oO 3::⟨1,[4,5,6],[3]⟩::⟨2,[4,5,6],[3]⟩::⟨4,[5,6],[]⟩::⟨5,[6],[]⟩::oO 6::⟨7,[],[3]⟩::⟨8,[],[3]⟩::oO 9:: []))
(.seq
(.seq
(.plain (oo 18 (.mv (oC 0))::[]))
(.block 0
(.loop
(.seq
(.plain (oD 19 .lss 18 64::[]))
(.seq
(.cond (oT 19)
.skip
(.exit 0))
(.seq
(.block 1
(.seq
(.plain (oM 20 18::oM 8 20::[]))
(.seq
(.draw (oo 21 (.jD 1 8 (oT 7) (oC 4))::oL 22 21::oo 23 (.bu 200 [(oT 22),(oC (-6))])::oo 24 (.jD 1 8 (oT 7) (oC 4))::oL 25 24::oo 26 (.bu 200 [(oT 25),(oC (-11))])::oB 27 .xor 23 26::oo 28 (.jD 1 8 (oT 7) (oC 4))::oL 29 28::oo 30 (.bu 200 [(oT 29),(oC (-25))])::oB 31 .xor 27 30::oM 9 31::[])
(oO 0::oO 1::oO 3::oO 4::oO 7::oO 8::⟨2,[],[4,8]⟩::⟨5,[],[8]⟩::oO 6::oO 9::oO 10::oO 11:: []))
(.seq
(.draw (oo 32 (.jD 1 8 (oT 7) (oC 7))::oL 33 32::oM 34 9::oB 35 .add 33 34::oo 36 (.jD 1 8 (oT 7) (oC 4))::oL 37 36::oo 38 (.jD 1 8 (oT 7) (oC 5))::oL 39 38::oB 40 .and 37 39::oo 41 (.jD 1 8 (oT 7) (oC 4))::oL 42 41::oo 43 (.un .xor (oT 42))::oo 44 (.jD 1 8 (oT 7) (oC 6))::oL 45 44::oB 46 .and 43 45::oB 47 .xor 40 46::oB 48 .add 35 47::oM 49 8::oo 50 (.jD 1 64 (oT 6) (oT 49))::oL 51 50::oB 52 .add 48 51::oM 53 8::oo 54 (.jD 1 64 (oT 5) (oT 53))::oL 55 54::oB 56 .add 52 55::oM 10 56::[])
(oO 0::oO 1::oO 2::oO 3::oO 4::oO 5::oO 6::oO 7::oO 8::oO 9::oO 10::oO 11::oO 12::oO 13::oO 14::oO 15::oO 16::oO 17::oO 18::oO 19::oO 20::oO 21::oO 22::oO 23::oO 24::oO 25:: []))
(.seq
(.draw (oo 57 (.jD 1 8 (oT 7) (oC 0))::oL 58 57::oo 59 (.bu 200 [(oT 58),(oC (-2))])::oo 60 (.jD 1 8 (oT 7) (oC 0))::oL 61 60::oo 62 (.bu 200 [(oT 61),(oC (-13))])::oB 63 .xor 59 62::oo 64 (.jD 1 8 (oT 7) (oC 0))::oL 65 64::oo 66 (.bu 200 [(oT 65),(oC (-22))])::oB 67 .xor 63 66::oM 11 67::[])
(oO 0::oO 1::oO 3::oO 4::oO 7::oO 8::⟨2,[],[4,8]⟩::⟨5,[],[8]⟩::oO 6::oO 9::oO 10::oO 11:: []))
(.seq
(.plain (oM 68 11::oo 69 (.jD 1 8 (oT 7) (oC 0))::oL 70 69::oo 71 (.jD 1 8 (oT 7) (oC 1))::oL 72 71::oB 73 .and 70 72::oo 74 (.jD 1 8 (oT 7) (oC 0))::oL 75 74::oo 76 (.jD 1 8 (oT 7) (oC 2))::oL 77 76::oB 78 .and 75 77::oB 79 .xor 73 78::oo 80 (.jD 1 8 (oT 7) (oC 1))::oL 81 80::oo 82 (.jD 1 8 (oT 7) (oC 2))::oL 83 82::oB 84 .and 81 83::oB 85 .xor 79 84::oB 86 .add 68 85::oM 12 86::[]))
(.plain (oM 87 10::oM 88 12::oB 89 .add 87 88::oo 90 (.jD 1 8 (oT 7) (oC 0))::oL 91 90::oo 92 (.jD 1 8 (oT 7) (oC 1))::oL 93 92::oo 94 (.jD 1 8 (oT 7) (oC 2))::oL 95 94::oo 96 (.jD 1 8 (oT 7) (oC 3))::oL 97 96::oM 98 10::oB 99 .add 97 98::oo 100 (.jD 1 8 (oT 7) (oC 4))::oL 101 100::oo 102 (.jD 1 8 (oT 7) (oC 5))::oL 103 102::oo 104 (.jD 1 8 (oT 7) (oC 6))::oL 105 104::oo 106 (.gf (List.replicate 8 (.v (.int .u32 0))) [(0,1,(oT 89)),(1,1,(oT 91)),(2,1,(oT 93)),(3,1,(oT 95)),(4,1,(oT 99)),(5,1,(oT 101)),(6,1,(oT 103)),(7,1,(oT 105))])::on (.store 8 (oT 7) (oT 106))::[]))))))))
(.plain (oD 107 .add 18 1::oM 18 107::[]))))))))
(.seq
(.seq
(.plain (oo 108 (.mv (oC 0))::[]))
(.block 2
(.loop
(.seq
(.plain (oD 109 .lss 108 8::[]))
(.seq
(.cond (oT 109)
.skip
(.exit 2))
(.seq
(.block 3
(.seq
(.plain (oM 110 108::oM 13 110::[]))
(.draw (oM 111 13::oo 112 (.jD 1 8 (oT 7) (oT 111))::oL 113 112::oM 114 13::oo 115 (.jD 1 8 (oT 2) (oT 114))::oL 116 115::oB 117 .add 113 116::oo 118 (.jD 1 8 (oT 7) (oT 111))::on (.store 1 (oT 118) (oT 117))::[])
(oO 0::oO 1::oO 2::oO 3::oO 4::oO 5::oO 6::oO 7::oO 8:: []))))
(.plain (oD 119 .add 108 1::oM 108 119::[]))))))))
(.seq
(.plain (oo 120 (.load true 8 (oT 7))::on (.store 8 (oT 4) (oT 120))::[]))
.ret)))))
theorem aar:cU Tryz.prog 0 194=some ahH:=by kernel_rfl
def ahI:cT where
 ntmps:=17
 nparams:=1
 results:= [(2,none)]
 code:=
(.seq
(.plain (oo 2 (.mv oZ)::[]))
(.seq
(.plain (oo 3 (.mv oZ)::[]))
(.seq
(.seq
(.plain (oo 4 (.mv (oC 56))::[]))
(.block 0
(.loop
(.seq
(.seq
(.plain (oM 5 4::oD 6 .geq 5 0::[]))
(.cond (oT 6)
.skip
(.exit 0)))
(.seq
(.block 1
(.plain (oM 9 3::oM 10 0::oM 11 4::oB 12 .shr 10 11::oo 13 (.jF .u8 (oT 12))::oo 14 (.gL 1 [(oT 13)])::oo 15 (.app 1 1 (oT 9) (oT 14))::oM 3 15::[])))
(.plain (oM 7 4::oD 8 .sub 7 8::oM 4 8::[])))))))
(.seq
(.plain (oM 16 3::oM 2 16::[]))
.ret))))
theorem aas:cU Tryz.prog 0 195=some ahI:=by kernel_rfl
def ahJ:cT where
 ntmps:=19
 nparams:=2
 results:= [(4,none)]
 code:=
(.seq
(.plain (oo 4 (.mv (oC 0))::[]))
(.seq
(.seq
(.plain (oM 6 0::oK 7 6::oo 8 (.mv (oC 0))::[]))
(.block 0
(.loop
(.seq
(.plain (oB 9 .lss 8 7::[]))
(.seq
(.cond (oT 9)
.skip
(.exit 0))
(.seq
(.block 1
(.seq
(.plain (oM 10 8::oM 5 10::[]))
(.seq
(.plain (oM 11 1::oM 12 0::oM 13 5::oI 14 2 12 13::oo 15 (.load true 2 (oT 14))::oo 16 (.rn (oT 11) [(oT 15)])::[]))
(.cond (oT 16)
(.seq
(.plain (oM 17 5::oM 4 17::[]))
.ret)
.skip))))
(.plain (oD 18 .add 8 1::oM 8 18::[]))))))))
(.seq
(.plain (oo 4 (.mv (oC (-1)))::[]))
.ret)))
theorem aat:cU Tryz.prog 0 196=some ahJ:=by kernel_rfl
def ahK:cT where
 ntmps:=19
 nparams:=2
 results:= [(4,none)]
 code:=
(.seq
(.plain (oo 4 (.mv (oC 0))::[]))
(.seq
(.seq
(.plain (oM 6 0::oK 7 6::oo 8 (.mv (oC 0))::[]))
(.block 0
(.loop
(.seq
(.plain (oB 9 .lss 8 7::[]))
(.seq
(.cond (oT 9)
.skip
(.exit 0))
(.seq
(.block 1
(.seq
(.plain (oM 10 8::oM 5 10::[]))
(.seq
(.plain (oM 11 1::oM 12 0::oM 13 5::oI 14 37 12 13::oo 15 (.load true 37 (oT 14))::oo 16 (.rn (oT 11) [(oT 15)])::[]))
(.cond (oT 16)
(.seq
(.plain (oM 17 5::oM 4 17::[]))
.ret)
.skip))))
(.plain (oD 18 .add 8 1::oM 8 18::[]))))))))
(.seq
(.plain (oo 4 (.mv (oC (-1)))::[]))
.ret)))
theorem aau:cU Tryz.prog 0 197=some ahK:=by kernel_rfl
def ahL:cT where
 ntmps:=93
 nparams:=1
 results:= [(2,(some (true,64)))]
 code:=
(.seq
(.plain (oo 2 (.alloc 247 (List.replicate 64 (.v (.int .u32 0))))::[]))
(.seq
(.plain (oo 3 (.alloc 247 (List.replicate 64 (.v (.int .u32 0))))::[]))
(.seq
(.seq
(.plain (oo 10 (.mv (oC 0))::[]))
(.block 0
(.loop
(.seq
(.plain (oD 11 .lss 10 16::[]))
(.seq
(.cond (oT 11)
.skip
(.exit 0))
(.seq
(.block 1
(.seq
(.plain (oM 12 10::oM 4 12::[]))
(.draw (oM 13 4::oM 14 0::oM 15 4::oo 16 (.bin .mul (oC 4) (oT 15))::oI 17 1 14 16::oL 18 17::oo 19 (.jF .u32 (oT 18))::oo 20 (.bin .shl (oT 19) (.const (.int .u64 24)))::oM 21 0::oM 22 4::oo 23 (.bin .mul (oC 4) (oT 22))::oD 24 .add 23 1::oI 25 1 21 24::oL 26 25::oo 27 (.jF .u32 (oT 26))::oo 28 (.bin .shl (oT 27) (.const (.int .u64 16)))::oB 29 .or 20 28::oM 30 0::oM 31 4::oo 32 (.bin .mul (oC 4) (oT 31))::oD 33 .add 32 2::oI 34 1 30 33::oL 35 34::oo 36 (.jF .u32 (oT 35))::oo 37 (.bin .shl (oT 36) (.const (.int .u64 8)))::oB 38 .or 29 37::oM 39 0::oM 40 4::oo 41 (.bin .mul (oC 4) (oT 40))::oD 42 .add 41 3::oI 43 1 39 42::oL 44 43::oo 45 (.jF .u32 (oT 44))::oB 46 .or 38 45::oo 47 (.jD 1 64 (oT 3) (oT 13))::on (.store 1 (oT 47) (oT 46))::[])
(oO 0::oO 1::oO 2::oO 3::oO 4::oO 5::oO 6::oO 7::oO 8::oO 9::oO 10::oO 11::oO 12::oO 13::oO 14::oO 15::oO 16::oO 17::oO 18::oO 19::oO 20::oO 21::oO 22::oO 23::oO 24::oO 25::oO 26::oO 27::oO 28::oO 29::oO 30::oO 31::oO 32::oO 33::oO 34::oO 35:: []))))
(.plain (oD 48 .add 10 1::oM 10 48::[]))))))))
(.seq
(.seq
(.plain (oo 5 (.mv (oC 16))::[]))
(.block 2
(.loop
(.seq
(.seq
(.plain (oM 49 5::oD 50 .lss 49 64::[]))
(.cond (oT 50)
.skip
(.exit 2)))
(.seq
(.block 3
(.seq
(.draw (oM 53 5::oD 54 .sub 53 15::oo 55 (.jD 1 64 (oT 3) (oT 54))::oL 56 55::oM 57 5::oD 58 .sub 57 2::oo 59 (.jD 1 64 (oT 3) (oT 58))::oL 60 59::oM 6 56::oM 7 60::[])
(oO 0::oO 1::oO 2::oO 3::oO 4::oO 5::oO 6::oO 7::oO 8::oO 9:: []))
(.seq
(.plain (oM 61 6::oo 62 (.bu 200 [(oT 61),(oC (-7))])::oM 63 6::oo 64 (.bu 200 [(oT 63),(oC (-18))])::oB 65 .xor 62 64::oM 66 6::oo 67 (.bin .shr (oT 66) (.const (.int .u64 3)))::oB 68 .xor 65 67::oM 8 68::[]))
(.seq
(.plain (oM 69 7::oo 70 (.bu 200 [(oT 69),(oC (-17))])::oM 71 7::oo 72 (.bu 200 [(oT 71),(oC (-19))])::oB 73 .xor 70 72::oM 74 7::oo 75 (.bin .shr (oT 74) (.const (.int .u64 10)))::oB 76 .xor 73 75::oM 9 76::[]))
(.draw (oM 77 5::oM 78 5::oD 79 .sub 78 16::oo 80 (.jD 1 64 (oT 3) (oT 79))::oL 81 80::oM 82 8::oB 83 .add 81 82::oM 84 5::oD 85 .sub 84 7::oo 86 (.jD 1 64 (oT 3) (oT 85))::oL 87 86::oB 88 .add 83 87::oM 89 9::oB 90 .add 88 89::oo 91 (.jD 1 64 (oT 3) (oT 77))::on (.store 1 (oT 91) (oT 90))::[])
(oO 0::oO 1::oO 2::oO 3::oO 4::oO 5::oO 6::oO 7::oO 8::oO 9::oO 10::oO 11::oO 12::oO 13::oO 14::oO 15:: []))))))
(.plain (oM 51 5::oD 52 .add 51 1::oM 5 52::[])))))))
(.seq
(.plain (oo 92 (.load true 64 (oT 3))::on (.store 64 (oT 2) (oT 92))::[]))
.ret)))))
theorem aav:cU Tryz.prog 0 198=some ahL:=by kernel_rfl
def ahM:cT where
 ntmps:=2
 nparams:=0
 results:= [(0,(some (true,64)))]
 code:=
(.seq
(.plain (oo 0 (.alloc 247 (List.replicate 64 (.v (.int .u32 0))))::[]))
(.seq
(.plain (oo 1 (.gf (List.replicate 64 (.v (.int .u32 0))) [(0,1,(.const (.int .u32 1116352408))),(1,1,(.const (.int .u32 1899447441))),(2,1,(.const (.int .u32 3049323471))),(3,1,(.const (.int .u32 3921009573))),(4,1,(.const (.int .u32 961987163))),(5,1,(.const (.int .u32 1508970993))),(6,1,(.const (.int .u32 2453635748))),(7,1,(.const (.int .u32 2870763221))),(8,1,(.const (.int .u32 3624381080))),(9,1,(.const (.int .u32 310598401))),(10,1,(.const (.int .u32 607225278))),(11,1,(.const (.int .u32 1426881987))),(12,1,(.const (.int .u32 1925078388))),(13,1,(.const (.int .u32 2162078206))),(14,1,(.const (.int .u32 2614888103))),(15,1,(.const (.int .u32 3248222580))),(16,1,(.const (.int .u32 3835390401))),(17,1,(.const (.int .u32 4022224774))),(18,1,(.const (.int .u32 264347078))),(19,1,(.const (.int .u32 604807628))),(20,1,(.const (.int .u32 770255983))),(21,1,(.const (.int .u32 1249150122))),(22,1,(.const (.int .u32 1555081692))),(23,1,(.const (.int .u32 1996064986))),(24,1,(.const (.int .u32 2554220882))),(25,1,(.const (.int .u32 2821834349))),(26,1,(.const (.int .u32 2952996808))),(27,1,(.const (.int .u32 3210313671))),(28,1,(.const (.int .u32 3336571891))),(29,1,(.const (.int .u32 3584528711))),(30,1,(.const (.int .u32 113926993))),(31,1,(.const (.int .u32 338241895))),(32,1,(.const (.int .u32 666307205))),(33,1,(.const (.int .u32 773529912))),(34,1,(.const (.int .u32 1294757372))),(35,1,(.const (.int .u32 1396182291))),(36,1,(.const (.int .u32 1695183700))),(37,1,(.const (.int .u32 1986661051))),(38,1,(.const (.int .u32 2177026350))),(39,1,(.const (.int .u32 2456956037))),(40,1,(.const (.int .u32 2730485921))),(41,1,(.const (.int .u32 2820302411))),(42,1,(.const (.int .u32 3259730800))),(43,1,(.const (.int .u32 3345764771))),(44,1,(.const (.int .u32 3516065817))),(45,1,(.const (.int .u32 3600352804))),(46,1,(.const (.int .u32 4094571909))),(47,1,(.const (.int .u32 275423344))),(48,1,(.const (.int .u32 430227734))),(49,1,(.const (.int .u32 506948616))),(50,1,(.const (.int .u32 659060556))),(51,1,(.const (.int .u32 883997877))),(52,1,(.const (.int .u32 958139571))),(53,1,(.const (.int .u32 1322822218))),(54,1,(.const (.int .u32 1537002063))),(55,1,(.const (.int .u32 1747873779))),(56,1,(.const (.int .u32 1955562222))),(57,1,(.const (.int .u32 2024104815))),(58,1,(.const (.int .u32 2227730452))),(59,1,(.const (.int .u32 2361852424))),(60,1,(.const (.int .u32 2428436474))),(61,1,(.const (.int .u32 2756734187))),(62,1,(.const (.int .u32 3204031479))),(63,1,(.const (.int .u32 3329325298)))])::on (.store 64 (oT 0) (oT 1))::[]))
.ret))
theorem aaw:cU Tryz.prog 0 199=some ahM:=by kernel_rfl
def ahN:cT where
 ntmps:=17
 nparams:=2
 results:= [(4,none)]
 code:=
(.seq
(.plain (oo 4 (.mv (.const (.int .u32 0)))::[]))
(.seq
(.plain (oM 6 1::oo 7 (.jF .u64 (oT 6))::oo 8 (.bin .and (oT 7) (.const (.int .u64 31)))::oM 5 8::[]))
(.seq
(.plain (oM 9 0::oM 10 5::oB 11 .shl 9 10::oM 12 0::oM 13 5::oo 14 (.bin .sub (.const (.int .u64 32)) (oT 13))::oB 15 .shr 12 14::oB 16 .or 11 15::oM 4 16::[]))
.ret)))
theorem aax:cU Tryz.prog 0 200=some ahN:=by kernel_rfl
end Go.Proofs.YtonldhgdjjfahaaGreat
