import Derived.Test.YtonldhgdjjfahaaGreatME
set_option linter.all false
namespace Go.au
variable {α:Type}
def ni:Nat→List α→List (List α)
 |0,_=> []
 |g+1,l=>l.take (l.length/(g+1)+if 0<l.length%(g+1)then 1 else 0)::ni g (l.drop (l.length/(g+1)+if 0<l.length%(g+1)then 1 else 0))
def cQ (n:Nat):Nat:=(n+3)/4
def chunks (l:List α):List (List α):=ni (cQ l.length) l
theorem Zs: ∀(g:Nat) (l:List α),ni g l=(List.range g).map fun i=>(l.drop (i*(l.length/g)+min i (l.length%g))).take (l.length/g+if i<l.length%g then 1 else 0)
 |0,l=>rfl
 |g+1,l=>by
  have hn:=Nat.div_add_mod l.length (g+1)
  have hr:=Nat.mod_lt l.length (Nat.succ_pos g)
  simp only[ni]
  generalize hq:l.length/(g+1)=q at*
  generalize OB:l.length%(g+1)=r at*
  rw[Zs g,List.range_succ_eq_map,List.map_cons,List.map_map]
  congr 1
  ·simp
  ·by_cases hg:g=0
   ·subst hg;simp
   have hlen:(l.drop (q+if 0<r then 1 else 0)).length=q*g+(r - if 0<r then 1 else 0):=by
    rw[List.length_drop]
    have:(g+1)*q=q*g+q:=by rw[Nat.add_mul,Nat.mul_comm];omega
    split<;>omega
   have aW:r -(if 0<r then 1 else 0)<g:=by split<;>omega
   have e1:(l.drop (q+if 0<r then 1 else 0)).length/g=q:=by
    rw[hlen,Nat.mul_comm,Nat.mul_add_div (by omega),Nat.div_eq_of_lt aW];rfl
   have e2:(l.drop (q+if 0<r then 1 else 0)).length%g=r - if 0<r then 1 else 0:=by
    rw[hlen,Nat.mul_comm,Nat.mul_add_mod,Nat.mod_eq_of_lt aW]
   rw[e1,e2]
   refine List.map_congr_left fun i hi=> ?_
   simp only[Function.comp,List.drop_drop]
   have a1:q+(if 0<r then 1 else 0)+(i*q+min i (r - if 0<r then 1 else 0))=(i+1)*q+min (i+1) r:=by
    rw[Nat.add_mul];split<;>omega
   have a2:(if i<r -(if 0<r then 1 else 0)then 1 else 0)=(if i+1<r then 1 else 0:Nat):=by
    by_cases h0:0<r
    ·simp only[h0,if_true];by_cases h1:i<r - 1
     ·rw[if_pos h1,if_pos (by omega)]
     ·rw[if_neg h1,if_neg (by omega)]
    ·simp only[h0,if_false];rw[if_neg (by omega),if_neg (by omega)]
   rw[a1,a2]
theorem Wh: ∀(g:Nat) (l:List α),(0<g∨l= [])→(ni g l).flatten=l
 |0,l,h=>by rcases h with h|h;(·omega);(·subst h;rfl)
 |g+1,l,_=>by
  simp only[ni,List.flatten_cons]
  rw[Wh g,List.take_append_drop]
  by_cases hg:g=0
  ·right
   subst hg
   simp
  ·left;omega
theorem chunks_flatten (l:List α):(chunks l).flatten=l:=Wh _ _ (by
 cases l with
 |nil=>exact .inr rfl
 |cons a l=>left;simp only[cQ,List.length_cons];omega)
theorem Cv {l:List α} (h1:1≤l.length) (h2:l.length≤4):chunks l= [l]:=by
 have:cQ l.length=1:=by unfold cQ;omega
 simp[chunks,this,ni,Nat.mod_one]
theorem HB {l:List α} (h:l.length=5):chunks l= [l.take 3,l.drop 3]:=by
 have:cQ l.length=2:=by unfold cQ;omega
 unfold chunks
 rw[this]
 simp only[ni,h,List.length_drop]
 simp
 exact List.take_of_length_le (by simp[h])
abbrev Row:=List Int
structure Lf where
 rows:List Row
structure Nd (α:Type) where
 kids:List α
def T:Nat→Type
 |0=>Lf
 |h+1=>Nd (T h)
def leaf (l:List Row):T 0:=Lf.mk l
def node {h:Nat} (l:List (T h)):T (h+1):=Nd.mk l
def rows (t:T 0):List Row:=Lf.rows t
def kids {h:Nat} (t:T (h+1)):List (T h):=Nd.kids t
theorem HI {l:List Row}:rows (leaf l)=l:=rfl
theorem qq {h:Nat}{l:List (T h)}:kids (node l)=l:=rfl
theorem rT (t:T 0): ∃l,t=leaf l:=⟨rows t,rfl⟩
theorem pv {h:Nat} (t:T (h+1)): ∃l,t=node l:=⟨kids t,rfl⟩
def len: {h:Nat}→T h→Nat
 |0,t=>(rows t).length
 | _+1,t=>(kids t).length
def cX:(h:Nat)→T h→List Row
 |0,t=>rows t
 |h+1,t=>(kids t).flatMap (cX h)
theorem uX {l:List Row}:len (leaf l)=l.length:=rfl
theorem ma {h:Nat}{l:List (T h)}:len (node l)=l.length:=rfl
theorem vE {l:List Row}:cX 0 (leaf l)=l:=rfl
theorem pW {h:Nat}{l:List (T h)}:cX (h+1) (node l)=l.flatMap (cX h):=rfl
theorem WJ (l:List Row):((chunks l).map leaf).flatMap (cX 0)=l:=by
 conv=>rhs;rw[←chunks_flatten l]
 rw[List.flatMap_def,List.map_map]
 congr 1
 exact List.map_id _
theorem Xe {h:Nat} (l:List (T h)):((chunks l).map node).flatMap (cX (h+1))=l.flatMap (cX h):=by
 conv=>rhs;rw[←chunks_flatten l]
 induction chunks l with
 |nil=>rfl
 |cons a m ih=>rw[List.map_cons,List.flatMap_cons,ih,List.flatten_cons,List.flatMap_append];rfl
def WF:(h:Nat)→T h→Prop
 |0,t=>2≤len t∧len t≤4
 |h+1,t=>2≤len t∧len t≤4∧ ∀c∈kids t,WF h c
def AO:(h:Nat)→T h→Prop
 |0,_=>True
 |h+1,t=> ∀c∈kids t,WF h c
theorem sO {h:Nat}{t:T h}:WF h t↔2≤len t∧len t≤4∧AO h t:=by
 cases h with
 |zero=>simp[WF,AO]
 |succ h=>rfl
def yk (h:Nat) (t:T h):Prop:=1≤len t∧len t≤4∧AO h t∧(0<h→2≤len t)
theorem yk.of {h:Nat}{t:T h} (hl:WF h t):yk h t:=by
 have:=sO.1 hl
 exact⟨by omega,this.2.1,this.2.2,fun _=>this.1⟩
theorem Rw {h:Nat}: ∀ {t:T h},1≤len t→AO h t→cX h t≠ []:=by
 induction h with
 |zero=>intro t h1 _ e;obtain⟨l,rfl⟩:=rT t;rw[vE]at e;subst e;simp[uX]at h1
 |succ h ih=>
  intro t h1 hw e
  obtain⟨l,rfl⟩:=pv t
  rw[ma]at h1
  match l,h1 with
  |c::l,_=>
   rw[pW,List.flatMap_cons]at e
   have hc:=sO.1 (hw c List.mem_cons_self)
   exact ih (by omega) hc.2.2 (List.append_eq_nil_iff.1 e).1
def iW (h:Nat) (t:T h):Row:=(cX h t).headD []
section
variable (lt:Row→Row→Bool)
structure Ord (ok:Row→Prop):Prop where
 LK: ∀p,lt p p=false
 trans: ∀p q r,ok p→ok q→ok r→lt p q=true→lt q r=true→lt p r=true
 total: ∀p q,ok p→ok q→lt p q=false→lt q p=false→p=q
def jK (p:Row):List Row→Nat
 | _::k::r=>if lt p k then 0 else jK p (k::r)+1
 | _=>0
def mC (l:List Row) (p:Row):List Row:=l.takeWhile (fun x=>lt x p)++p::l.dropWhile (fun x=>lt x p)
def nj (p:Row):(h:Nat)→T h→List (T h)
 |0,t=>(chunks (mC lt (rows t) p)).map leaf
 |h+1,t=>
  match (kids t)[jK lt p ((kids t).map (iW h))]? with
  |some c=>(chunks ((kids t).take (jK lt p ((kids t).map (iW h)))++nj p h c++(kids t).drop (jK lt p ((kids t).map (iW h))+1))).map node
  |none=> []
def Ad: {h:Nat}→T h→T h→List (T h)
 |0,a,b=>(chunks (rows a++rows b)).map leaf
 | _+1,a,b=>(chunks (kids a++kids b)).map node
def Ed {h:Nat} (ks:List (T h)) (i:Nat) (x:T h):List (T h):=
 if 2≤len x then ks.set i x
 else match ks[if i=0 then 1 else i - 1]? with
  |some o=>ks.take (i - 1)++(if i=0 then Ad x o else Ad o x)++ks.drop (i - 1+2)
  |none=> []
def ir (p:Row):(h:Nat)→T h→T h
 |0,t=>leaf ((rows t).filter fun x=>decide (x≠p))
 |h+1,t=>
  match (kids t)[jK lt p ((kids t).map (iW h))]? with
  |some c=>node (Ed (kids t) (jK lt p ((kids t).map (iW h))) (ir p h c))
  |none=>t
end
theorem XU {l:List Row} (h1:2≤l.length) (h2:l.length≤5):(∀c∈(chunks l).map leaf,WF 0 c)∧1≤(chunks l).length∧(chunks l).length≤2∧(l.length≤4→(chunks l).length=1):=by
 by_cases h:l.length=5
 ·rw[HB h]
  simp[WF,h,uX]
 ·rw[Cv (by omega) (by omega)]
  simp only[List.map_cons,List.map_nil,List.mem_singleton,forall_eq,List.length_singleton,WF,uX]
  exact⟨⟨h1,by omega⟩,by omega,by omega,fun _=>trivial⟩
theorem XV {h:Nat}{l:List (T h)} (h1:2≤l.length) (h2:l.length≤5) (hw: ∀c∈l,WF h c):(∀c∈(chunks l).map node,WF (h+1) c)∧1≤(chunks l).length∧(chunks l).length≤2∧(l.length≤4→(chunks l).length=1):=by
 by_cases h':l.length=5
 ·rw[HB h']
  simp only[List.map_cons,List.map_nil,List.mem_cons,List.not_mem_nil,or_false,forall_eq_or_imp,forall_eq,List.length_cons,List.length_nil,WF,ma,qq]
  refine⟨⟨⟨by simp;omega,by simp;omega,fun c hc=>hw c (List.mem_of_mem_take hc)⟩,⟨by simp;omega,by simp;omega,fun c hc=>hw c (List.mem_of_mem_drop hc)⟩⟩,by omega,by omega,fun _=>by omega⟩
 ·rw[Cv (by omega) (by omega)]
  simp only[List.map_cons,List.map_nil,List.mem_singleton,forall_eq,List.length_singleton,WF,ma,qq]
  exact⟨⟨h1,by omega,hw⟩,by omega,by omega,fun _=>trivial⟩
section
variable {lt:Row→Row→Bool}{ok:Row→Prop}
abbrev pw (lt:Row→Row→Bool) (l:List Row):Prop:=l.Pairwise fun x y=>lt x y=true
theorem MV {A B:List Row}{p:Row} (h: ∀x∈A,lt x p=true):mC lt (A++B) p=A++mC lt B p:=by
 unfold mC
 rw[List.takeWhile_append_of_pos h,List.dropWhile_append_of_pos h,List.append_assoc]
theorem a5I {A B:List Row}{p:Row} (h: ∀x∈B,lt x p=false):mC lt (A++B) p=mC lt A p++B:=by
 have hB:B.takeWhile (fun x=>lt x p)= []∧B.dropWhile (fun x=>lt x p)=B:=by
  cases B with
  |nil=>exact⟨rfl,rfl⟩
  |cons b B=>simp[h b List.mem_cons_self]
 induction A with
 |nil=>simp[mC,hB.1,hB.2]
 |cons a A ih=>
  unfold mC at ih⊢
  by_cases ha:lt a p=true
  ·simp only[List.cons_append,List.takeWhile_cons,List.dropWhile_cons,ha,if_true]at ih⊢
   rw[ih]
  ·simp only[List.cons_append,List.takeWhile_cons,List.dropWhile_cons,ha,if_false,Bool.false_eq_true]
   rfl
theorem K5 {l:List Row}{p x:Row}:x∈mC lt l p↔x=p∨x∈l:=by
 unfold mC
 have:=List.takeWhile_append_dropWhile (p:=fun x=>lt x p) (l:=l)
 conv=>rhs;rw[←this]
 simp only[List.mem_append,List.mem_cons]
 constructor
 ·rintro (h|h|h)<;>simp[h]
 ·rintro (h|h|h)<;>simp[h]
theorem DT {l:List Row}{p:Row}:(mC lt l p).length=l.length+1:=by
 unfold mC
 have:=congrArg List.length (List.takeWhile_append_dropWhile (p:=fun x=>lt x p) (l:=l))
 simp only[List.length_append,List.length_cons]at this⊢
 omega
theorem a4Y (O:Ord lt ok) {l:List Row}{p:Row} (hl:pw lt l) (cj: ∀x∈l,ok x) (hp:ok p) (hn:p∉l):pw lt (mC lt l p):=by
 induction l with
 |nil=>simp[mC]
 |cons a l ih=>
  have h1:=List.pairwise_cons.1 hl
  have ih:=ih h1.2 (fun x hx=>cj x (by simp[hx])) (fun h=>hn (by simp[h]))
  by_cases ha:lt a p=true
  ·have e:mC lt (a::l) p=a::mC lt l p:=MV (A:= [a]) (by simpa using ha)
   rw[e]
   refine List.pairwise_cons.2 ⟨fun x hx=> ?_,ih⟩
   rcases K5.1 hx with rfl|hx
   ·exact ha
   ·exact h1.1 x hx
  ·have e:mC lt (a::l) p=p::a::l:=by simp[mC,ha]
   rw[e]
   have C0:lt p a=true:=by
    cases h:lt p a with
    |true=>rfl
    |false=>exact absurd (O.total p a hp (cj a (by simp)) h (by simpa using ha)) (fun e=>hn (by simp[e]))
   refine List.pairwise_cons.2 ⟨fun x hx=> ?_,hl⟩
   rcases List.mem_cons.1 hx with rfl|hx
   ·exact C0
   ·exact O.trans p a x hp (cj a (by simp)) (cj x (by simp[hx])) C0 (h1.1 x hx)
theorem XW (O:Ord lt ok) {p:Row} (hp:ok p): ∀(ls:List (List Row)),ls≠ []→(∀l∈ls,l≠ [])→pw lt ls.flatten→(∀x∈ls.flatten,ok x)→
  jK lt p (ls.map (·.headD []))<ls.length∧(∀x∈(ls.take (jK lt p (ls.map (·.headD [])))).flatten,lt x p=true)∧(∀x∈(ls.drop (jK lt p (ls.map (·.headD []))+1)).flatten,lt p x=true)
 | [],h,_,_,_=>absurd rfl h
 | [a],_,_,_,_=>by simp[jK]
 |a::b::r,_,bI,hs,cj=>by
  simp only[List.map_cons,jK]
  obtain⟨k,b',hb⟩: ∃k b',b=k::b':=by
   cases hb:b with
   |nil=>exact absurd hb (bI b (by simp))
   |cons k b'=>exact⟨k,b',rfl⟩
  have Uj:b.headD []=k:=by rw[hb];rfl
  have SV:ok k:=cj k (by simp[hb])
  have iK:pw lt (b::r).flatten:=by
   rw[List.flatten_cons]at hs
   exact(List.pairwise_append.1 hs).2.1
  rw[Uj]
  by_cases aW:lt p k=true
  ·rw[if_pos aW]
   refine⟨by simp,by simp,fun x hx=> ?_⟩
   simp only[Nat.zero_add,List.drop_succ_cons,List.drop_zero]at hx
   have hh:(b::r).flatten=k::(b'++r.flatten):=by rw[hb];rfl
   rw[hh]at hx iK
   rcases List.mem_cons.1 hx with rfl|hx
   ·exact aW
   ·refine O.trans p k x hp SV (cj x ?_) aW ((List.pairwise_cons.1 iK).1 x hx)
    rw[List.flatten_cons,hh];simp only[List.mem_append,List.mem_cons]at hx⊢
    exact .inr (.inr hx)
  ·rw[if_neg aW]
   have ih:=XW O hp (b::r) (by simp) (fun l hl=>bI l (by simp at hl⊢;exact .inr hl)) iK (fun x hx=>cj x (by rw[List.flatten_cons];exact List.mem_append_right _ hx))
   simp only[List.map_cons,Uj]at ih
   obtain⟨i1,i2,i3⟩:=ih
   refine⟨by simp at i1⊢;omega,fun x hx=> ?_,fun x hx=>i3 x (by simpa using hx)⟩
   simp only[List.take_succ_cons,List.flatten_cons,List.mem_append]at hx
   rcases hx with hx|hx
   ·
    have hxk:lt x k=true:=by
     rw[List.flatten_cons]at hs
     exact(List.pairwise_append.1 hs).2.2 x hx k (by simp[hb])
    by_cases EF:k=p
    ·rw[←EF];exact hxk
    ·have aia:ok x:=cj x (by simp[hx])
     cases h2:lt k p with
     |true=>exact O.trans x k p aia SV hp hxk h2
     |false=>exact absurd (O.total k p SV hp h2 (by simpa using aW)) EF
   ·exact i2 x hx
end
end Go.au
set_option maxRecDepth 100000
namespace Go.Proofs.YtonldhgdjjfahaaGreat
open Go Go.Av
theorem a7b (xs:List (List Int)) (av:List AV) (x0:AV) (s:Hp) (hA:cn isRow xs av) (hS:Sl s 1 x0 av) (hn:xs.length≤1000000000000) {fn:FuncId}{ds cs:List AV}{p:List Int→Bool} (hf:tR isRow s fn ds cs p):
  AC Tryz.prog 84 [x0,.eU fn ds cs] s fun r s'=>s'=s∧ ∃k:Int,r= .v (.int .i64 k)∧decide (0≤k)=xs.any p:=by
 refine cR hm adu (by simp) ?_
 have hlen:=hA.len
 have hL:=hS.len
 rw[hlen]at hL
 refine sr @hL ?_
 refine fS (fun f s'=> ∃i:Nat,i≤xs.length∧s'=s∧f 0=x0∧f 1= .eU fn ds cs∧f 7= .v (.int .i64 xs.length)∧f 8= .v (.int .i64 i)∧(xs.take i).any p=false)
  (fun f _=>match f 8 with| .v (.int _ n)=>xs.length - n.toNat| _=>0) ⟨0,by omega,rfl,?_⟩ ?_
 ·refine sr @hL ?_
  simp
 rintro f sA ⟨i,hi,rfl,f0,f1,f7,f8,uB⟩
 by_cases aW:(i:Int)<(xs.length:Int)
 ·have hw:xs[i]? =some xs[i]:=List.getElem?_eq_getElem (by omega)
  have ht:xs.take (i+1)=xs.take i++ [xs[i]]:=by rw[List.take_add_one,hw];rfl
  have qx:xs[i]'(by omega)∈xs:=List.getElem_mem _
  generalize xs[i]'(by omega)=x at hw ht qx
  obtain⟨a,iB,ha⟩:=hA.get hw
  obtain⟨p9,e,gl⟩:=hS.get i a iB
  have AL:k9 false 1 sA p9=some a:=by
   have h7:=gl.ld sA Hp.aH false 1 (by omega) (by rw[isRow.cells ha];omega)
   rw[h7]
   obtain⟨o9,rfl⟩:=ha;rfl
  refine sr (c7 @f0 @f1 @f7 @f8 @aW @e @AL) ?_
  refine zT hf.1 (hf.2 x a _ ha Hp.aH) ?_
  rintro _ sA ⟨rfl,rfl⟩
  cases hp:p x with
  |true=>
   refine sr (c5 @f0 @f1 @f7 @f8 @aW) ?_
   refine⟨_,Hp.aH,rfl,_,rfl,?_⟩
   have:xs.any p=true:=List.any_eq_true.2 ⟨x,qx,hp⟩
   rw[this];simp
  |false=>
   refine sr (c5 @f0 @f1 @f7 @f8 @aW) ?_
   refine⟨⟨i+1,by omega,by simp,?_⟩,by omega⟩
   rw[ht,List.any_append,uB];simp[hp]
 ·obtain rfl:i=xs.length:=by omega
  refine sr (c5 @f0 @f1 @f7 @f8 @aW) ?_
  rw[List.take_length]at uB
  exact⟨_,Hp.aH,rfl,_,rfl,by rw[uB];simp⟩
theorem a4o (xs:List (List Int)) (av:List AV) (x0:AV) (s:Hp) (hA:cn isRow xs av) (hS:Sl s 1 x0 av) (hn:xs.length≤1000000000000) {fn:FuncId}{ds cs:List AV}{p:List Int→Bool} (hf:tR isRow s fn ds cs p):
  AC Tryz.prog 54 [x0,.eU fn ds cs] s fun r s'=>s'=s∧r= .v (.bool (xs.any p)):=by
 refine cR hm ad1 (by simp) ?_
 refine dD ?_
 refine bC (a7b xs av x0 s hA hS hn hf) ?_
 rintro _ sA ⟨rfl,k,rfl,hk⟩
 refine dD ?_
 exact⟨_,Hp.aH,rfl,by rw[hk]⟩
theorem a4Z (d:Int) (r:List Int) (a:AV) (ha:isRow r a) (s:Hp) (l:Nat) (hl:s.read l=some [.v (.int .i64 d)]):
  AC Tryz.prog 55 [a,.ptr l 0] s fun x s'=>s'=s∧x= .v (.bool (!decide ((r.length:Int)=d))):=by
 obtain⟨o,rfl⟩:=ha
 refine cR hm ad2 (by simp) ?_
 have la:=kP (r:=r)
 by_cases h:(r.length:Int)=d
 ·refine sr (c3 @la @hl @h) ?_
  exact⟨s,Hp.aH,by simp[h]⟩
 ·refine sr (c3 @la @hl @h) ?_
  exact⟨s,Hp.aH,by simp[h]⟩
def E5 (d:Int) (l:List (List Int)):Bool:=decide (1≤d)&&decide (d≤8)&&l.all fun r=>decide ((r.length:Int)=d)
theorem Qv (d:Int) (xs:List (List Int)) (av:List AV) (x0:AV) (s:Hp) (hA:cn isRow xs av) (hS:Sl s 1 x0 av) (hn:xs.length≤1000000000000):
  AC Tryz.prog 28 [.v (.int .i64 d),x0] s fun r s'=>s'=s∧r= .v (.bool (E5 d xs)):=by
 refine cR hm acG (by simp) ?_
 refine dD ?_
 refine cP fun l2 n2=> ?_
 have s2:=Hp.bT (o:= .cells [.v (.int .i64 d)]) (Hp.aH (s:=s)) n2
 have c2:(s.set l2 (.cells [.v (.int .i64 d)])) l2=some (.cells [.v (.int .i64 d)]):=Hp.bt _ _ _
 unfold E5
 by_cases h1:1≤d
 ·by_cases h2:d≤8
  ·simp -dsimp -implicitDefEqProofs (disch:=first|omega|assumption|(simp only[rL,Nat.reduceAdd];try omega)) only[go_sem,simprocAttr,-List.reduceReplicate,h1,h2]
   refine bC (a4o xs av x0 _ hA (hS.mono s2) hn (fn:=55) (ds:= []) (cs:= [.ptr l2 0]) (p:=fun r=> !decide ((r.length:Int)=d)) ⟨by kernel_rfl,fun x a s' hx iK=>a4Z d x a hx s' l2 (Hp.aV (iK _ _ c2))⟩) ?_
   rintro _ _ ⟨rfl,rfl⟩
   refine dD ?_
   refine⟨s,s2,rfl,?_⟩
   rw[List.any_eq_not_all_not];simp[h1,h2]
  ·simp -dsimp -implicitDefEqProofs (disch:=first|omega|assumption|(simp only[rL,Nat.reduceAdd];try omega)) only[go_sem,simprocAttr,-List.reduceReplicate,h1,h2]
   exact⟨s,s2,by simp[h2]⟩
 ·refine sr @h1 ?_
  exact⟨s,s2,by simp[h1]⟩
theorem MJ (n:Nat) (hn:n≤1000000000000) (s:Hp):AC Tryz.prog 35 [.v (.int .i64 (n:Int))] s fun r s'=>s'=s∧r= .v (.int .i64 (au.cQ n:Int)):=by
 refine cR hm acN (by simp) ?_
 refine dD ?_
 refine⟨s,Hp.aH,rfl,?_⟩
 have e:((n:Int)+4 - 1).tdiv 4=(au.cQ n:Int):=by
  unfold au.cQ
  rw[show(n:Int)+4 - 1=((n+3:Nat):Int) by omega];rfl
 have hg:au.cQ n≤n+1:=by unfold au.cQ;omega
 rw[e,wrap_i64 (by omega) (by omega)]
def sU (S:bW) (d:Nat) (n:gM):Except Int Kd×bW:=
 match sS d n with
 |none=>(.error 1,S)
 |some k=>(.ok k,pF S (jJ n))
def ig (l:List (List Int)):gM:=⟨2,l.map fun r=>(r,true),[]⟩
def mP (l:List Kd):gM:=⟨3,[],l⟩
abbrev rJ (l d:Nat):AV:= .agg [.ptr l 0,.v (.int .i64 (d:Int))]
def zE (o:Except Int Kd) (r:AV):Prop:=
 match o with
 | .error e=>e≠0∧r= .dr [.agg (aS cO .nil .nil .nil),.v (.int .i64 e)]
 | .ok k=>k.sum.length=32∧k.Sh∧ ∃o1 o2 o3,r= .dr [.agg (aS k o1 o2 o3),.v (.int .i64 0)]
theorem zE.shape {o:Except Int Kd}{r:AV} (h:zE o r): ∃k o1 o2 o3 e,k.sum.length=32∧r= .dr [.agg (aS k o1 o2 o3),.v (.int .i64 e)]:=by
 cases o with
 |error e=>exact⟨cO,_,_,_,e,eY,h.2⟩
 |ok k=>obtain⟨h1,_,o1,o2,o3,h2⟩:=h;exact⟨k,o1,o2,o3,0,h1,h2⟩
theorem eC.lY {s:Hp}{l lM x:Nat}{S:bW} (h:eC s l lM S) (hx:s x=none):x≠l∧x≠lM:=by
 refine⟨?_,?_⟩
 ·rintro rfl;obtain⟨_,_,h⟩:=h.at_;rw[h]at hx;cases hx
 ·rintro rfl;obtain⟨_,⟨_,_,h,_⟩,_⟩:=h.mp;rw[h]at hx;cases hx
theorem eC.set {s:Hp}{l lM x:Nat}{S:bW}{ob:Ob} (h:eC s l lM S) (h1:x≠l∧x≠lM):eC (s.set x ob) l lM S:=h.other (Hp.aX _ _ (Ne.symm h1.1)) (Hp.aX _ _ (Ne.symm h1.2))
theorem Xf (s:Hp) (l lM:Nat) (S:bW) (hS:eC s l lM S) (n:gM) (av kv:List AV) (x y:AV) (d:Nat) (bq:1≤d) (bg:d≤8) (hN:nR s n x y av kv):
  AC Tryz.prog 59 [.ptr l 0,xS n x y,.v (.int .i64 (d:Int))] s fun r s'=>eC s' l lM (sU S d n).2∧Ext l lM s s'∧zE (sU S d n).1 r:=by
 refine(a79 s l lM S hS n av kv x y d bq bg hN).mono fun r s' h=> ?_
 unfold sU
 cases hy:sS d n with
 |none=>
  rw[hy]at h
  exact⟨hS.mono h.1,Ext.of h.1,by decide,h.2⟩
 |some k=>
  rw[hy]at h
  exact⟨h.1,h.2.1,(Nl bg hy).1,a0g bg hy,h.2.2⟩
theorem QO (s:Hp) (l lM:Nat) (S:bW) (hS:eC s l lM S) (xs:List (List Int)) (av:List AV) (x0:AV) (d:Nat) (bq:1≤d) (bg:d≤8) (hA:cn isRow xs av) (hL:Sl s 1 x0 av) (hn:xs.length≤100000):
  AC Tryz.prog 36 [rJ l d,x0] s fun r s'=>eC s' l lM (sU S d (ig xs)).2∧Ext l lM s s'∧zE (sU S d (ig xs)).1 r:=by
 refine cR hm acO (by simp) ?_
 have e0: ∀cs,(AV.agg cs).cells=cs:=fun _=>rfl
 have p3: ∀a b c x y z:AV,putAt [a,b,c] 0 [x,y,z]= [x,y,z]:=fun _ _ _ _ _ _=>rfl
 have u0: ∀a b c x:AV,putAt [a,b,c] 0 [x]= [x,b,c]:=fun _ _ _ _=>rfl
 have u1: ∀a b c x:AV,putAt [a,b,c] 1 [x]= [a,x,c]:=fun _ _ _ _=>rfl
 have l3: ∀a b c:AV,[a,b,c].length=3:=fun _ _ _=>rfl
 have t3: ∀a b c:AV,List.take 3 [a,b,c]= [a,b,c]:=fun _ _ _=>rfl
 have hlen:=hL.len
 rw[hA.len]at hlen
 refine sr @e0 ?_
 refine cP fun l2 n2=> ?_
 refine sr (c2 @e0 @fl) ?_
 refine cP fun l4 n4=> ?_
 refine sr (c4 @e0 @fl @u0 @l3) ?_
 refine cP fun l6 n6=> ?_
 have d24:l2≠l4:=by rintro rfl;rw[Hp.bt]at n4;cases n4
 have d46:l4≠l6:=by rintro rfl;rw[Hp.bt]at n6;cases n6
 have d26:l2≠l6:=by rintro rfl;rw[Hp.aX _ _ d24,Hp.bt]at n6;cases n6
 have lQ:s l4=none:=by rw[Hp.aX _ _ (Ne.symm d24)]at n4;exact n4
 have ti:s l6=none:=by rw[Hp.aX _ _ (Ne.symm d46),Hp.aX _ _ (Ne.symm d26)]at n6;exact n6
 obtain⟨B,hB⟩: ∃B:Hp,B=(s.set l2 (.cells [.ptr l 0,.v (.int .i64 (d:Int))])).set l4 (.cells (aS cO .nil .nil .nil)):=⟨_,rfl⟩
 have dm:s.sub B:=by rw[hB];exact Hp.bT (Hp.bT Hp.aH n2) lQ
 have c2:B l2=some (.cells [.ptr l 0,.v (.int .i64 (d:Int))]):=by rw[hB,Hp.aX _ _ d24,Hp.bt]
 have c4:B l4=some (.cells (aS cO .nil .nil .nil)):=by rw[hB,Hp.bt]
 have n6B:B l6=none:=by rw[hB];exact n6
 have zl:=(eA (o1:= .nil) (o2:= .nil) (o3:= .nil) eY).len
 refine sr (c7 @e0 @fl @u0 @l3 @p3 @Hp.set_set @hlen) ?_
 rw[←hB]
 let yl:AV→AV:=fun a=> .agg [a,.v (.bool true)]
 have hev: ∀i,cn mA ((xs.take i).map fun r=>(r,true)) ((av.take i).map yl):=by
  have: ∀(xs:List (List Int)) (av:List AV),cn isRow xs av→cn mA (xs.map fun r=>(r,true)) (av.map yl):=by
   intro xs
   induction xs with
   |nil=>intro av h;cases av with
    |nil=>trivial
    |cons=>exact h.elim
   |cons x xs ih=>intro av h;cases av with
    |nil=>exact h.elim
    |cons a av=>exact⟨by obtain⟨o,rfl⟩:=h.1;exact⟨o,rfl⟩,ih av h.2⟩
  exact fun i=>this _ _ (hA.take i)
 have qd: ∀i,((av.take i).map yl).length≤100000:=fun i=>by rw[List.length_map,List.length_take,hA.len];omega
 have uE: ∀ {s':Hp}{c xs o},dx (B.set l6 (.cells c)) s' 2 xs o→s' l2=some (.cells [.ptr l 0,.v (.int .i64 (d:Int))])∧s' l4=some (.cells (aS cO .nil .nil .nil))∧s' l6=some (.cells c):=fun h=>⟨h.sub _ _ (by rw[Hp.aX _ _ d26];exact c2),h.sub _ _ (by rw[Hp.aX _ _ d46];exact c4),h.sub _ _ (Hp.bt _ _ _)⟩
 refine fS (fun f s'=> ∃(i:Nat) (o:Own),i≤xs.length∧dx (B.set l6 (.cells [.v (.int .u8 2),.sl ((av.take i).map yl) o,.sl [] .nil])) s' 2 ((av.take i).map yl) o∧
   f 2= .ptr l2 0∧f 4= .ptr l4 0∧f 6= .ptr l6 0∧f 10=x0∧f 11= .v (.int .i64 xs.length)∧f 12= .v (.int .i64 i))
  (fun f _=>match f 12 with| .v (.int _ n)=>xs.length - n.toNat| _=>0) ⟨0,.nil,by omega,?_,?_⟩ ?_
 ·rw[show(av.take 0).map yl= []from rfl,Hp.set_set];exact dx.nil Hp.aH
 ·exact nE
 rintro f s5 ⟨i,o,hi,hO,f2,f4,f6,f10,f11,f12⟩
 obtain⟨g2,g4,g6⟩:=uE hO
 by_cases aW:(i:Int)<xs.length
 ·have hw:xs[i]? =some xs[i]:=List.getElem?_eq_getElem (by omega)
  generalize xs[i]'(by omega)=r at hw
  obtain⟨a,iB,o9,rfl⟩:=hA.get hw
  obtain⟨p9,e9,gl⟩:=(hL.mono (Hp.cy dm (Hp.cy (Hp.bT (o:= .cells [.v (.int .u8 2),.sl ((av.take i).map yl) o,.sl [] .nil]) Hp.aH n6B) hO.sub))).get i _ iB
  have gj:=gl.ld s5 Hp.aH false 1 (by omega) (by simp[AV.cells])
  have m2:cK false 1 (AV.sl (bA r) o9).cells= .sl (bA r) o9:=rfl
  rw[m2]at gj
  have ht:(av.take (i+1)).map yl=(av.take i).map yl++ [.agg [.sl (bA r) o9,.v (.bool true)]]:=by
   rw[List.take_add_one,iB,List.map_append];rfl
  have m1: ∀a b c:AV,cK false 1 ([a,b,c].drop 1)=b:=fun _ _ _=>rfl
  have v0: ∀a b x:AV,putAt [a,b] 0 [x]= [x,b]:=fun _ _ _=>rfl
  have v1: ∀a b x:AV,putAt [a,b] 1 [x]= [a,x]:=fun _ _ _=>rfl
  have OQ: ∀a b:AV,[a,b].length=2:=fun _ _=>rfl
  have eb: ∀b:Bool,(AV.v (.bool b)).cells= [.v (.bool b)]:=fun _=>rfl
  have er: ∀(z:List AV) (p:Own),(AV.sl z p).cells= [.sl z p]:=fun _ _=>rfl
  refine sr (J3 @f2 @f4 @f6 @f10 @f11 @f12 @aW @e9 @gj (Hp.aV g6) @m1 @v0 @v1 @OQ @eb @er) ?_
  refine ik Hp.aH (by simp[dS,AV.cells]) fun oa sa ha=> ?_
  refine sr (c6 @f2 @f4 @f6 @f10 @f11 @f12) ?_
  refine mc (hO.mono ha.sub) ((hev i).cells fun _ _=>mA.cells) (by simp[dS,AV.cells]) (by have:=qd i;simp only[List.length_cons,List.length_nil];omega) (by have:=qd i;simp only[List.length_cons,List.length_nil];omega) fun ob sb hb=> ?_
  rw[←ht]at hb⊢
  obtain⟨k2,k4,k6⟩:=uE hb
  refine sr (gP @f2 @f4 @f6 @f10 @f11 @f12 (Hp.dG k6) @er @u1 @l3) ?_
  have rN:=hb.set (l:=l6) (ob:= .cells [.v (.int .u8 2),.sl ((av.take (i+1)).map yl) ob,.sl [] .nil]) (Hp.bt _ _ _)
  rw[Hp.set_set]at rN
  exact⟨⟨i+1,ob,by omega,rN,by simp⟩,by omega⟩
 ·obtain rfl:i=xs.length:=by omega
  have em: ∀a b c,cK true 3 [a,b,c]= .agg [a,b,c]:=fun _ _ _=>rfl
  have hE:=hev xs.length
  rw[List.take_length]at hE
  have Ec:=Hp.cy dm (Hp.cy (Hp.bT (o:= .cells [.v (.int .u8 2),.sl ((av.take xs.length).map yl) o,.sl [] .nil]) Hp.aH n6B) hO.sub)
  have nc:nR s5 (ig xs) (.sl ((av.take xs.length).map yl) o) (.sl [] .nil) ((av.take xs.length).map yl) []:=by
   refine⟨hE,trivial,Sl.sl (hE.cells fun _ _=>mA.cells),Sl.sl (by simp[dS]),?_,?_⟩
   ·simp only[ig,List.length_map];exact hn
   ·simp[ig]
  have ek:((ig xs).kind.toNat:Int)=2:=rfl
  refine sr (kg @f2 @f4 @f6 @f10 @f11 @f12 @aW (Hp.aV g2) (Hp.aV g6) @em @e0) ?_
  have hp:=Xf s5 l lM S (hS.mono Ec) (ig xs) _ _ _ _ d bq bg nc
  refine bC hp ?_
  rintro r s6 ⟨kJ,mT,hK⟩
  have oU:=hS.lY lQ
  have k4:=mT _ _ oU.1 oU.2 g4
  obtain⟨k,w1,w2,w3,e,hk,rfl⟩:=hK.shape
  have hJ:=eA (o1:=w1) (o2:=w2) (o3:=w3) hk
  have iM:=hJ.len
  have pz:putAt (aS cO .nil .nil .nil) 0 (aS k w1 w2 w3)=aS k w1 w2 w3:=jV eY hk
  refine sr (c9 @f2 @f4 @f6 @e0 (Hp.dG k4) @pz @iM @zl hJ.t37) ?_
  exact⟨_,Hp.aH,kJ.set oU,((Ext.of Ec).trans mT).set lQ,hK⟩
theorem Xg (s:Hp) (l lM:Nat) (S:bW) (hS:eC s l lM S) (ks:List Kd) (kv:List AV) (y:AV) (d:Nat) (bq:1≤d) (bg:d≤8) (hA:cn eK ks kv) (hL:Sl s 37 y kv) (hn:ks.length≤100000):
  AC Tryz.prog 62 [rJ l d,y] s fun r s'=>eC s' l lM (sU S d (mP ks)).2∧Ext l lM s s'∧zE (sU S d (mP ks)).1 r:=by
 refine cR hm ad9 (by simp) ?_
 have e0: ∀cs,(AV.agg cs).cells=cs:=fun _=>rfl
 have u0: ∀a b c x:AV,putAt [a,b,c] 0 [x]= [x,b,c]:=fun _ _ _ _=>rfl
 have u2: ∀a b c x:AV,putAt [a,b,c] 2 [x]= [a,b,x]:=fun _ _ _ _=>rfl
 have l3: ∀a b c:AV,[a,b,c].length=3:=fun _ _ _=>rfl
 have zl:=(eA (o1:= .nil) (o2:= .nil) (o3:= .nil) eY).len
 refine sr @e0 ?_
 refine cP fun l2 n2=> ?_
 refine sr (c2 @e0 @fl) ?_
 refine cP fun l4 n4=> ?_
 have d24:l2≠l4:=by rintro rfl;rw[Hp.bt]at n4;cases n4
 have lQ:s l4=none:=by rw[Hp.aX _ _ (Ne.symm d24)]at n4;exact n4
 obtain⟨B,hB⟩: ∃B:Hp,B=(s.set l2 (.cells [.ptr l 0,.v (.int .i64 (d:Int))])).set l4 (.cells (aS cO .nil .nil .nil)):=⟨_,rfl⟩
 have dm:s.sub B:=by rw[hB];exact Hp.bT (Hp.bT Hp.aH n2) lQ
 have c4:B l4=some (.cells (aS cO .nil .nil .nil)):=by rw[hB,Hp.bt]
 have ek:(AV.v (.int .u8 3)).cells= [.v (.int .u8 3)]:=rfl
 refine sr (c9 @e0 @fl @u0 @u2 @l3 hL.one @Hp.aX @d24 @Hp.bt) ?_
 rw[←hB]
 have nc:nR B (mP ks) (.sl [] .nil) y [] kv:=⟨trivial,hA,Sl.sl (by simp[dS]),hL.mono dm,by simp[mP],hn⟩
 refine bC (Xf B l lM S (hS.mono dm) (mP ks) _ _ _ _ d bq bg nc) ?_
 rintro r s6 ⟨kJ,mT,hK⟩
 have oU:=hS.lY lQ
 have k4:=mT _ _ oU.1 oU.2 c4
 obtain⟨k,w1,w2,w3,e,hk,rfl⟩:=hK.shape
 have hJ:=eA (o1:=w1) (o2:=w2) (o3:=w3) hk
 have iM:=hJ.len
 have pz:putAt (aS cO .nil .nil .nil) 0 (aS k w1 w2 w3)=aS k w1 w2 w3:=jV eY hk
 refine sr (c6 @e0 (Hp.dG k4) @pz @iM @zl hJ.t37) ?_
 exact⟨_,Hp.aH,kJ.set oU,((Ext.of dm).trans mT).set lQ,hK⟩
theorem QP (n:gM) (av kv:List AV) (x y:AV) (s:Hp) (hN:nR s n x y av kv):
  AC Tryz.prog 66 [xS n x y] s fun a s'=> ∃rv,cn isRow (n.rows.map Prod.fst) rv∧MO s s' 1 (flat rv) a:=by
 refine cR hm adf (by simp) ?_
 have e0: ∀cs,(AV.agg cs).cells=cs:=fun _=>rfl
 have lr:=hN.lx
 have h1:=hN.lr
 refine sr @e0 ?_
 refine cP fun l1 n1=> ?_
 obtain⟨B,hB⟩: ∃B:Hp,B=s.set l1 (.cells [.v (.int .u8 (n.kind.toNat:Int)),x,y]):=⟨_,rfl⟩
 have dm:s.sub B:=by rw[hB];exact Hp.bT Hp.aH n1
 have c1:B l1=some (.cells [.v (.int .u8 (n.kind.toNat:Int)),x,y]):=by rw[hB,Hp.bt]
 have Ua:=hN.sx.mono dm
 refine sr (c3 @e0 @Hp.bt @lr) ?_
 rw[show s.set l1 (.cells (xS n x y).cells)=B from hB.symm]
 refine fS (fun f s'=> ∃(i:Nat) (a:AV) (rv:List AV),i≤n.rows.length∧cn isRow ((n.rows.take i).map Prod.fst) rv∧MO B s' 1 (flat rv) a∧f 1= .ptr l1 0∧f 3=a∧f 7=x∧f 8= .v (.int .i64 n.rows.length)∧f 9= .v (.int .i64 i))
  (fun f _=>match f 9 with| .v (.int _ m)=>n.rows.length - m.toNat| _=>0) ⟨0,.sl [] .nil,[],by omega,trivial,MO.nil Hp.aH,?_⟩ ?_
 ·exact nE
 rintro f s5 ⟨i,a,rv,hi,hA,hM,f1,f3,f7,f8,f9⟩
 by_cases aW:(i:Int)<n.rows.length
 ·have hw:n.rows[i]? =some n.rows[i]:=List.getElem?_eq_getElem (by omega)
  have ht:n.rows.take (i+1)=n.rows.take i++ [n.rows[i]]:=by rw[List.take_add_one,hw];rfl
  generalize n.rows[i]'(by omega)=r at hw ht
  obtain⟨b,iB,o9,rfl⟩:=hN.rows.get hw
  obtain⟨p9,e9,gl⟩:=Ua.get i _ iB
  have gj:=gl.ld s5 hM.1 true 2 (by omega) (by simp[AV.cells])
  have m2:cK true 2 (AV.agg [.sl (bA r.1) o9,.v (.bool r.2)]).cells= .agg [.sl (bA r.1) o9,.v (.bool r.2)]:=rfl
  have p2: ∀a b c d:AV,putAt [a,b] 0 [c,d]= [c,d]:=fun _ _ _ _=>rfl
  have l2: ∀a b:AV,[a,b].length=2:=fun _ _=>rfl
  have mh: ∀a b:AV,cK false 1 [a,b]=a:=fun _ _=>rfl
  rw[m2]at gj
  refine sr (kg @f1 @f3 @f7 @f8 @f9 @aW @e9 @gj @e0 @p2 @l2) ?_
  refine cP fun l5 n5=> ?_
  have qH:=MO.mono hM (Hp.bT (o:= .cells [.sl (bA r.1) o9,.v (.bool r.2)]) Hp.aH n5)
  refine sr (kg @f1 @f3 @f7 @f8 @f9 @e0 @p2 @l2 @mh @Hp.set_set @Hp.bt) ?_
  refine DV (by simp[dS,AV.cells]) (by simp) fun g hg=> ?_
  have AM:=MO.mono qH (Hp.bT (o:= .cells (flat [AV.sl (bA r.1) o9])) Hp.aH hg)
  have Ds:cn isRow ((n.rows.take i).map Prod.fst++ [r.1]) (rv++ [AV.sl (bA r.1) o9]):=hA.snoc ⟨_,rfl⟩
  have ke:(flat rv).length=i:=by
   rw[ny (hA.cells fun _ _=>isRow.cells),hA.len];simp;omega
  refine sr (c5 @f1 @f3 @f7 @f8 @f9) ?_
  refine lX AM (by omega) (I5 rfl) rfl (by rw[ke];simp[flat,AV.cells];omega) (by rw[ke];simp[flat,AV.cells];omega) fun a' s9 qW=> ?_
  have ef:flat rv++flat [AV.sl (bA r.1) o9]=flat (rv++ [AV.sl (bA r.1) o9]):=by simp[flat]
  rw[ef]at qW
  refine sr (c5 @f1 @f3 @f7 @f8 @f9) ?_
  refine⟨⟨i+1,a',_,by omega,?_,qW,by simp⟩,by omega⟩
  rw[ht,List.map_append];exact Ds
 ·obtain rfl:i=n.rows.length:=by omega
  rw[List.take_length]at hA
  refine sr (c6 @f1 @f3 @f7 @f8 @f9 @aW) ?_
  exact⟨_,Hp.aH,rv,hA,hM.base dm⟩
def vf (S:bW) (d:Nat) (k:Kd):Option gM:=
 match Am S d k with
 |none=>none
 |some n=>if n.kind=2∨n.kind=3 then some n else none
theorem MW (s:Hp) (l lM:Nat) (S:bW) (hS:eC s l lM S) (k:Kd) (o1 o2 o3:Own) (gQ:k.sum.length=32) (mj:k.Sh) (d:Nat) (bq:1≤d) (bg:d≤8):
  AC Tryz.prog 64 [rJ l d,.agg (aS k o1 o2 o3)] s fun r s'=>s.sub s'∧match vf S d k with
   |none=>r= .dr [St,.v (.int .i64 21)]
   |some n=> ∃x y,r= .dr [xS n x y,.v (.int .i64 0)]∧uv s s' n x y:=by
 refine cR hm adb (by simp) ?_
 have e0: ∀cs,(AV.agg cs).cells=cs:=fun _=>rfl
 have p3: ∀a b c x y z:AV,putAt [a,b,c] 0 [x,y,z]= [x,y,z]:=fun _ _ _ _ _ _=>rfl
 have em: ∀a b c,cK true 3 [a,b,c]= .agg [a,b,c]:=fun _ _ _=>rfl
 have l3: ∀a b c:AV,[a,b,c].length=3:=fun _ _ _=>rfl
 have hK:=eA (o1:=o1) (o2:=o2) (o3:=o3) gQ
 have fL:=hK.len
 refine sr @e0 ?_
 refine cP fun l2 n2=> ?_
 refine sr (c2 @e0 @fL) ?_
 refine cP fun OR n3=> ?_
 have d23:l2≠OR:=by rintro rfl;rw[Hp.bt]at n3;cases n3
 have AK:s OR=none:=by rw[Hp.aX _ _ (Ne.symm d23)]at n3;exact n3
 refine sr (c2 @e0 @fL) ?_
 refine cP fun l4 n4=> ?_
 have d34:OR≠l4:=by rintro rfl;rw[Hp.bt]at n4;cases n4
 have d24:l2≠l4:=by rintro rfl;rw[Hp.aX _ _ d23,Hp.bt]at n4;cases n4
 have lQ:s l4=none:=by rw[Hp.aX _ _ (Ne.symm d34),Hp.aX _ _ (Ne.symm d24)]at n4;exact n4
 obtain⟨B,hB⟩: ∃B:Hp,B=((s.set l2 (.cells [.ptr l 0,.v (.int .i64 (d:Int))])).set OR (.cells (aS k o1 o2 o3))).set l4 (.cells [.v (.int .u8 0),.sl [] .nil,.sl [] .nil]):=⟨_,rfl⟩
 have dm:s.sub B:=by rw[hB];exact Hp.bT (Hp.bT (Hp.bT Hp.aH n2) AK) lQ
 have c4:B l4=some (.cells [.v (.int .u8 0),.sl [] .nil,.sl [] .nil]):=by rw[hB,Hp.bt]
 have fin: ∀(s':Hp) (ob:Ob),s.sub s'→s.sub (s'.set l4 ob):=fun s' ob h=>Hp.bT h lQ
 refine sr (c8 @e0 @fL @Hp.aX @d23 @d24 @d34 @Hp.bt hK.t37) ?_
 rw[←hB]
 refine bC (XQ B l lM S (hS.mono dm) k o1 o2 o3 gQ mj d bq bg) ?_
 rintro r s1 ⟨h1,hr⟩
 have wQ:=Hp.cy dm h1
 have g4:=h1 _ _ c4
 unfold vf
 cases hg:Am S d k with
 |none=>
  rw[hg]at hr
  obtain rfl:=hr
  refine sr (c3 @e0 @p3 @l3) ?_
  refine cP fun l6 n6=> ?_
  have d46:l4≠l6:=by rintro rfl;rw[g4]at n6;cases n6
  have d64:=Ne.symm d46
  refine sr (c9 @e0 @p3 @l3 @em @Hp.set_set @Hp.aX @d46 @d64 (Hp.dG g4)) ?_
  exact⟨_,Hp.aH,fin _ _ (Hp.cy wQ (Hp.bT Hp.aH n6))⟩
 |some n=>
  rw[hg]at hr
  obtain⟨x,y,rfl,ss⟩:=hr
  simp -dsimp -implicitDefEqProofs (disch:=first|omega|assumption|(simp only[rL,Nat.reduceAdd];try omega)) only[go_sem,simprocAttr,-List.reduceReplicate,e0,p3,l3,em]
  refine cP fun l6 n6=> ?_
  have d46:l4≠l6:=by rintro rfl;rw[g4]at n6;cases n6
  have d64:=Ne.symm d46
  have aib:=(ss.mono (Hp.bT (o:= .cells [.v (.int .u8 (n.kind.toNat:Int)),x,y]) Hp.aH n6)).set (ob:= .cells [.v (.int .u8 (n.kind.toNat:Int)),x,y]) c4
  have a1b:=aib.base (fin _ _ dm)
  have Ac:=Hp.cy wQ (Hp.bT (o:= .cells [.v (.int .u8 (n.kind.toNat:Int)),x,y]) Hp.aH n6)
  have b2:=Bv n.kind 2 (by omega)
  have b3:=Bv n.kind 3 (by omega)
  simp only[Int.cast_ofNat_Int]at b2 b3
  simp only
  by_cases k2:n.kind=2
  ·have i2:((n.kind.toNat:Int)=2)=True:=by rw[k2];simp
   refine sr (kg @e0 @p3 @l3 @em @Hp.set_set @Hp.bt @Hp.aX @d46 @d64 (Hp.dG g4) @i2) ?_
   refine⟨_,Hp.aH,fin _ _ Ac,?_⟩
   rw[if_pos (.inl k2)]
   exact⟨x,y,rfl,a1b⟩
  ·have i2: ¬(n.kind.toNat:Int)=2:=fun h=>k2 (by have:=b2;simp only[h,decide_true]at this;simpa using this.symm)
   by_cases k3:n.kind=3
   ·have i3:((n.kind.toNat:Int)=3)=True:=by rw[k3];simp
    refine sr (oS @e0 @p3 @l3 @em @Hp.set_set @Hp.bt @Hp.aX @d46 @d64 (Hp.dG g4) @i2 @i3) ?_
    refine⟨_,Hp.aH,fin _ _ Ac,?_⟩
    rw[if_pos (.inr k3)]
    exact⟨x,y,rfl,a1b⟩
   ·have i3: ¬(n.kind.toNat:Int)=3:=fun h=>k3 (by have:=b3;simp only[h,decide_true]at this;simpa using this.symm)
    refine sr (oS @e0 @p3 @l3 @em @Hp.set_set @Hp.bt @Hp.aX @d46 @d64 (Hp.dG g4) @i2 @i3) ?_
    refine⟨_,Hp.aH,fin _ _ Ac,?_⟩
    rw[if_neg (fun h=>h.elim k2 k3)]
    trivial
theorem Nm (n:gM) (av kv:List AV) (x y:AV) (s:Hp) (hN:nR s n x y av kv):
  AC Tryz.prog 75 [xS n x y] s fun r s'=> ∃a rv,r= .agg [.v (.bool (decide (n.kind=2))),a,y]∧cn isRow (n.rows.map Prod.fst) rv∧MO s s' 1 (flat rv) a:=by
 refine cR hm adn (by simp) ?_
 have e0: ∀cs,(AV.agg cs).cells=cs:=fun _=>rfl
 have em: ∀a b c,cK true 3 [a,b,c]= .agg [a,b,c]:=fun _ _ _=>rfl
 have l3: ∀a b c:AV,[a,b,c].length=3:=fun _ _ _=>rfl
 have p3: ∀a b c x y z:AV,putAt [a,b,c] 0 [x,y,z]= [x,y,z]:=fun _ _ _ _ _ _=>rfl
 have u0: ∀a b c x:AV,putAt [a,b,c] 0 [x]= [x,b,c]:=fun _ _ _ _=>rfl
 have u1: ∀a b c x:AV,putAt [a,b,c] 1 [x]= [a,x,c]:=fun _ _ _ _=>rfl
 have u2: ∀a b c x:AV,putAt [a,b,c] 2 [x]= [a,b,x]:=fun _ _ _ _=>rfl
 have eb: ∀b:Bool,(AV.v (.bool b)).cells= [.v (.bool b)]:=fun _=>rfl
 have m2: ∀a b c:AV,cK false 1 ([a,b,c].drop 2)=c:=fun _ _ _=>rfl
 have t3: ∀a b c:AV,List.take 3 [a,b,c]= [a,b,c]:=fun _ _ _=>rfl
 refine sr @e0 ?_
 refine cP fun l1 n1=> ?_
 refine sr @e0 ?_
 refine cP fun l2 n2=> ?_
 have d12:l1≠l2:=by rintro rfl;rw[Hp.bt]at n2;cases n2
 have LB:s l2=none:=by rw[Hp.aX _ _ (Ne.symm d12)]at n2;exact n2
 obtain⟨B,hB⟩: ∃B:Hp,B=(s.set l1 (.cells [.v (.int .u8 (n.kind.toNat:Int)),x,y])).set l2 (.cells [.v (.bool false),.sl [] .nil,.sl [] .nil]):=⟨_,rfl⟩
 have dm:s.sub B:=by rw[hB];exact Hp.bT (Hp.bT Hp.aH n1) LB
 have c1:B l1=some (.cells [.v (.int .u8 (n.kind.toNat:Int)),x,y]):=by rw[hB,Hp.aX _ _ d12,Hp.bt]
 have c2:B l2=some (.cells [.v (.bool false),.sl [] .nil,.sl [] .nil]):=by rw[hB,Hp.bt]
 have hk:=Bv n.kind 2 (by omega)
 simp only[Int.cast_ofNat_Int]at hk
 have Gj:UInt8.ofNat 2=2:=rfl
 rw[Gj]at hk
 refine sr (c6 @e0 @Hp.aX @d12 @Hp.bt @em @t3) ?_
 rw[←hB]
 refine bC (QP n av kv x y B (hN.mono dm)) ?_
 rintro a s1 ⟨rv,hA,hM⟩
 have g1:=hM.1 _ _ c1
 have g2:=hM.1 _ _ c2
 have ea:a.cells= [a]:=DZ hM
 have ey:=hN.sy.one
 refine sr (Gr @e0 (Hp.aV g1) (Hp.dG g2) @em @t3 @m2 @eb @ea @ey @u0 @u1 @u2 @l3 @p3 @hk) ?_
 refine⟨_,Hp.aH,a,rv,rfl,hA,?_⟩
 exact(BD hM c2).base (Hp.bT dm LB)
theorem a8H (b:AV) (x y:AV) (n m:Nat) (hx:x.cells= [x]) (hy:y.cells= [y]) (hb:b.cells= [b]) (lx:wN x=some (.v (.int .i64 (n:Int)))) (ly:wN y=some (.v (.int .i64 (m:Int)))) (hn:n≤1000000000000) (OG:m≤1000000000000) (s:Hp):
  AC Tryz.prog 110 [.agg [b,x,y]] s fun r s'=>s'=s∧r= .v (.bool (decide (n+m<2))):=by
 refine cR hm a9r (by simp) ?_
 have e0: ∀cs,(AV.agg cs).cells=cs:=fun _=>rfl
 refine sr @e0 ?_
 refine cP fun l1 n1=> ?_
 refine sr (c3 @e0 @lx @ly) ?_
 have e:decide ((n:Int)+m<2)=decide (n+m<2):=by
  have:((n:Int)+m<2)↔n+m<2:=by omega
  simp only[this]
 exact⟨s,Hp.bT Hp.aH n1,rfl,by rw[e]⟩
def BI (S:bW) (d:Nat) (leaf:Bool) (rs:List (List Int)) (ks:List Kd):Except Int Kd×bW:=if leaf=true then sU S d (ig rs)else sU S d (mP ks)
theorem QQ (s:Hp) (l lM:Nat) (S:bW) (hS:eC s l lM S) (leaf:Bool) (rs:List (List Int)) (rv:List AV) (x:AV) (ks:List Kd) (kv:List AV) (y:AV) (d:Nat) (bq:1≤d) (bg:d≤8) (hA:cn isRow rs rv) (hL:Sl s 1 x rv) (hn:rs.length≤100000) (nF:cn eK ks kv) (hL2:Sl s 37 y kv) (vo:ks.length≤100000):
  AC Tryz.prog 44 [rJ l d,.agg [.v (.bool leaf),x,y]] s fun r s'=>eC s' l lM (BI S d leaf rs ks).2∧Ext l lM s s'∧zE (BI S d leaf rs ks).1 r:=by
 refine cR hm acV (by simp) ?_
 have e0: ∀cs,(AV.agg cs).cells=cs:=fun _=>rfl
 have zl:=(eA (o1:= .nil) (o2:= .nil) (o3:= .nil) eY).len
 have t2: ∀a b:AV,List.take 2 [a,b]= [a,b]:=fun _ _=>rfl
 have em: ∀a b,cK true 2 [a,b]= .agg [a,b]:=fun _ _=>rfl
 refine sr @e0 ?_
 refine cP fun l2 n2=> ?_
 refine sr @e0 ?_
 refine cP fun l3 n3=> ?_
 have d23:l2≠l3:=by rintro rfl;rw[Hp.bt]at n3;cases n3
 have AK:s l3=none:=by rw[Hp.aX _ _ (Ne.symm d23)]at n3;exact n3
 refine sr (c2 @e0 @fl) ?_
 refine cP fun l4 n4=> ?_
 have d34:l3≠l4:=by rintro rfl;rw[Hp.bt]at n4;cases n4
 have d24:l2≠l4:=by rintro rfl;rw[Hp.aX _ _ d23,Hp.bt]at n4;cases n4
 have lQ:s l4=none:=by rw[Hp.aX _ _ (Ne.symm d34),Hp.aX _ _ (Ne.symm d24)]at n4;exact n4
 obtain⟨B,hB⟩: ∃B:Hp,B=((s.set l2 (.cells [.ptr l 0,.v (.int .i64 (d:Int))])).set l3 (.cells [.v (.bool leaf),x,y])).set l4 (.cells (aS cO .nil .nil .nil)):=⟨_,rfl⟩
 have dm:s.sub B:=by rw[hB];exact Hp.bT (Hp.bT (Hp.bT Hp.aH n2) AK) lQ
 have c4:B l4=some (.cells (aS cO .nil .nil .nil)):=by rw[hB,Hp.bt]
 have oU:=hS.lY lQ
 unfold BI
 have fin: ∀(o:Except Int Kd) (S':bW) (r:AV) (s6:Hp),eC s6 l lM S'→Ext l lM B s6→zE o r→s6 l4=some (.cells (aS cO .nil .nil .nil)):=fun o S' r s6 _ hE _=>hE _ _ oU.1 oU.2 c4
 cases leaf with
 |true=>
  refine sr (c9 @e0 @fl @Hp.aX @d23 @d24 @d34 @Hp.bt @t2 @em) ?_
  rw[←hB]
  refine bC (QO B l lM S (hS.mono dm) rs rv x d bq bg hA (hL.mono dm) hn) ?_
  rintro r s6 ⟨kJ,mT,hK⟩
  have k4:=fin _ _ _ _ kJ mT hK
  obtain⟨k,w1,w2,w3,e,hk,rfl⟩:=hK.shape
  have hJ:=eA (o1:=w1) (o2:=w2) (o3:=w3) hk
  have iM:=hJ.len
  have pz:putAt (aS cO .nil .nil .nil) 0 (aS k w1 w2 w3)=aS k w1 w2 w3:=jV eY hk
  refine sr (c6 @e0 (Hp.dG k4) @pz @iM @zl hJ.t37) ?_
  exact⟨_,Hp.aH,kJ.set oU,((Ext.of dm).trans mT).set lQ,hK⟩
 |false=>
  refine sr (c9 @e0 @fl @Hp.aX @d23 @d24 @d34 @Hp.bt @t2 @em) ?_
  rw[←hB]
  refine bC (Xg B l lM S (hS.mono dm) ks kv y d bq bg nF (hL2.mono dm) vo) ?_
  rintro r s6 ⟨kJ,mT,hK⟩
  have k4:=fin _ _ _ _ kJ mT hK
  obtain⟨k,w1,w2,w3,e,hk,rfl⟩:=hK.shape
  have hJ:=eA (o1:=w1) (o2:=w2) (o3:=w3) hk
  have iM:=hJ.len
  have pz:putAt (aS cO .nil .nil .nil) 0 (aS k w1 w2 w3)=aS k w1 w2 w3:=jV eY hk
  refine sr (c6 @e0 (Hp.dG k4) @pz @iM @zl hJ.t37) ?_
  exact⟨_,Hp.aH,kJ.set oU,((Ext.of dm).trans mT).set lQ,hK⟩
abbrev uw (p:List Int) (n:gM):Nat:=au.jK da p (n.kids.map (·.key))
theorem a7c {p k0 k1:List Int}{r:List (List Int)}:au.jK da p (k0::k1::r)=if da p k1=true then 0 else au.jK da p (k1::r)+1:=rfl
theorem Yw (n:gM) (av kv:List AV) (x y:AV) (p:List Int) (o:Own) (s:Hp) (hN:nR s n x y av kv):
  AC Tryz.prog 69 [xS n x y,.sl (bA p) o] s fun r s'=>s'=s∧r= .v (.int .i64 (uw p n:Int)):=by
 refine cR hm adi (by simp) ?_
 have e0: ∀cs,(AV.agg cs).cells=cs:=fun _=>rfl
 have lk:=hN.ly
 have h2:=hN.lk
 refine sr @e0 ?_
 refine cP fun l2 n2=> ?_
 obtain⟨B,hB⟩: ∃B:Hp,B=s.set l2 (.cells [.v (.int .u8 (n.kind.toNat:Int)),x,y]):=⟨_,rfl⟩
 have dm:s.sub B:=by rw[hB];exact Hp.bT Hp.aH n2
 have c2:B l2=some (.cells [.v (.int .u8 (n.kind.toNat:Int)),x,y]):=by rw[hB,Hp.bt]
 have LC:=hN.sy.mono dm
 refine sr @e0 ?_
 rw[show s.set l2 (.cells (xS n x y).cells)=B from hB.symm]
 refine fS (fun f s'=> ∃i:Nat,s'=B∧uw p n=i+au.jK da p ((n.kids.map (·.key)).drop i)∧i≤n.kids.length∧f 1= .sl (bA p) o∧f 2= .ptr l2 0∧f 5= .v (.int .i64 i))
  (fun f _=>match f 5 with| .v (.int _ m)=>n.kids.length - m.toNat| _=>0) ⟨0,rfl,by simp,by omega,?_⟩ ?_
 ·exact nE
 rintro f s5 ⟨i,rfl,hw,hi,f1,f2,f5⟩
 have m2: ∀a b c:AV,cK false 1 ([a,b,c].drop 2)=c:=fun _ _ _=>rfl
 by_cases aW:(i:Int)+1<n.kids.length
 ·have hg:n.kids[i+1]? =some n.kids[i+1]:=List.getElem?_eq_getElem (by omega)
  have hd:(n.kids.map (·.key)).drop i=(n.kids[i]'(by omega)).key::(n.kids[i+1]'(by omega)).key::(n.kids.map (·.key)).drop (i+2):=by
   rw[List.drop_eq_getElem_cons (by rw[List.length_map];omega),List.drop_eq_getElem_cons (i:=i+1) (by rw[List.length_map];omega)];simp
  have bq:(n.kids.map (·.key)).drop (i+1)=(n.kids[i+1]'(by omega)).key::(n.kids.map (·.key)).drop (i+2):=by
   rw[List.drop_eq_getElem_cons (i:=i+1) (by rw[List.length_map];omega)];simp
  rw[hd,a7c,←bq]at hw
  clear hd bq
  generalize n.kids[i+1]'(by omega)=k at hg hw
  obtain⟨a,iB,gQ,mj,w1,w2,w3,rfl⟩:=hN.kids.get hg
  obtain⟨p9,e9,gl⟩:=LC.get (i+1) _ iB
  have hK:=eA (o1:=w1) (o2:=w2) (o3:=w3) gQ
  have ek:(AV.agg (aS k w1 w2 w3)).cells=aS k w1 w2 w3:=rfl
  rw[ek]at gl
  obtain⟨p8,e8,gj⟩:=gl.fa s5 Hp.aH 36 false 1 (by omega) (by rw[hK.len];omega)
  have mk:cK false 1 ((aS k w1 w2 w3).drop 36)= .sl (bA k.key) w3:=by rw[hK.d36];rfl
  rw[mk]at gj
  have ec:((i+1:Nat):Int)=(i:Int)+1:=by omega
  rw[ec]at e9
  refine sr (gP @f1 @f2 @f5 (Hp.aV c2) @m2 @lk @aW @e9 @e8 @gj) ?_
  refine bC (JU p k.key o w3 _) ?_
  rintro _ s5 ⟨rfl,rfl⟩
  cases hq:da p k.key with
  |true=>
   rw[if_pos hq]at hw
   refine sr (c4 @f1 @f2 @f5 @Bool.not_true) ?_
   exact⟨s,dm,rfl,by rw[hw];simp⟩
  |false=>
   rw[if_neg (by simp[hq])]at hw
   refine sr (c4 @f1 @f2 @f5 @Bool.not_false) ?_
   exact⟨⟨i+1,by omega,by omega,by simp⟩,by omega⟩
 ·have hz:au.jK da p ((n.kids.map (·.key)).drop i)=0:=by
   have hl:((n.kids.map (·.key)).drop i).length≤1:=by rw[List.length_drop,List.length_map];omega
   generalize (n.kids.map (·.key)).drop i=L at hl
   match L,hl with
   | [],_=>rfl
   | [_],_=>rfl
  rw[hz]at hw
  refine sr (c7 @f1 @f2 @f5 (Hp.aV c2) @m2 @lk @aW) ?_
  exact⟨s,dm,rfl,by rw[hw];simp⟩
def BN (xs:List (List Int)) (p:List Int):Nat→Nat→Nat→Nat
 |0,i,_=>i
 |n+1,i,j=>if i<j then(match xs[(i+j)/2]? with
  |some x=>if zh x p<0 then BN xs p n ((i+j)/2+1) j else BN xs p n i ((i+j)/2)
  |none=>i)else i
def oV (xs:List (List Int)) (p:List Int):Nat:=BN xs p xs.length 0 xs.length
def xU (xs:List (List Int)) (p:List Int):Bool:=match xs[oV xs p]? with|some x=>decide (zh x p=0)|none=>false
theorem Zt (xs:List (List Int)) (av:List AV) (x0:AV) (p:List Int) (o:Own) (s:Hp) (hA:cn isRow xs av) (hS:Sl s 1 x0 av) (hn:xs.length≤1000000000000):
  AC Tryz.prog 65 [x0,.sl (bA p) o,.eU 31 [] []] s fun r s'=>s'=s∧oV xs p≤xs.length∧r= .dr [.v (.int .i64 (oV xs p:Int)),.v (.bool (xU xs p))]:=by
 refine cR hm ade (by simp) ?_
 have hL:=hS.len
 rw[hA.len]at hL
 refine sr @hL ?_
 have im:A5 Tryz.prog 31=true:=by kernel_rfl
 refine fS (fun f s'=> ∃(fu i j:Nat),s'=s∧oV xs p=BN xs p fu i j∧i≤j∧j≤xs.length∧j - i≤fu∧f 0=x0∧f 1= .sl (bA p) o∧f 2= .eU 31 [] []∧f 8= .v (.int .i64 xs.length)∧f 9= .v (.int .i64 i)∧f 10= .v (.int .i64 j))
  (fun f _=>match f 9,f 10 with| .v (.int _ i),.v (.int _ j)=>(j - i).toNat| _,_=>0) ⟨xs.length,0,xs.length,rfl,rfl,by omega,by omega,by omega,?_⟩ ?_
 ·exact nE
 rintro f s5 ⟨fu,i,j,rfl,hb,OS,hj,OT,f0,f1,f2,f8,f9,f10⟩
 by_cases aW:(i:Int)<(j:Int)
 ·obtain⟨fu',rfl⟩: ∃m,fu=m+1:=⟨fu - 1,by omega⟩
  have aic:i<j:=by omega
  have hh:(i+j)/2<xs.length:=by omega
  have hw:xs[(i+j)/2]? =some xs[(i+j)/2]:=List.getElem?_eq_getElem hh
  rw[BN,if_pos aic,hw]at hb
  simp only at hb
  generalize xs[(i+j)/2]'hh=r at hw hb
  obtain⟨a,iB,o9,rfl⟩:=hA.get hw
  obtain⟨p9,e9,gl⟩:=hS.get _ _ iB
  have gj:=gl.ld s5 Hp.aH false 1 (by omega) (by simp[AV.cells])
  have mk:cK false 1 (AV.sl (bA r) o9).cells= .sl (bA r) o9:=rfl
  rw[mk]at gj
  have w1:IntKind.u64.wrap ((i:Int)+j)=((i+j:Nat):Int):=by rw[wrap_u64 (by omega) (by omega)];omega
  have w2:eL .shr (.int .u64 ((i+j:Nat):Int)) (.int .u64 1)=some (.int .u64 (((i+j)/2:Nat):Int)):=by
   rw[Rr _ _ _ (by omega) (by omega)];simp[Nat.shiftRight_eq_div_pow]
  have w3:IntKind.i64.wrap (((i+j)/2:Nat):Int)=(((i+j)/2:Nat):Int):=wrap_i64 (by omega) (by omega)
  generalize hH:(i+j)/2=H at*
  refine sr (oS @f0 @f1 @f2 @f8 @f9 @f10 @aW @w1 @w2 @w3 @e9 @gj) ?_
  refine zT im (Qu r p o9 o _) ?_
  rintro _ s5 ⟨rfl,rfl⟩
  by_cases hc:zh r p<0
  ·rw[if_pos hc]at hb
   refine sr (c7 @f0 @f1 @f2 @f8 @f9 @f10 @hc) ?_
   exact⟨⟨fu',H+1,j,hb,by omega,by omega,by omega,by simp⟩,by omega⟩
  ·rw[if_neg hc]at hb
   refine sr (c7 @f0 @f1 @f2 @f8 @f9 @f10 @hc) ?_
   exact⟨⟨fu',i,H,hb,by omega,by omega,by omega,by simp⟩,by omega⟩
 ·obtain rfl:i=j:=by omega
  have qg:oV xs p=i:=by rw[hb];cases fu<;>simp[BN]
  unfold xU
  rw[qg]
  by_cases hl:(i:Int)<xs.length
  ·have hw:xs[i]? =some xs[i]:=List.getElem?_eq_getElem (by omega)
   rw[hw]
   generalize xs[i]'(by omega)=r at hw
   obtain⟨a,iB,o9,rfl⟩:=hA.get hw
   obtain⟨p9,e9,gl⟩:=hS.get _ _ iB
   have gj:=gl.ld s5 Hp.aH false 1 (by omega) (by simp[AV.cells])
   have mk:cK false 1 (AV.sl (bA r) o9).cells= .sl (bA r) o9:=rfl
   rw[mk]at gj
   refine sr (gP @f0 @f1 @f2 @f8 @f9 @f10 @aW @hl @e9 @gj) ?_
   refine zT im (Qu r p o9 o _) ?_
   rintro _ s5 ⟨rfl,rfl⟩
   refine sr (c6 @f0 @f1 @f2 @f8 @f9 @f10) ?_
   exact⟨_,Hp.aH,rfl,by omega⟩
  ·have hw:xs[i]? =none:=List.getElem?_eq_none (by omega)
   rw[hw]
   refine sr (c8 @f0 @f1 @f2 @f8 @f9 @f10 @aW @hl) ?_
   exact⟨_,Hp.aH,rfl,by omega⟩
def MS (s0 s:Hp) (l lM:Nat) (S:bW) (k:Nat) (us:List AV) (a:AV):Prop:= ∃B,MO B s k us a∧eC B l lM S∧Ext l lM s0 B
theorem MS.nil {s:Hp}{l lM k:Nat}{S:bW} (h:eC s l lM S):MS s s l lM S k [] (.sl [] .nil):=⟨s,MO.nil Hp.aH,h,Ext.refl⟩
theorem MS.Dv {s0 s:Hp}{l lM:Nat}{S:bW}{k:Nat}{us:List AV}{a:AV} (h:MS s0 s l lM S k us a):eC s l lM S:=by
 obtain⟨B,h1,h2,_⟩:=h;exact h2.mono h1.1
theorem MS.ext {s0 s:Hp}{l lM:Nat}{S:bW}{k:Nat}{us:List AV}{a:AV} (h:MS s0 s l lM S k us a):Ext l lM s0 s:=by
 obtain⟨B,h1,_,h3⟩:=h;exact h3.trans (Ext.of h1.1)
theorem MS.of {s0 B s:Hp}{l lM:Nat}{S:bW}{k:Nat}{us:List AV}{a:AV} (h:MO B s k us a) (h2:eC B l lM S) (h3:Ext l lM s0 B):MS s0 s l lM S k us a:=⟨B,h,h2,h3⟩
theorem MS.mono {s0 s s':Hp}{l lM:Nat}{S:bW}{k:Nat}{us:List AV}{a:AV} (h:MS s0 s l lM S k us a) (hs:s.sub s'):MS s0 s' l lM S k us a:=by
 obtain⟨B,h1,h2⟩:=h;exact⟨B,h1.mono hs,h2⟩
theorem MS.base {s0 s1 s:Hp}{l lM:Nat}{S:bW}{k:Nat}{us:List AV}{a:AV} (h:MS s0 s l lM S k us a) (hs:Ext l lM s1 s0):MS s1 s l lM S k us a:=by
 obtain⟨B,h1,h2,h3⟩:=h;exact⟨B,h1,h2,hs.trans h3⟩
theorem MS.step {s0 s s':Hp}{l lM:Nat}{S S':bW}{k:Nat}{us:List AV}{a:AV} (h:MS s0 s l lM S k us a) (hE:Ext l lM s s') (hS:eC s' l lM S'):MS s0 s' l lM S' k us a:=by
 obtain⟨B,⟨h1,h4⟩,h2,h3⟩:=h
 have bI:=hS.ne
 refine⟨fun x=>if x=l then s' l else if x=lM then s' lM else B x,⟨fun x o hx=> ?_,?_⟩,hS.other (by simp) (by simp[Ne.symm bI]),fun x o x1 x2 hx=> ?_⟩
 ·by_cases e1:x=l
  ·subst e1;simpa using hx
  ·by_cases e2:x=lM
   ·subst e2;simpa[e1] using hx
   ·simp only[e1,e2,if_false]at hx
    exact hE _ _ e1 e2 (h1 _ _ hx)
 ·rcases h4 with h4|⟨b,n,cap,cs,q1,q2,q3,q4⟩
  ·exact .inl h4
  ·have e:=h2.lY q2
   exact .inr ⟨b,n,cap,cs,q1,by simp only[e.1,e.2,if_false];exact q2,hE _ _ e.1 e.2 q3,q4⟩
 ·simp only[x1,x2,if_false];exact h3 _ _ x1 x2 hx
theorem WK {k:Nat} (hk:k≠1): ∀ {kv:List AV},(∀a∈kv,∃cs,a= .agg cs∧cs.length=k)→nN k kv.length (flat kv)=kv:=by
 intro kv h
 have hc:dS k kv:=fun a ha=>by obtain⟨cs,rfl,h2⟩:=h a ha;exact h2
 unfold nN
 rw[if_neg hk]
 refine List.ext_getElem? fun i=> ?_
 rw[List.getElem?_map]
 by_cases hi:i<kv.length
 ·rw[List.getElem?_range hi]
  have hg:kv[i]? =some kv[i]:=List.getElem?_eq_getElem hi
  have:=W4 hc hg
  obtain⟨cs,h1,_⟩:=h _ (List.getElem_mem hi)
  rw[hg,Option.map_some,this,h1];rfl
 ·have e1:kv[i]? =none:=List.getElem?_eq_none (by omega)
  have e2:(List.range kv.length)[i]? =none:=List.getElem?_eq_none (by rw[List.length_range];omega)
  rw[e1,e2];rfl
theorem Yx {ks:List Kd}{kv:List AV} (h:cn eK ks kv): ∀a∈kv,∃cs,a= .agg cs∧cs.length=37:=by
 intro a ha
 obtain⟨i,hi,rfl⟩:=List.getElem_of_mem ha
 have hl:=h.len
 obtain⟨b,h1,h2⟩:=h.get (List.getElem?_eq_getElem (l:=ks) (i:=i) (by omega))
 rw[List.getElem?_eq_getElem hi]at h1
 obtain rfl:=Option.some.inj h1
 obtain⟨h3,_,o1,o2,o3,h4⟩:=h2
 exact⟨_,h4,(eA h3).len⟩
theorem MS.view {s0 s:Hp}{l lM:Nat}{S:bW}{k:Nat}{us:List AV}{a:AV} (h:MS s0 s l lM S k us a): ∃n sV,us.length=n*k∧View s a sV (.sl (nN k n us) .any)∧eC sV l lM S∧Ext l lM s0 sV:=by
 obtain⟨B,h1,h2,h3⟩:=h
 obtain⟨n,sV,e1,e2,e3⟩:=View.mo h1
 exact⟨n,sV,e1,e3,h2.mono e2,h3.trans (Ext.of e2)⟩
theorem MS.KE {s0 s:Hp}{l lM:Nat}{S:bW}{ks:List Kd}{kv:List AV}{a:AV} (h:MS s0 s l lM S 37 (flat kv) a) (hA:cn eK ks kv): ∃sV,View s a sV (.sl kv .any)∧eC sV l lM S∧Ext l lM s0 sV:=by
 obtain⟨n,sV,e1,e2,e3⟩:=h.view
 rw[ny (hA.cells fun _ _=>eK.cells)]at e1
 have:n=kv.length:=by omega
 subst this
 rw[WK (by decide) (Yx hA)]at e2
 exact⟨sV,e2,e3⟩
theorem MO.KE {s0 s:Hp}{ks:List Kd}{kv:List AV}{a:AV} (h:MO s0 s 37 (flat kv) a) (hA:cn eK ks kv): ∃sV,View s a sV (.sl kv .any)∧s0.sub sV:=by
 obtain⟨n,sV,e1,e2,e3⟩:=View.mo h
 rw[ny (hA.cells fun _ _=>eK.cells)]at e1
 have:n=kv.length:=by omega
 subst this
 rw[WK (by decide) (Yx hA)]at e3
 exact⟨sV,e3,e2⟩
theorem vB {rs:List (List Int)}{rv:List AV} (h:cn isRow rs rv):flat rv=rv:=by
 induction rs generalizing rv with
 |nil=>cases rv with
  |nil=>rfl
  |cons=>exact h.elim
 |cons r rs ih=>cases rv with
  |nil=>exact h.elim
  |cons a rv=>
   obtain⟨o,rfl⟩:=h.1
   have:=ih h.2
   simp only[flat,List.flatMap_cons]at this⊢
   rw[this];rfl
theorem MO.Su {s0 s:Hp}{rs:List (List Int)}{rv:List AV}{a:AV} (h:MO s0 s 1 (flat rv) a) (hA:cn isRow rs rv): ∃sV,View s a sV (.sl rv .any)∧s0.sub sV:=by
 obtain⟨n,sV,e1,e2,e3⟩:=View.mo h
 rw[vB hA]at e1 e3
 rw[JM,List.take_of_length_le (by omega)]at e3
 exact⟨sV,e3,e2⟩
def lg {α:Type} (mk:List α→gM) (d:Nat):bW→List (List α)→List Kd→Except Int (List Kd)×bW
 |S,[],acc=>(.ok acc,S)
 |S,g::gs,acc=>
  match sU S d (mk g)with
  |(.error e,S')=>(.error e,S')
  |(.ok k,S')=>lg mk d S' gs (acc++ [k])
def KsR (o:Except Int (List Kd)) (r:AV):Prop:=
 match o with
 | .error e=>e≠0∧r= .dr [.sl [] .nil,.v (.int .i64 e)]
 | .ok ks=> ∃kv ov,cn eK ks kv∧r= .dr [.sl kv ov,.v (.int .i64 0)]
def tF {α:Type} (V:α→AV→Prop) (xs:List α) (a:AV):Prop:= ∃av o,a= .sl av o∧cn V xs av
theorem tF.cells {α:Type}{V:α→AV→Prop}{xs:List α}{a:AV} (h:tF V xs a):a.cells.length=1:=by obtain⟨_,_,rfl,_⟩:=h;rfl
theorem cn.a1c {α:Type}{V:α→AV→Prop}{xs:List α} (h:cn V xs []):xs= []:=by cases xs with|nil=>rfl|cons=>exact h.elim
theorem WL {n g:Nat} (hg:0<g) (hn:n≤100000):n/g+(if 0<n%g then 1 else 0)≤n:=by
 have h1:=Nat.div_add_mod n g
 by_cases h:0<n%g
 ·rw[if_pos h]
  have:n/g≤g*(n/g):=Nat.le_mul_of_pos_left _ hg
  omega
 ·rw[if_neg h]
  have:n/g≤g*(n/g):=Nat.le_mul_of_pos_left _ hg
  omega
theorem QR (xs:List (List Int)) (av:List AV) (o:Own) (s:Hp) (hA:cn isRow xs av) (hn:xs.length≤100000):
  AC Tryz.prog 29 [.sl av o] s fun r s'=> ∃o',dx s s' 1 av o'∧r= .sl av o':=by
 refine Kn fun m4=> ?_
 have ho:o= .nil→av= []:=fun e=>by subst e;simpa using m4 av (by simp)
 refine cR hm acH (by simp) ?_
 simp -dsimp -implicitDefEqProofs (disch:=first|omega|assumption|(simp only[rL,Nat.reduceAdd];try omega)) only[go_sem,simprocAttr,-List.reduceReplicate,↓FH]
 refine HG (fun h=>by rw[ho h]) (fun h=> ?_) ?_
 ·have yf:av= []:=by simpa using h
  subst yf
  refine sr @Bool.not_false ?_
  exact⟨s,Hp.aH,.nil,dx.nil Hp.aH,rfl⟩
 ·refine dD ?_
  refine ik Hp.aH (by simp[dS]) fun o1 s1 h1=> ?_
  refine dD ?_
  have hl:=hA.len
  refine mc (xs:= []) h1 (fun _ h=>by cases h) (hA.cells fun _ _=>isRow.cells) (by rw[List.length_nil];omega) (by rw[List.length_nil];omega) fun o2 s2 h2=> ?_
  refine sr @List.nil_append.{0} ?_
  exact⟨s2,Hp.aH,o2,by simpa using h2,rfl⟩
theorem Zu (xs:List (List Int)) (av:List AV) (o:Own) (g:Nat) (s:Hp) (hA:cn isRow xs av) (hn:xs.length≤100000) (hg:g≤100000):
  AC Tryz.prog 34 [.sl av o,.v (.int .i64 (g:Int))] s fun r s'=>s.sub s'∧ ∃gs o',r= .sl gs o'∧cn (tF isRow) (au.ni g xs) gs:=by
 refine cR hm acM (by simp) ?_
 refine dD ?_
 refine fS (fun f s'=> ∃(i:Nat) (ys:List (List Int)) (bv:List AV) (o1:Own) (gs:List AV) (o2:Own) (done:List (List (List Int))),i≤g∧done++au.ni (g - i) ys=au.ni g xs∧cn isRow ys bv∧ys.length≤100000∧done.length=i∧cn (tF isRow) done gs∧dx s s' 1 gs o2∧
   f 0= .sl bv o1∧f 1= .v (.int .i64 g)∧f 5= .sl gs o2∧f 8= .v (.int .i64 g)∧f 9= .v (.int .i64 i))
  (fun f _=>match f 9 with| .v (.int _ n)=>g - n.toNat| _=>0) ⟨0,xs,av,o,[],.nil,[],by omega,rfl,hA,hn,rfl,trivial,dx.nil Hp.aH,?_⟩ ?_
 ·exact nE
 rintro f s5 ⟨i,ys,bv,o1,gs,o2,done,hi,hc,hB,Uk,iv,hG,hO,f0,f1,f5,f8,f9⟩
 by_cases aW:(i:Int)<(g:Int)
 ·have hl:=hB.len
  have hp:=WL (n:=ys.length) (g:=g - i) (by omega) Uk
  have e1:(g:Int) -(i:Int)=((g - i:Nat):Int):=by omega
  rw[show g - i=(g -(i+1))+1 by omega,au.ni]at hc
  rw[show g -(i+1)+1=g - i by omega]at hc
  generalize zF:g - i=G at*
  have AP: ¬(G:Int)=0:=by omega
  have bq:=Nat.div_le_self ys.length G
  have q1:(ys.length:Int).tdiv (G:Int)=((ys.length/G:Nat):Int):=rfl
  have q2:(ys.length:Int).tmod (G:Int)=((ys.length%G:Nat):Int):=rfl
  obtain⟨N,hN⟩: ∃N,N=ys.length/G+(if 0<ys.length%G then 1 else 0):=⟨_,rfl⟩
  rw[←hN]at hp hc
  by_cases hr:0<ys.length%G
  ·have sj:((0:Int)<((ys.length%G:Nat):Int))=True:=eq_true (by omega)
   have eN:((ys.length/G:Nat):Int)+1=(N:Int):=by rw[hN,if_pos hr];omega
   have s1:ng 1 (.sl bv o1) none (some (.v (.int .i64 (N:Int))))=some (.sl (bv.take N) .any):=HQ (by omega) (by omega) (hB.cells fun _ _=>isRow.cells)
   have s2:ng 1 (.sl bv o1) (some (.v (.int .i64 (N:Int)))) none=some (.sl (bv.drop N) .any):=zW (by omega) (by omega) (hB.cells fun _ _=>isRow.cells)
   refine sr (qF @f0 @f1 @f5 @f8 @f9 @aW @hl @e1 @q1 @q2 @AP @sj @eN @s1) ?_
   refine bC (QR (ys.take N) (bv.take N) .any _ (hB.take N) (by rw[List.length_take];omega)) ?_
   rintro _ s6 ⟨oc,h6,rfl⟩
   refine sr (c5 @f0 @f1 @f5 @f8 @f9) ?_
   refine ik Hp.aH (by simp[dS,AV.cells]) fun o9 s9 h9=> ?_
   refine sr (c5 @f0 @f1 @f5 @f8 @f9) ?_
   have nX:=hG.len
   refine mc (hO.mono (Hp.cy h6.sub h9.sub)) (hG.cells fun _ _=>tF.cells) (by simp[dS,AV.cells]) (by simp only[List.length_cons,List.length_nil];omega) (by simp only[List.length_cons,List.length_nil];omega) fun oa sa ha=> ?_
   refine sr (c6 @f0 @f1 @f5 @f8 @f9 @s2) ?_
   refine⟨⟨i+1,ys.drop N,bv.drop N,.any,gs++ [.sl (bv.take N) oc],oa,done++ [ys.take N],by omega,?_,hB.drop N,by rw[List.length_drop];omega,by simp[iv],hG.snoc ⟨_,_,rfl,hB.take N⟩,ha,by simp⟩,by omega⟩
   rw[←hc,List.append_assoc];rfl
  ·have sj:((0:Int)<((ys.length%G:Nat):Int))=False:=eq_false (by omega)
   have eN:((ys.length/G:Nat):Int)=(N:Int):=by rw[hN,if_neg hr];omega
   have s1:ng 1 (.sl bv o1) none (some (.v (.int .i64 (N:Int))))=some (.sl (bv.take N) .any):=HQ (by omega) (by omega) (hB.cells fun _ _=>isRow.cells)
   have s2:ng 1 (.sl bv o1) (some (.v (.int .i64 (N:Int)))) none=some (.sl (bv.drop N) .any):=zW (by omega) (by omega) (hB.cells fun _ _=>isRow.cells)
   refine sr (qF @f0 @f1 @f5 @f8 @f9 @aW @hl @e1 @q1 @q2 @AP @sj @eN @s1) ?_
   refine bC (QR (ys.take N) (bv.take N) .any _ (hB.take N) (by rw[List.length_take];omega)) ?_
   rintro _ s6 ⟨oc,h6,rfl⟩
   refine sr (c5 @f0 @f1 @f5 @f8 @f9) ?_
   refine ik Hp.aH (by simp[dS,AV.cells]) fun o9 s9 h9=> ?_
   refine sr (c5 @f0 @f1 @f5 @f8 @f9) ?_
   have nX:=hG.len
   refine mc (hO.mono (Hp.cy h6.sub h9.sub)) (hG.cells fun _ _=>tF.cells) (by simp[dS,AV.cells]) (by simp only[List.length_cons,List.length_nil];omega) (by simp only[List.length_cons,List.length_nil];omega) fun oa sa ha=> ?_
   refine sr (c6 @f0 @f1 @f5 @f8 @f9 @s2) ?_
   refine⟨⟨i+1,ys.drop N,bv.drop N,.any,gs++ [.sl (bv.take N) oc],oa,done++ [ys.take N],by omega,?_,hB.drop N,by rw[List.length_drop];omega,by simp[iv],hG.snoc ⟨_,_,rfl,hB.take N⟩,ha,by simp⟩,by omega⟩
   rw[←hc,List.append_assoc];rfl
 ·obtain rfl:i=g:=by omega
  rw[Nat.sub_self,au.ni,List.append_nil]at hc
  refine sr (c6 @f0 @f1 @f5 @f8 @f9 @aW) ?_
  exact⟨_,Hp.aH,hO.sub,gs,o2,rfl,by rw[←hc];exact hG⟩
theorem XX (xs:List (Kd)) (av:List AV) (o:Own) (s:Hp) (hA:cn eK xs av) (hn:xs.length≤100000):
  AC Tryz.prog 100 [.sl av o] s fun r s'=> ∃o',dx s s' 37 av o'∧r= .sl av o':=by
 refine Kn fun m4=> ?_
 have ho:o= .nil→av= []:=fun e=>by subst e;simpa using m4 av (by simp)
 refine cR hm a9n (by simp) ?_
 simp -dsimp -implicitDefEqProofs (disch:=first|omega|assumption|(simp only[rL,Nat.reduceAdd];try omega)) only[go_sem,simprocAttr,-List.reduceReplicate,↓FH]
 refine HG (fun h=>by rw[ho h]) (fun h=> ?_) ?_
 ·have yf:av= []:=by simpa using h
  subst yf
  refine sr @Bool.not_false ?_
  exact⟨s,Hp.aH,.nil,dx.nil Hp.aH,rfl⟩
 ·refine dD ?_
  refine ik Hp.aH (by simp[dS]) fun o1 s1 h1=> ?_
  refine dD ?_
  have hl:=hA.len
  refine mc (xs:= []) h1 (fun _ h=>by cases h) (hA.cells fun _ _=>eK.cells) (by rw[List.length_nil];omega) (by rw[List.length_nil];omega) fun o2 s2 h2=> ?_
  refine sr @List.nil_append.{0} ?_
  exact⟨s2,Hp.aH,o2,by simpa using h2,rfl⟩
theorem Zv (xs:List (Kd)) (av:List AV) (o:Own) (g:Nat) (s:Hp) (hA:cn eK xs av) (hn:xs.length≤100000) (hg:g≤100000):
  AC Tryz.prog 61 [.sl av o,.v (.int .i64 (g:Int))] s fun r s'=>s.sub s'∧ ∃gs o',r= .sl gs o'∧cn (tF eK) (au.ni g xs) gs:=by
 refine cR hm ad8 (by simp) ?_
 refine dD ?_
 refine fS (fun f s'=> ∃(i:Nat) (ys:List (Kd)) (bv:List AV) (o1:Own) (gs:List AV) (o2:Own) (done:List (List (Kd))),i≤g∧done++au.ni (g - i) ys=au.ni g xs∧cn eK ys bv∧ys.length≤100000∧done.length=i∧cn (tF eK) done gs∧dx s s' 1 gs o2∧
   f 0= .sl bv o1∧f 1= .v (.int .i64 g)∧f 5= .sl gs o2∧f 8= .v (.int .i64 g)∧f 9= .v (.int .i64 i))
  (fun f _=>match f 9 with| .v (.int _ n)=>g - n.toNat| _=>0) ⟨0,xs,av,o,[],.nil,[],by omega,rfl,hA,hn,rfl,trivial,dx.nil Hp.aH,?_⟩ ?_
 ·exact nE
 rintro f s5 ⟨i,ys,bv,o1,gs,o2,done,hi,hc,hB,Uk,iv,hG,hO,f0,f1,f5,f8,f9⟩
 by_cases aW:(i:Int)<(g:Int)
 ·have hl:=hB.len
  have hp:=WL (n:=ys.length) (g:=g - i) (by omega) Uk
  have e1:(g:Int) -(i:Int)=((g - i:Nat):Int):=by omega
  rw[show g - i=(g -(i+1))+1 by omega,au.ni]at hc
  rw[show g -(i+1)+1=g - i by omega]at hc
  generalize zF:g - i=G at*
  have AP: ¬(G:Int)=0:=by omega
  have bq:=Nat.div_le_self ys.length G
  have q1:(ys.length:Int).tdiv (G:Int)=((ys.length/G:Nat):Int):=rfl
  have q2:(ys.length:Int).tmod (G:Int)=((ys.length%G:Nat):Int):=rfl
  obtain⟨N,hN⟩: ∃N,N=ys.length/G+(if 0<ys.length%G then 1 else 0):=⟨_,rfl⟩
  rw[←hN]at hp hc
  by_cases hr:0<ys.length%G
  ·have sj:((0:Int)<((ys.length%G:Nat):Int))=True:=eq_true (by omega)
   have eN:((ys.length/G:Nat):Int)+1=(N:Int):=by rw[hN,if_pos hr];omega
   have s1:ng 37 (.sl bv o1) none (some (.v (.int .i64 (N:Int))))=some (.sl (bv.take N) .any):=HQ (by omega) (by omega) (hB.cells fun _ _=>eK.cells)
   have s2:ng 37 (.sl bv o1) (some (.v (.int .i64 (N:Int)))) none=some (.sl (bv.drop N) .any):=zW (by omega) (by omega) (hB.cells fun _ _=>eK.cells)
   refine sr (qF @f0 @f1 @f5 @f8 @f9 @aW @hl @e1 @q1 @q2 @AP @sj @eN @s1) ?_
   refine bC (XX (ys.take N) (bv.take N) .any _ (hB.take N) (by rw[List.length_take];omega)) ?_
   rintro _ s6 ⟨oc,h6,rfl⟩
   refine sr (c5 @f0 @f1 @f5 @f8 @f9) ?_
   refine ik Hp.aH (by simp[dS,AV.cells]) fun o9 s9 h9=> ?_
   refine sr (c5 @f0 @f1 @f5 @f8 @f9) ?_
   have nX:=hG.len
   refine mc (hO.mono (Hp.cy h6.sub h9.sub)) (hG.cells fun _ _=>tF.cells) (by simp[dS,AV.cells]) (by simp only[List.length_cons,List.length_nil];omega) (by simp only[List.length_cons,List.length_nil];omega) fun oa sa ha=> ?_
   refine sr (c6 @f0 @f1 @f5 @f8 @f9 @s2) ?_
   refine⟨⟨i+1,ys.drop N,bv.drop N,.any,gs++ [.sl (bv.take N) oc],oa,done++ [ys.take N],by omega,?_,hB.drop N,by rw[List.length_drop];omega,by simp[iv],hG.snoc ⟨_,_,rfl,hB.take N⟩,ha,by simp⟩,by omega⟩
   rw[←hc,List.append_assoc];rfl
  ·have sj:((0:Int)<((ys.length%G:Nat):Int))=False:=eq_false (by omega)
   have eN:((ys.length/G:Nat):Int)=(N:Int):=by rw[hN,if_neg hr];omega
   have s1:ng 37 (.sl bv o1) none (some (.v (.int .i64 (N:Int))))=some (.sl (bv.take N) .any):=HQ (by omega) (by omega) (hB.cells fun _ _=>eK.cells)
   have s2:ng 37 (.sl bv o1) (some (.v (.int .i64 (N:Int)))) none=some (.sl (bv.drop N) .any):=zW (by omega) (by omega) (hB.cells fun _ _=>eK.cells)
   refine sr (qF @f0 @f1 @f5 @f8 @f9 @aW @hl @e1 @q1 @q2 @AP @sj @eN @s1) ?_
   refine bC (XX (ys.take N) (bv.take N) .any _ (hB.take N) (by rw[List.length_take];omega)) ?_
   rintro _ s6 ⟨oc,h6,rfl⟩
   refine sr (c5 @f0 @f1 @f5 @f8 @f9) ?_
   refine ik Hp.aH (by simp[dS,AV.cells]) fun o9 s9 h9=> ?_
   refine sr (c5 @f0 @f1 @f5 @f8 @f9) ?_
   have nX:=hG.len
   refine mc (hO.mono (Hp.cy h6.sub h9.sub)) (hG.cells fun _ _=>tF.cells) (by simp[dS,AV.cells]) (by simp only[List.length_cons,List.length_nil];omega) (by simp only[List.length_cons,List.length_nil];omega) fun oa sa ha=> ?_
   refine sr (c6 @f0 @f1 @f5 @f8 @f9 @s2) ?_
   refine⟨⟨i+1,ys.drop N,bv.drop N,.any,gs++ [.sl (bv.take N) oc],oa,done++ [ys.take N],by omega,?_,hB.drop N,by rw[List.length_drop];omega,by simp[iv],hG.snoc ⟨_,_,rfl,hB.take N⟩,ha,by simp⟩,by omega⟩
   rw[←hc,List.append_assoc];rfl
 ·obtain rfl:i=g:=by omega
  rw[Nat.sub_self,au.ni,List.append_nil]at hc
  refine sr (c6 @f0 @f1 @f5 @f8 @f9 @aW) ?_
  exact⟨_,Hp.aH,hO.sub,gs,o2,rfl,by rw[←hc];exact hG⟩
theorem zX {α:Type}: ∀ {g:Nat}{l:List α},(au.ni g l).length=g∧ ∀c∈au.ni g l,c.length≤l.length
 |0,l=>⟨rfl,fun c h=>by cases h⟩
 |g+1,l=>by
  have ih:=zX (g:=g) (l:=l.drop (l.length/(g+1)+if 0<l.length%(g+1)then 1 else 0))
  refine⟨by rw[au.ni,List.length_cons,ih.1],fun c hc=> ?_⟩
  rw[au.ni]at hc
  rcases List.mem_cons.1 hc with rfl|hc
  ·rw[List.length_take];omega
  ·have:=ih.2 c hc;rw[List.length_drop]at this;exact Nat.le_trans this (Nat.sub_le _ _)
theorem W9 (s:Hp) (l lM:Nat) (S:bW) (hS:eC s l lM S) (gs:List (List (List Int))) (gv:List AV) (o:Own) (d:Nat) (bq:1≤d) (bg:d≤8) (hG:cn (tF isRow) gs gv) (nX: ∀g∈gs,g.length≤100000) (hn:gs.length≤100000):
  AC Tryz.prog 33 [.sl gv o,.eU 36 [rJ l d] []] s fun r s'=>match (lg ig d S gs []).1 with
   | .error e=>eC s' l lM (lg ig d S gs []).2∧Ext l lM s s'∧e≠0∧r= .dr [.sl [] .nil,.v (.int .i64 e)]
   | .ok ks=> ∃kv a,cn eK ks kv∧r= .dr [a,.v (.int .i64 0)]∧MS s s' l lM (lg ig d S gs []).2 37 (flat kv) a∧(ks= []→a= .sl [] .nil):=by
 refine cR hm acL (by simp) ?_
 have e0: ∀cs,(AV.agg cs).cells=cs:=fun _=>rfl
 have zl:=(eA (o1:= .nil) (o2:= .nil) (o3:= .nil) eY).len
 have KW:=hG.len
 have im:A5 Tryz.prog 36=true:=by kernel_rfl
 have qi:=Sl.sl (s:=s) (o:=o) (hG.cells fun _ _=>tF.cells)
 refine sr @KW ?_
 refine fS (fun f s'=> ∃(i:Nat) (S1:bW) (acc:List Kd) (kv:List AV) (a:AV),i≤gs.length∧lg ig d S1 (gs.drop i) acc=lg ig d S gs []∧cn eK acc kv∧acc.length=i∧MS s s' l lM S1 37 (flat kv) a∧(acc= []→a= .sl [] .nil)∧
   f 0= .sl gv o∧f 1= .eU 36 [rJ l d] []∧f 6=a∧f 11= .sl gv o∧f 12= .v (.int .i64 gs.length)∧f 13= .v (.int .i64 i))
  (fun f _=>match f 13 with| .v (.int _ n)=>gs.length - n.toNat| _=>0) ⟨0,S,[],[],.sl [] .nil,by omega,rfl,trivial,rfl,MS.nil hS,fun _=>rfl,?_⟩ ?_
 ·exact sz @KW
 rintro f s5 ⟨i,S1,acc,kv,a,hi,hc,hA,lj,hM,m4,f0,f1,f6,f11,f12,f13⟩
 by_cases aW:(i:Int)<gs.length
 ·have hw:gs[i]? =some gs[i]:=List.getElem?_eq_getElem (by omega)
  have hd:gs.drop i=gs[i]::gs.drop (i+1):=List.drop_eq_getElem_cons (by omega)
  have LL:=nX _ (List.getElem_mem (l:=gs) (n:=i) (by omega))
  rw[hd,lg]at hc
  clear hd
  generalize gs[i]'(by omega)=g at hw hc LL
  obtain⟨b,iB,bv,o9,rfl,hB⟩:=hG.get hw
  obtain⟨p9,e9,gl⟩:=(Sl.sl (s:=s5) (o:=o) (hG.cells fun _ _=>tF.cells)).get i _ iB
  have gj:=gl.ld s5 Hp.aH false 1 (by omega) (by simp[AV.cells])
  have Ul:cK false 1 (AV.sl bv o9).cells= .sl bv o9:=rfl
  rw[Ul]at gj
  refine sr (c9 @f0 @f1 @f6 @f11 @f12 @f13 @aW @e9 @gj) ?_
  refine zT im (QO s5 l lM S1 hM.Dv g bv (.sl bv o9) d bq bg hB (Sl.sl (hB.cells fun _ _=>isRow.cells)) LL) ?_
  rintro r s6 ⟨kJ,mT,hK⟩
  have iC:=hM.step mT kJ
  generalize hp:sU S1 d (ig g)=pr at*
  obtain⟨res,S6⟩:=pr
  simp only at hc kJ hK iC
  obtain⟨k,w1,w2,w3,e,hk,hr⟩:=hK.shape
  have hJ:=eA (o1:=w1) (o2:=w2) (o3:=w3) hk
  have iM:=hJ.len
  have pz:putAt (aS cO .nil .nil .nil) 0 (aS k w1 w2 w3)=aS k w1 w2 w3:=jV eY hk
  subst hr
  refine sr (kg @f0 @f1 @f6 @f11 @f12 @f13 @fl @e0 @zl @iM @pz) ?_
  refine cP fun l9 n9=> ?_
  have su:=iC.mono (Hp.bT (o:= .cells (aS k w1 w2 w3)) Hp.aH n9)
  cases res with
  |error e'=>
   obtain⟨he,hr⟩:=hK
   simp only[AV.dr.injEq,List.cons.injEq,AV.v.injEq,Value.int.injEq,true_and,and_true]at hr
   obtain⟨_,rfl⟩:=hr
   rw[←hc]
   refine sr (qE @f0 @f1 @f6 @f11 @f12 @f13 @fl @e0 @zl @iM @pz @Hp.set_set @he) ?_
   exact⟨_,Hp.aH,su.Dv,su.ext⟩
  |ok k'=>
   obtain⟨gQ,mj,q1,q2,q3,hr⟩:=hK
   simp only[AV.dr.injEq,List.cons.injEq,AV.v.injEq,Value.int.injEq,true_and,and_true,AV.agg.injEq]at hr
   obtain⟨hr,rfl⟩:=hr
   obtain⟨B,Um,EG,Un⟩:=su
   refine sr (qF @f0 @f1 @f6 @f11 @f12 @f13 @fl @e0 @zl @iM @pz @Hp.set_set @Hp.bt hJ.t37) ?_
   refine DV (by simp[dS,AV.cells,iM]) (by simp) fun g2 Ey=> ?_
   have AM:=MO.mono Um (Hp.bT (o:= .cells (flat [AV.agg (aS k w1 w2 w3)])) Hp.aH Ey)
   have Ds:cn eK (acc++ [k']) (kv++ [AV.agg (aS k w1 w2 w3)]):=hA.snoc ⟨gQ,mj,q1,q2,q3,by rw[hr]⟩
   have ke:(flat kv).length=acc.length*37:=by rw[ny (hA.cells fun _ _=>eK.cells),hA.len]
   have th:(flat [AV.agg (aS k w1 w2 w3)]).length=1*37:=by simp[flat,AV.cells,iM]
   refine sr (c6 @f0 @f1 @f6 @f11 @f12 @f13) ?_
   refine lX AM (by omega) (I5 th) th (by rw[ke,th];omega) (by rw[ke,th];omega) fun a' s9 qW=> ?_
   have ef:flat kv++flat [AV.agg (aS k w1 w2 w3)]=flat (kv++ [AV.agg (aS k w1 w2 w3)]):=by simp[flat]
   rw[ef]at qW
   refine sr (c6 @f0 @f1 @f6 @f11 @f12 @f13) ?_
   exact⟨⟨i+1,S6,acc++ [k'],_,a',by omega,hc,Ds,by simp[lj],⟨B,qW,EG,Un⟩,(fun h=>by simp at h),by simp⟩,by omega⟩
 ·obtain rfl:i=gs.length:=by omega
  rw[List.drop_length,lg]at hc
  rw[←hc]
  refine sr (c7 @f0 @f1 @f6 @f11 @f12 @f13 @aW) ?_
  exact⟨_,Hp.aH,kv,a,hA,rfl,hM,m4⟩
theorem a7d (s:Hp) (l lM:Nat) (S:bW) (hS:eC s l lM S) (gs:List (List (List Int))) (gv:List AV) (o:Own) (d:Nat) (bq:1≤d) (bg:d≤8) (hG:cn (tF isRow) gs gv) (nX: ∀g∈gs,g.length≤100000) (hn:gs.length≤100000):
  AC Tryz.prog 33 [.sl gv o,.eU 36 [rJ l d] []] s fun r s'=>eC s' l lM (lg ig d S gs []).2∧Ext l lM s s'∧KsR (lg ig d S gs []).1 r:=by
 refine(W9 s l lM S hS gs gv o d bq bg hG nX hn).view fun r s' h=> ?_
 generalize lg ig d S gs []=pr at*
 obtain⟨res,S'⟩:=pr
 cases res with
 |error e=>
  obtain⟨h1,h2,h3,rfl⟩:=h
  exact⟨_,s',View.refl,h1,h2,h3,rfl⟩
 |ok ks=>
  obtain⟨kv,a,hA,rfl,hM,_⟩:=h
  obtain⟨sV,v1,v2,v3⟩:=hM.KE hA
  exact⟨_,sV,View.dr (pre:= []) (post:= [_]) v1,v2,v3,kv,.any,hA,rfl⟩
def CA (S:bW) (d:Nat) (xs:List (List Int)):Except Int (List Kd)×bW:=lg ig d S (au.chunks xs) []
theorem Wa (s:Hp) (l lM:Nat) (S:bW) (hS:eC s l lM S) (gs:List (List (Kd))) (gv:List AV) (o:Own) (d:Nat) (bq:1≤d) (bg:d≤8) (hG:cn (tF eK) gs gv) (nX: ∀g∈gs,g.length≤100000) (hn:gs.length≤100000):
  AC Tryz.prog 60 [.sl gv o,.eU 62 [rJ l d] []] s fun r s'=>match (lg mP d S gs []).1 with
   | .error e=>eC s' l lM (lg mP d S gs []).2∧Ext l lM s s'∧e≠0∧r= .dr [.sl [] .nil,.v (.int .i64 e)]
   | .ok ks=> ∃kv a,cn eK ks kv∧r= .dr [a,.v (.int .i64 0)]∧MS s s' l lM (lg mP d S gs []).2 37 (flat kv) a∧(ks= []→a= .sl [] .nil):=by
 refine cR hm ad7 (by simp) ?_
 have e0: ∀cs,(AV.agg cs).cells=cs:=fun _=>rfl
 have zl:=(eA (o1:= .nil) (o2:= .nil) (o3:= .nil) eY).len
 have KW:=hG.len
 have im:A5 Tryz.prog 62=true:=by kernel_rfl
 have qi:=Sl.sl (s:=s) (o:=o) (hG.cells fun _ _=>tF.cells)
 refine sr @KW ?_
 refine fS (fun f s'=> ∃(i:Nat) (S1:bW) (acc:List Kd) (kv:List AV) (a:AV),i≤gs.length∧lg mP d S1 (gs.drop i) acc=lg mP d S gs []∧cn eK acc kv∧acc.length=i∧MS s s' l lM S1 37 (flat kv) a∧(acc= []→a= .sl [] .nil)∧
   f 0= .sl gv o∧f 1= .eU 62 [rJ l d] []∧f 6=a∧f 11= .sl gv o∧f 12= .v (.int .i64 gs.length)∧f 13= .v (.int .i64 i))
  (fun f _=>match f 13 with| .v (.int _ n)=>gs.length - n.toNat| _=>0) ⟨0,S,[],[],.sl [] .nil,by omega,rfl,trivial,rfl,MS.nil hS,fun _=>rfl,?_⟩ ?_
 ·exact sz @KW
 rintro f s5 ⟨i,S1,acc,kv,a,hi,hc,hA,lj,hM,m4,f0,f1,f6,f11,f12,f13⟩
 by_cases aW:(i:Int)<gs.length
 ·have hw:gs[i]? =some gs[i]:=List.getElem?_eq_getElem (by omega)
  have hd:gs.drop i=gs[i]::gs.drop (i+1):=List.drop_eq_getElem_cons (by omega)
  have LL:=nX _ (List.getElem_mem (l:=gs) (n:=i) (by omega))
  rw[hd,lg]at hc
  clear hd
  generalize gs[i]'(by omega)=g at hw hc LL
  obtain⟨b,iB,bv,o9,rfl,hB⟩:=hG.get hw
  obtain⟨p9,e9,gl⟩:=(Sl.sl (s:=s5) (o:=o) (hG.cells fun _ _=>tF.cells)).get i _ iB
  have gj:=gl.ld s5 Hp.aH false 1 (by omega) (by simp[AV.cells])
  have Ul:cK false 1 (AV.sl bv o9).cells= .sl bv o9:=rfl
  rw[Ul]at gj
  refine sr (c9 @f0 @f1 @f6 @f11 @f12 @f13 @aW @e9 @gj) ?_
  refine zT im (Xg s5 l lM S1 hM.Dv g bv (.sl bv o9) d bq bg hB (Sl.sl (hB.cells fun _ _=>eK.cells)) LL) ?_
  rintro r s6 ⟨kJ,mT,hK⟩
  have iC:=hM.step mT kJ
  generalize hp:sU S1 d (mP g)=pr at*
  obtain⟨res,S6⟩:=pr
  simp only at hc kJ hK iC
  obtain⟨k,w1,w2,w3,e,hk,hr⟩:=hK.shape
  have hJ:=eA (o1:=w1) (o2:=w2) (o3:=w3) hk
  have iM:=hJ.len
  have pz:putAt (aS cO .nil .nil .nil) 0 (aS k w1 w2 w3)=aS k w1 w2 w3:=jV eY hk
  subst hr
  refine sr (kg @f0 @f1 @f6 @f11 @f12 @f13 @fl @e0 @zl @iM @pz) ?_
  refine cP fun l9 n9=> ?_
  have su:=iC.mono (Hp.bT (o:= .cells (aS k w1 w2 w3)) Hp.aH n9)
  cases res with
  |error e'=>
   obtain⟨he,hr⟩:=hK
   simp only[AV.dr.injEq,List.cons.injEq,AV.v.injEq,Value.int.injEq,true_and,and_true]at hr
   obtain⟨_,rfl⟩:=hr
   rw[←hc]
   refine sr (qE @f0 @f1 @f6 @f11 @f12 @f13 @fl @e0 @zl @iM @pz @Hp.set_set @he) ?_
   exact⟨_,Hp.aH,su.Dv,su.ext⟩
  |ok k'=>
   obtain⟨gQ,mj,q1,q2,q3,hr⟩:=hK
   simp only[AV.dr.injEq,List.cons.injEq,AV.v.injEq,Value.int.injEq,true_and,and_true,AV.agg.injEq]at hr
   obtain⟨hr,rfl⟩:=hr
   obtain⟨B,Um,EG,Un⟩:=su
   refine sr (qF @f0 @f1 @f6 @f11 @f12 @f13 @fl @e0 @zl @iM @pz @Hp.set_set @Hp.bt hJ.t37) ?_
   refine DV (by simp[dS,AV.cells,iM]) (by simp) fun g2 Ey=> ?_
   have AM:=MO.mono Um (Hp.bT (o:= .cells (flat [AV.agg (aS k w1 w2 w3)])) Hp.aH Ey)
   have Ds:cn eK (acc++ [k']) (kv++ [AV.agg (aS k w1 w2 w3)]):=hA.snoc ⟨gQ,mj,q1,q2,q3,by rw[hr]⟩
   have ke:(flat kv).length=acc.length*37:=by rw[ny (hA.cells fun _ _=>eK.cells),hA.len]
   have th:(flat [AV.agg (aS k w1 w2 w3)]).length=1*37:=by simp[flat,AV.cells,iM]
   refine sr (c6 @f0 @f1 @f6 @f11 @f12 @f13) ?_
   refine lX AM (by omega) (I5 th) th (by rw[ke,th];omega) (by rw[ke,th];omega) fun a' s9 qW=> ?_
   have ef:flat kv++flat [AV.agg (aS k w1 w2 w3)]=flat (kv++ [AV.agg (aS k w1 w2 w3)]):=by simp[flat]
   rw[ef]at qW
   refine sr (c6 @f0 @f1 @f6 @f11 @f12 @f13) ?_
   exact⟨⟨i+1,S6,acc++ [k'],_,a',by omega,hc,Ds,by simp[lj],⟨B,qW,EG,Un⟩,(fun h=>by simp at h),by simp⟩,by omega⟩
 ·obtain rfl:i=gs.length:=by omega
  rw[List.drop_length,lg]at hc
  rw[←hc]
  refine sr (c7 @f0 @f1 @f6 @f11 @f12 @f13 @aW) ?_
  exact⟨_,Hp.aH,kv,a,hA,rfl,hM,m4⟩
theorem a7e (s:Hp) (l lM:Nat) (S:bW) (hS:eC s l lM S) (gs:List (List (Kd))) (gv:List AV) (o:Own) (d:Nat) (bq:1≤d) (bg:d≤8) (hG:cn (tF eK) gs gv) (nX: ∀g∈gs,g.length≤100000) (hn:gs.length≤100000):
  AC Tryz.prog 60 [.sl gv o,.eU 62 [rJ l d] []] s fun r s'=>eC s' l lM (lg mP d S gs []).2∧Ext l lM s s'∧KsR (lg mP d S gs []).1 r:=by
 refine(Wa s l lM S hS gs gv o d bq bg hG nX hn).view fun r s' h=> ?_
 generalize lg mP d S gs []=pr at*
 obtain⟨res,S'⟩:=pr
 cases res with
 |error e=>
  obtain⟨h1,h2,h3,rfl⟩:=h
  exact⟨_,s',View.refl,h1,h2,h3,rfl⟩
 |ok ks=>
  obtain⟨kv,a,hA,rfl,hM,_⟩:=h
  obtain⟨sV,v1,v2,v3⟩:=hM.KE hA
  exact⟨_,sV,View.dr (pre:= []) (post:= [_]) v1,v2,v3,kv,.any,hA,rfl⟩
def wJ (S:bW) (d:Nat) (xs:List (Kd)):Except Int (List Kd)×bW:=lg mP d S (au.chunks xs) []
theorem Fk {α:Type}{mk:List α→gM}{d:Nat}: ∀ {gs:List (List α)}{S S':bW}{acc ks:List Kd},lg mk d S gs acc=(.ok ks,S')→ks.length=acc.length+gs.length
 | [],S,S',acc,ks,h=>by
  rw[lg]at h
  obtain⟨h1,_⟩:=Prod.mk.inj h
  rw[Except.ok.inj h1];simp
 |g::gs,S,S',acc,ks,h=>by
  rw[lg]at h
  split at h
  ·cases (Prod.mk.inj h).1
  ·have:=Fk h
   rw[this];simp;omega
def rp (d:Nat):Nat→bW→List Kd→Except Int Kd×bW
 |0,S,_=>(.error 1,S)
 |n+1,S,ks=>
  if 1<ks.length then match wJ S d ks with
   |(.error e,S')=>(.error e,S')
   |(.ok up,S')=>rp d n S' up
  else(.ok (ks.headD cO),S)
theorem XY (s:Hp) (l lM:Nat) (S:bW) (hS:eC s l lM S) (ks:List Kd) (kv:List AV) (o:Own) (d:Nat) (bq:1≤d) (bg:d≤8) (hA:cn eK ks kv) (hn:ks.length≤100000):
  AC Tryz.prog 37 [rJ l d,.sl kv o] s fun r s'=>eC s' l lM (rp d (ks.length+1) S ks).2∧Ext l lM s s'∧zE (rp d (ks.length+1) S ks).1 r:=by
 refine cR hm acP (by simp) ?_
 have e0: ∀cs,(AV.agg cs).cells=cs:=fun _=>rfl
 have zl:=(eA (o1:= .nil) (o2:= .nil) (o3:= .nil) eY).len
 have t2: ∀a b:AV,List.take 2 [a,b]= [a,b]:=fun _ _=>rfl
 have em: ∀a b,cK true 2 [a,b]= .agg [a,b]:=fun _ _=>rfl
 refine sr @e0 ?_
 refine cP fun l2 n2=> ?_
 refine sr (c2 @e0 @fl) ?_
 refine cP fun l4 n4=> ?_
 have d24:l2≠l4:=by rintro rfl;rw[Hp.bt]at n4;cases n4
 have lQ:s l4=none:=by rw[Hp.aX _ _ (Ne.symm d24)]at n4;exact n4
 obtain⟨B,hB⟩: ∃B:Hp,B=(s.set l2 (.cells [.ptr l 0,.v (.int .i64 (d:Int))])).set l4 (.cells (aS cO .nil .nil .nil)):=⟨_,rfl⟩
 have dm:s.sub B:=by rw[hB];exact Hp.bT (Hp.bT Hp.aH n2) lQ
 have c4:B l4=some (.cells (aS cO .nil .nil .nil)):=by rw[hB,Hp.bt]
 have c2:B l2=some (.cells [.ptr l 0,.v (.int .i64 (d:Int))]):=by rw[hB,Hp.aX _ _ d24,Hp.bt]
 have oU:=hS.lY lQ
 have jG:=hS.lY n2
 have zt:=(eA (o1:= .nil) (o2:= .nil) (o3:= .nil) eY).t37
 have uF:putAt (aS cO .nil .nil .nil) 0 (aS cO .nil .nil .nil)=aS cO .nil .nil .nil:=jV eY eY
 have fin: ∀(s':Hp) (ob:Ob),Ext l lM B s'→Ext l lM s (s'.set l4 ob):=fun s' ob h=>((Ext.of dm).trans h).set lQ
 simp -dsimp -implicitDefEqProofs (disch:=first|omega|assumption|(simp only[rL,Nat.reduceAdd];try omega)) only[go_sem,simprocAttr,-List.reduceReplicate,e0,fl]
 rw[show(s.set l2 (.cells (rJ l d).cells)).set l4 (.cells (List.replicate 32 (AV.v (.int .u8 0))++ [AV.sl [] .nil,.sl [] .nil]++ [AV.v (.int .i64 0),.v (.int .i64 0)]++ [AV.sl [] .nil]))=B by rw[hB,←fl];rfl]
 refine fS (fun f s'=> ∃(n:Nat) (S1:bW) (oW:List Kd) (OU:List AV) (o1:Own),rp d n S1 oW=rp d (ks.length+1) S ks∧oW.length<n∧n≤100001∧cn eK oW OU∧eC s' l lM S1∧Ext l lM B s'∧f 1= .sl OU o1∧f 2= .ptr l2 0∧f 4= .ptr l4 0)
  (fun f _=>match f 1 with| .sl kv _=>kv.length| _=>0) ⟨ks.length+1,S,ks,kv,o,rfl,by omega,by omega,hA,hS.mono dm,Ext.refl,?_⟩ ?_
 ·exact nE
 rintro f s5 ⟨n,S1,oW,OU,o1,hr,oX,Gg,mg,uG,xZ,f1,f2,f4⟩
 have rH:=mg.len
 have g2:=xZ _ _ jG.1 jG.2 c2
 have g4:=xZ _ _ oU.1 oU.2 c4
 obtain⟨m,rfl⟩: ∃m,n=m+1:=⟨n - 1,by omega⟩
 rw[rp]at hr
 by_cases aW:(1:Int)<oW.length
 ·rw[if_pos (by omega)]at hr
  refine sr (c8 @f1 @f2 @f4 @rH @aW (Hp.aV g2) @t2 @em) ?_
  refine bC (MJ oW.length (by omega) s5) ?_
  rintro _ s5 ⟨rfl,rfl⟩
  refine sr (c8 @f1 @f2 @f4 @rH @aW (Hp.aV g2) @t2 @em) ?_
  have AQ:au.cQ oW.length≤100000:=by unfold au.cQ;omega
  refine bC (Zv oW OU o1 (au.cQ oW.length) s5 mg (by omega) AQ) ?_
  rintro _ s6 ⟨h6,gs,o2,rfl,hG⟩
  have k2:=h6 _ _ g2
  refine sr (c6 @f1 @f2 @f4 (Hp.aV k2) @t2 @em) ?_
  have im:=zX (g:=au.cQ oW.length) (l:=oW)
  refine bC (a7e s6 l lM S1 (uG.mono h6) _ gs o2 d bq bg hG (fun g hg=>by have:=im.2 g hg;omega) (by rw[im.1];exact AQ)) ?_
  rintro r s7 ⟨mD,nG,hK⟩
  have hf:wJ S1 d oW=lg mP d S1 (au.ni (au.cQ oW.length) oW) []:=rfl
  rw[←hf]at mD hK
  have hlen:=fun S' ks' h=>Fk (mk:=mP) (d:=d) (gs:=au.ni (au.cQ oW.length) oW) (S:=S1) (S':=S') (acc:= []) (ks:=ks') h
  rw[←hf]at hlen
  have hE:=xZ.trans ((Ext.of h6).trans nG)
  have j4:=hE _ _ oU.1 oU.2 c4
  generalize wJ S1 d oW=pr at*
  obtain⟨res,S'⟩:=pr
  cases res with
  |error e=>
   obtain⟨he,rfl⟩:=hK
   simp only at hr mD
   rw[←hr]
   refine sr (gP @f1 @f2 @f4 @he @fl @e0 (Hp.dG j4) @zl @zt @uF) ?_
   exact⟨_,Hp.aH,mD.set oU,fin _ _ hE,he,rfl⟩
  |ok up=>
   obtain⟨vp,ov,nF,rfl⟩:=hK
   have GD:=hlen S' up rfl
   rw[im.1]at GD
   have ap4:up.length<oW.length:=by
    rw[GD];unfold au.cQ;simp;omega
   have mS:=nF.len
   simp only at hr mD
   refine sr (c3 @f1 @f2 @f4) ?_
   exact⟨⟨m,S',up,vp,ov,hr,by omega,by omega,nF,mD,hE,rfl⟩,by omega⟩
 ·rw[if_neg (by omega)]at hr
  rw[←hr]
  by_cases h0:(oW.length:Int)=0
  ·have:oW= []:=List.eq_nil_of_length_eq_zero (by omega)
   subst this
   refine sr (oS @f1 @f2 @f4 @rH @aW @h0 @fl @e0 (Hp.dG g4) @zl @zt @uF) ?_
   exact⟨_,Hp.aH,uG.set oU,fin _ _ xZ,eY,RQ,.nil,.nil,.nil,rfl⟩
  ·have hw:oW[0]? =some oW[0]:=List.getElem?_eq_getElem (by omega)
   have hh:oW.headD cO=oW[0]'(by omega):=by cases oW with|nil=>simp at h0|cons a b=>rfl
   rw[hh]
   generalize oW[0]'(by omega)=k at hw
   obtain⟨a,iB,gQ,mj,w1,w2,w3,rfl⟩:=mg.get hw
   obtain⟨p9,e9,gl⟩:=(Sl.sl (s:=s5) (o:=o1) (mg.cells fun _ _=>eK.cells)).get 0 _ iB
   have hK:=eA (o1:=w1) (o2:=w2) (o3:=w3) gQ
   have fL:=hK.len
   have ek:(AV.agg (aS k w1 w2 w3)).cells=aS k w1 w2 w3:=rfl
   rw[ek]at gl
   have gj:=gl.ld s5 Hp.aH true 37 (by omega) (by rw[hK.len];omega)
   rw[show cK true 37 (aS k w1 w2 w3)= .agg (aS k w1 w2 w3) by rw[cK,if_pos rfl,hK.t37]]at gj
   have z9:((0:Nat):Int)=0:=rfl
   rw[z9]at e9
   have pz:putAt (aS cO .nil .nil .nil) 0 (aS k w1 w2 w3)=aS k w1 w2 w3:=jV eY gQ
   refine sr (qF @f1 @f2 @f4 @rH @aW @h0 @e9 @gj @e0 (Hp.dG g4) @zl @fL @pz hK.t37) ?_
   exact⟨_,Hp.aH,uG.set oU,fin _ _ xZ,gQ,mj,w1,w2,w3,rfl⟩
end Go.Proofs.YtonldhgdjjfahaaGreat
namespace Go.Av
open Go
variable {P:Ctx}
theorem Kh {X A V B:List AV}{a v b:Nat} (hA:X.take a=A) (hV:V.length=v) (hB:B.length=b) (hl:a+v+b≤X.length):
  (putAt (putAt X (a+v) B) a V).take (a+v+b)=A++(V++B)∧(putAt (putAt X a V) (a+v) B).take (a+v+b)=A++(V++B):=by
 have hAl:A.length=a:=by rw[←hA,List.length_take];omega
 constructor
 ·have hP:(X.take (a+v)).length=a+v:=by rw[List.length_take];omega
  have e1:(putAt X (a+v) B).take a=A:=by
   unfold putAt
   rw[List.append_assoc,List.take_append_of_le_length (by omega),List.take_take,Nat.min_eq_left (by omega),hA]
  have e2:(putAt X (a+v) B).drop (a+V.length)=B++X.drop (a+v+b):=by
   unfold putAt
   rw[hV,List.append_assoc,List.drop_left' hP,hB]
  rw[putAt,e1,e2,←List.append_assoc,List.take_left' (by rw[List.length_append,List.length_append];omega),List.append_assoc]
 ·have e1:(putAt X a V).take (a+v)=A++V:=by
   unfold putAt
   rw[hA,List.take_left' (by rw[List.length_append];omega)]
  rw[putAt,e1,List.take_left' (by rw[List.length_append,List.length_append];omega),List.append_assoc]
theorem E7 {k l len cap a:Nat}{kd:IntKind} (h:a≤len) (h2:len≤cap): ∃v,iH k (.mb l len cap k) (some (.v (.int kd (a:Int)))) none none=some v∧wN v=some (.v (.int .i64 ((len - a:Nat):Int)))∧
  ∀(s:Hp) (cs us:List AV),s l=some (.cells cs)→len*k≤cs.length→cs.take (len*k)=us→hU s k v=some (len - a,us.drop (a*k)):=by
 by_cases hc:a<cap
 ·refine⟨_,xK h h2 hc,rfl,fun s cs us hl hk hu=> ?_⟩
  have e:a*k+(len - a)*k=len*k:=by rw[←Nat.add_mul];congr 1;omega
  simp only[hU,Hp.aV hl]
  rw[if_pos ⟨trivial,by omega⟩,←hu,List.drop_take]
  congr 3
  omega
 ·obtain rfl:a=len:=by omega
  obtain rfl:a=cap:=by omega
  refine⟨_,Zm rfl,by simp[wN],fun s cs us hl hk hu=> ?_⟩
  have:us.drop (a*k)= []:=List.drop_eq_nil_of_le (by rw[←hu,List.length_take];omega)
  rw[this,Nat.sub_self];rfl
theorem Zw {k l len cap a b:Nat}{kd kd':IntKind} (h:a≤b) (h2:b≤cap): ∃v,iH k (.mb l len cap k) (some (.v (.int kd (a:Int)))) (some (.v (.int kd' (b:Int)))) none=some v:=by
 have h5:(a:Int)≤b:=by omega
 have h6:(b:Int)≤cap:=by omega
 simp[iH,bO,intOf,h5,h6]
theorem a8I {k l len cap a b m:Nat}{kd kd' kd2:IntKind} (h:a≤b) (h2:b≤m) (h3:m≤cap): ∃v,iH k (.mb l len cap k) (some (.v (.int kd (a:Int)))) (some (.v (.int kd' (b:Int)))) (some (.v (.int kd2 (m:Int))))=some v:=by
 have h5:(a:Int)≤b:=by omega
 have h6:(b:Int)≤m:=by omega
 have h7:(m:Int)≤cap:=by omega
 simp[iH,bO,intOf,h5,h6,h7]
theorem MO.first {s0 s:Hp}{k l n cap i:Nat}{us:List AV} (h:MO s0 s k us (.mb l n cap k)) (hi:i≤n):MO s0 s k (us.take (i*k)) (.mb l i cap k):=by
 obtain⟨h1,h2⟩:=h
 rcases h2 with ⟨_,h2|h2⟩|⟨l',n',eD,cs,q1,q2,q3,q4,q5,q6,q7,q8⟩
 ·cases h2
 ·cases h2
 simp only[AV.mb.injEq,true_and,and_true]at q1
 obtain⟨rfl,rfl,rfl⟩:=q1
 have hk:i*k≤n*k:=Nat.mul_le_mul_right _ hi
 exact⟨h1,.inr ⟨l,i,cap,cs,rfl,q2,q3,q4,by rw[←q5,List.take_take,Nat.min_eq_left hk],by rw[List.length_take,q6,Nat.min_eq_left hk],by omega,q8⟩⟩
theorem MO.mb {s0 s:Hp}{k:Nat}{us:List AV}{a:AV} (h:MO s0 s k us a) (h0:us≠ []): ∃l n cap cs,a= .mb l n cap k∧s0 l=none∧s l=some (.cells cs)∧cs.length=cap*k∧cs.take (n*k)=us∧us.length=n*k∧n≤cap∧cap≤maxLen:=by
 rcases h.2 with ⟨h2,_⟩|h2
 ·exact absurd h2 h0
 ·exact h2
theorem MO.add {B s:Hp}{k x:Nat}{us:List AV}{a:AV}{ob:Ob} (h:MO B s k us a) (hx:s x=some ob) (hb: ∀l n cap,a= .mb l n cap k→l≠x):MO (B.set x ob) s k us a:=by
 obtain⟨h1,h2⟩:=h
 refine⟨fun y o hy=> ?_,?_⟩
 ·by_cases e:y=x
  ·subst e;rw[Hp.bt]at hy;rw[hx];exact hy
  ·rw[Hp.aX _ _ e]at hy;exact h1 _ _ hy
 ·rcases h2 with h2|⟨l,n,cap,cs,q1,q2,q3⟩
  ·exact .inl h2
  ·exact .inr ⟨l,n,cap,cs,q1,by rw[Hp.aX _ _ (hb _ _ _ q1)];exact q2,q3⟩
theorem Rx {s:Hp}{k bytes l i m cap:Nat}{cs ys:List AV}{y:AV}{C:AV→Hp→Prop}{d:jH C} (hl:s l=some (.cells cs)) (hc:cs.length=cap*k) (hs:hU s k y=some (m,ys)) (hr:i+m≤cap) (h3:(i+m)*bytes≤140737488355328) (h4:i+m≤9223372036854775807)
  (hC:C (.mb l (i+m) cap k) (s.set l (.cells (putAt cs (i*k) ys)))):Kw k bytes s (.mb l i cap k) y (jX C d):=by
 unfold Kw
 rw[YW hs]
 simp only[hl,jX,if_pos hr]
 exact⟨trivial,hc,h3,h4,hC⟩
end Go.Av
namespace Go.Proofs.YtonldhgdjjfahaaGreat
open Go Go.Av
theorem abu (B s:Hp) (us:List AV) (a:AV) (h:MO B s 1 us a) (i:Nat) (hi:i<us.length) (hn:us.length≤100000):
  AC Tryz.prog 76 [a,.v (.int .i64 (i:Int)),.v (.int .i64 ((i:Int)+1))] s fun r s'=>MO B s' 1 (us.take i++us.drop (i+1)) r:=by
 obtain⟨l,n,cap,cs,rfl,q2,q3,q4,q5,q6,q7,q8⟩:=h.mb (fun e=>by rw[e]at hi;simp at hi)
 refine cR hm ado (by simp) ?_
 have en:n=us.length:=by omega
 have ei:(i:Int)+1=((i+1:Nat):Int):=by omega
 rw[ei]
 obtain⟨v1,w1⟩:=a8I (k:=1) (l:=l) (len:=n) (cap:=cap) (a:=i) (b:=i+1) (m:=n) (kd:= .i64) (kd':= .i64) (kd2:= .i64) (by omega) (by omega) q7
 have w2:iH 1 (.mb l n cap 1) none (some (.v (.int .i64 (i:Int)))) none=some (.mb l i cap 1):=xJ (by omega)
 obtain⟨v3,w3,_,Uo⟩:=E7 (k:=1) (l:=l) (len:=n) (cap:=cap) (a:=i+1) (kd:= .i64) (by omega) q7
 have Uo:=Uo s cs us q3 (by rw[q4];omega) q5
 have c1: ¬(i:Int)=((i+1:Nat):Int):=by omega
 refine sw (c4 @w1 @w2 @w3 @c1) ?_
 refine Rx q3 q4 Uo (by omega) (by omega) (by omega) ?_
 have e1:i+(n -(i+1))=n - 1:=by omega
 rw[e1,Nat.mul_one]
 have hY:(us.drop ((i+1)*1)).length=n -(i+1):=by rw[List.length_drop];omega
 obtain⟨iX,SW⟩: ∃iX,iX=putAt cs i (us.drop ((i+1)*1)):=⟨_,rfl⟩
 have im:iX.length=cap:=by rw[SW,rS _ _ _ (by omega)];omega
 have hct:iX.take (n - 1)=us.take i++us.drop (i+1):=by
  rw[SW,putAt]
  have et:(cs.take i).length=i:=by rw[List.length_take];omega
  rw[show n - 1=(cs.take i++us.drop ((i+1)*1)).length by rw[List.length_append,et,hY];omega,List.take_left,Nat.mul_one]
  congr 1
  rw[←q5,List.take_take,Nat.min_eq_left (by omega)]
 rw[←SW]
 have pM:(s.set l (.cells iX)) l=some (.cells iX):=Hp.bt _ _ _
 have w4:iH 1 (.mb l (n - 1) cap 1) (some (.v (.int .i64 ((n - 1:Nat):Int)))) (some (.v (.int .i64 ((n:Nat):Int)))) none=some (.gK l ((n - 1)*1) (n -(n - 1)) 1):=a8v (by omega) q7 (by omega)
 have w5:=Zn (k:=1) (n:=n -(n - 1)) (off:=n - 1) (z:= [AV.sl [] .nil]) pM (by rw[im];omega)
 rw[Nat.mul_one]at w4
 refine sw (c3 @w4 @w5 @Hp.set_set) ?_
 refine⟨_,Hp.aH,Hp.bT h.1 q2,.inr ⟨l,n - 1,cap,_,rfl,q2,Hp.bt _ _ _,?_,?_,?_,by omega,q8⟩⟩
 ·rw[rS _ _ _ (by rw[yJ,im];simp;omega),im,Nat.mul_one]
 ·rw[putAt,Nat.mul_one,List.append_assoc,List.take_append_of_le_length (by rw[List.length_take];omega),List.take_take,Nat.min_self,hct]
 ·rw[List.length_append,List.length_take,List.length_drop];omega
theorem abv (B s:Hp) (us:List AV) (a:AV) (h:MO B s 1 us a) (h0:us≠ []) (i:Nat) (hi:i≤us.length) (hn:us.length≤100000) (p:AV) (gv:Nat) (hv:B gv=some (.cells [p])):
  AC Tryz.prog 68 [a,.v (.int .i64 (i:Int)),.mb gv 1 1 1] s fun r s'=>MO B s' 1 (us.take i++p::us.drop i) r:=by
 obtain⟨l,n,cap,cs,rfl,q2,q3,q4,q5,q6,q7,q8⟩:=h.mb h0
 refine cR hm adh (by simp) ?_
 have en:n=us.length:=by omega
 have uA:=h.1 _ _ hv
 have bI:l≠gv:=by rintro rfl;rw[q2]at hv;cases hv
 have o1:((1:Nat):Int)=1:=rfl
 obtain⟨v1,w1,_,w1s⟩:=E7 (k:=1) (l:=l) (len:=n) (cap:=cap) (a:=i) (kd:= .i64) (by omega) q7
 have sv: ∀s':Hp,s' gv=some (.cells [p])→hU s' 1 (.mb gv 1 1 1)=some (1,[p]):=fun s' h=>by simp[hU,Hp.aV h]
 by_cases c1:(i:Int)=n
 ·have LM:=eq_true c1
  refine sw (c3 @w1 @LM @o1) ?_
  refine lX h (by omega) (sv s uA) rfl (by simp only[List.length_cons,List.length_nil];omega) (by simp only[List.length_cons,List.length_nil];omega) fun a' s' h'=> ?_
  refine Dp ?_
  refine⟨s',Hp.aH,?_⟩
  rw[List.take_of_length_le (by omega),List.drop_eq_nil_of_le (by omega)];exact h'
 have aW:i<n:=by omega
 have aid:=w1s s cs us q3 (by omega) q5
 rw[Nat.mul_one]at aid
 have iv:(us.drop i).length=n - i:=by rw[List.length_drop];omega
 by_cases c2:(cap:Int)<(n:Int)+1
 ·have w2:iH 1 (.mb l n cap 1) none (some (.v (.int .i64 (i:Int)))) none=some (.mb l i cap 1):=xJ (by omega)
  have e2:(n:Int)+1 -(i:Int)=((n+1 - i:Nat):Int):=by omega
  refine sw (c6 @w1 @c1 @o1 @c2 @w2 @e2) ?_
  refine Zo q3 q4 (by omega) (by omega) (by omega) fun g eD sp hg hc nS jt=> ?_
  have e3:i+(n+1 - i)=n+1:=by omega
  rw[e3]at hc jt⊢
  have nX:g≠l:=by rintro rfl;rw[hg]at q3;cases q3
  have Jc:g≠gv:=by rintro rfl;rw[hg]at uA;cases uA
  obtain⟨X,hX⟩: ∃X,X=cs.take (i*1)++(List.replicate (n+1 - i) [AV.sl [] .nil]).flatten++sp:=⟨_,rfl⟩
  have Up:X.length=eD:=by
   rw[hX,List.length_append,List.length_append,yJ,List.length_take,jt];simp;omega
  have C3:X.take i=us.take i:=by
   rw[hX,List.append_assoc,Nat.mul_one,List.take_append_of_le_length (by rw[List.length_take];omega),List.take_take,Nat.min_self,←q5,List.take_take];congr 1;omega
  rw[←hX]
  have w3:iH 1 (.mb g (n+1) eD 1) (some (.v (.int .i64 (i:Int)))) none none=some (.gK g (i*1) (n+1 - i) 1):=xK (by omega) hc (by omega)
  have w4:iH 1 (.mb g (n+1) eD 1) (some (.v (.int .i64 ((i:Int)+1)))) none none=some (.gK g ((i+1)*1) (n+1 -(i+1)) 1):=by
   rw[show(i:Int)+1=((i+1:Nat):Int) by omega];exact xK (by omega) hc (by omega)
  rw[Nat.mul_one]at w3 w4
  rw[Nat.add_sub_add_right]at w4
  have g1:(s.set g (.cells X)) gv=some (.cells [p]):=by rw[Hp.aX _ _ (Ne.symm Jc)];exact uA
  have w5:=yN (k:=1) (l:=g) (off:=i) (n:=n+1 - i) (sv _ g1) (Hp.bt s g (.cells X)) (by omega)
  have e5: [p].take ((n+1 - i)*1)= [p]:=List.take_of_length_le (by simp;omega)
  rw[e5]at w5
  obtain⟨Y,hY⟩: ∃Y,Y=putAt X i [p]:=⟨_,rfl⟩
  have C4:Y.length=eD:=by rw[hY,rS _ _ _ (by simp;omega),Up]
  rw[←hY]at w5
  have g2:(s.set g (.cells Y)) l=some (.cells cs):=by rw[Hp.aX _ _ (Ne.symm nX)];exact q3
  have OV:=w1s _ cs us g2 (by omega) q5
  rw[Nat.mul_one]at OV
  have w6:=yN (k:=1) (l:=g) (off:=i+1) (n:=n - i) OV (Hp.bt s g (.cells Y)) (by omega)
  have e6:(us.drop i).take ((n - i)*1)=us.drop i:=List.take_of_length_le (by omega)
  rw[e6]at w6
  refine sw (kg @w1 @c1 @o1 @c2 @w2 @e2 @w3 @w4 @w5 @w6 @Hp.set_set) ?_
  refine⟨_,Hp.aH,Hp.bT h.1 (Hp.iJ h.1 hg),.inr ⟨g,n+1,eD,_,rfl,Hp.iJ h.1 hg,Hp.bt _ _ _,?_,?_,?_,hc,nS⟩⟩
  ·rw[rS _ _ _ (by omega),C4,Nat.mul_one]
  ·have:=(Kh (X:=X) (V:= [p]) (B:=us.drop i) (v:=1) C3 rfl iv (by omega)).2
   rw[show(n+1)*1=i+1+(n - i) by omega,hY];exact this
  ·rw[List.length_append,List.length_cons,List.length_take,iv];omega
 ·have w2:iH 1 (.mb l n cap 1) none (some (.v (.int .i64 ((n:Int)+1)))) none=some (.mb l (n+1) cap 1):=by
   rw[show(n:Int)+1=((n+1:Nat):Int) by omega];exact xJ (by omega)
  have w3:iH 1 (.mb l (n+1) cap 1) (some (.v (.int .i64 (i:Int)))) none none=some (.gK l (i*1) (n+1 - i) 1):=xK (by omega) (by omega) (by omega)
  have w4:iH 1 (.mb l (n+1) cap 1) (some (.v (.int .i64 ((i:Int)+1)))) none none=some (.gK l ((i+1)*1) (n+1 -(i+1)) 1):=by
   rw[show(i:Int)+1=((i+1:Nat):Int) by omega];exact xK (by omega) (by omega) (by omega)
  rw[Nat.mul_one]at w3 w4
  rw[Nat.add_sub_add_right]at w4
  have SX:cs≠ []:=by rintro rfl;simp at q4;omega
  have wo:Aj (.mb gv 1 1 1) (.gK l (i+1) (n - i) 1) s=some (.v (.bool false)):=a0e rfl rfl (Ne.symm bI) (MG uA (by simp)) (MG q3 SX)
  have OV:hU s 1 (.gK l i (n+1 - i) 1)=some (n+1 - i,(cs.drop i).take (n+1 - i)):=by
   simp only[hU,Hp.aV q3,Nat.mul_one]
   rw[if_pos ⟨trivial,by omega⟩]
  have w6:=yN (k:=1) (l:=l) (off:=i+1) (n:=n - i) OV q3 (by omega)
  have e6:((cs.drop i).take (n+1 - i)).take ((n - i)*1)=us.drop i:=by
   rw[List.take_take,←q5,List.drop_take];congr 1;omega
  rw[e6]at w6
  obtain⟨Y,hY⟩: ∃Y,Y=putAt cs (i+1) (us.drop i):=⟨_,rfl⟩
  rw[←hY]at w6
  have C4:Y.length=cs.length:=by rw[hY,rS _ _ _ (by omega)]
  have g1:(s.set l (.cells Y)) gv=some (.cells [p]):=by rw[Hp.aX _ _ (Ne.symm bI)];exact uA
  have w5:=yN (k:=1) (l:=l) (off:=i) (n:=n+1 - i) (sv _ g1) (Hp.bt s l (.cells Y)) (by omega)
  have e5: [p].take ((n+1 - i)*1)= [p]:=List.take_of_length_le (by simp;omega)
  rw[e5]at w5
  refine sw (kg @w1 @c1 @o1 @c2 @w2 @w3 @w4 @wo @w6 @w5 @Hp.set_set) ?_
  refine⟨_,Hp.aH,Hp.bT h.1 q2,.inr ⟨l,n+1,cap,_,rfl,q2,Hp.bt _ _ _,?_,?_,?_,by omega,q8⟩⟩
  ·rw[rS _ _ _ (by simp;omega),C4,q4]
  ·have C3:cs.take i=us.take i:=by rw[←q5,List.take_take];congr 1;omega
   have:=(Kh (X:=cs) (V:= [p]) (B:=us.drop i) (v:=1) C3 rfl iv (by omega)).1
   rw[show(n+1)*1=i+1+(n - i) by omega,hY];exact this
  ·rw[List.length_append,List.length_cons,List.length_take,iv];omega
end Go.Proofs.YtonldhgdjjfahaaGreat
namespace Go.Av
open Go
theorem Hp.Rb {s:Hp}{l:Nat}{o:Ob} (h:s l=some o):s.set l o=s:=by
 funext x
 by_cases e:x=l
 ·subst e;rw[Hp.bt,h]
 ·rw[Hp.aX _ _ e]
theorem Nn {k l len cap a:Nat}{kd:IntKind}{z:List AV} (h:a≤len) (h2:len≤cap) (hz:z.length=k): ∃v,iH k (.mb l len cap k) (some (.v (.int kd (a:Int)))) none none=some v∧
  ∀(s:Hp) (cs:List AV),s l=some (.cells cs)→cs.length=cap*k→ ∃iX,Ai k z v s=some (s.set l (.cells iX))∧iX.length=cs.length∧iX.take (a*k)=cs.take (a*k):=by
 by_cases hc:a<cap
 ·refine⟨_,xK h h2 hc,fun s cs hl hk=> ?_⟩
  have e:a*k+(len - a)*k=len*k:=by rw[←Nat.add_mul];congr 1;omega
  have e2:len*k≤cap*k:=Nat.mul_le_mul_right _ h2
  have e3:a*k≤cs.length:=by omega
  refine⟨_,Zn hl (by omega),?_,?_⟩
  ·rw[rS _ _ _ (by rw[yJ,hz];omega)]
  ·rw[putAt,List.append_assoc,List.take_append_of_le_length (by rw[List.length_take];omega),List.take_take,Nat.min_self]
 ·obtain rfl:a=len:=by omega
  obtain rfl:a=cap:=by omega
  exact⟨_,Zm rfl,fun s cs hl hk=>⟨cs,by rw[abo,Hp.Rb hl],rfl,rfl⟩⟩
end Go.Av
namespace Go.Proofs.YtonldhgdjjfahaaGreat
open Go Go.Av
theorem Ry (B0 B s:Hp) (us vs:List AV) (a v:AV) (n m i j:Nat) (J:Int) (hJ:J=(j:Int)) (h:MO B s 37 us a) (tQ:us.length=n*37) (hv:MO B0 B 37 vs v) (nk:vs.length=m*37) (h0:0<m) (OS:i<j) (hj:j≤n) (hn:n≤100000) (TM:m≤100000):
  AC Tryz.prog 71 [a,.v (.int .i64 (i:Int)),.v (.int .i64 J),v] s fun r s'=>MO B s' 37 (us.take (i*37)++(vs++us.drop (j*37))) r:=by
 subst hJ
 obtain⟨l,n',cap,cs,rfl,q2,q3,q4,q5,q6,q7,q8⟩:=h.mb (fun e=>by rw[e]at tQ;simp at tQ;omega)
 obtain⟨l2,m',a1d,Dr,rfl,p2,p3,p4,p5,p6,p7,p8⟩:=hv.mb (fun e=>by rw[e]at nk;simp at nk;omega)
 obtain rfl:n=n':=by omega
 obtain rfl:m=m':=by omega
 have EH:=h.1 _ _ p3
 have bI:l≠l2:=by rintro rfl;rw[q2]at p3;cases p3
 have sv: ∀s':Hp,s' l2=some (.cells Dr)→hU s' 37 (.mb l2 m a1d 37)=some (m,vs):=fun s' h=>by
  simp only[hU,Hp.aV h];rw[if_pos ⟨trivial,by omega⟩,p5]
 refine cR hm a05 (by simp) ?_
 obtain⟨b0,w0⟩:=Zw (k:=37) (l:=l) (len:=n) (cap:=cap) (a:=i) (b:=j) (kd:= .i64) (kd':= .i64) (by omega) (by omega)
 have c0: ¬(i:Int)=j:=by omega
 have w2:iH 37 (.mb l n cap 37) none (some (.v (.int .i64 (i:Int)))) none=some (.mb l i cap 37):=xJ (by omega)
 have Iz:(List.replicate 32 (AV.v (.int .u8 0))++ [AV.sl [] .nil,.sl [] .nil]++ [AV.v (.int .i64 0),.v (.int .i64 0)]++ [AV.sl [] .nil]).length=37:=by simp
 have An:(us.take (i*37)).length=i*37:=by rw[List.length_take];omega
 by_cases c1:(j:Int)=n
 ·have LM:=eq_true c1
  obtain rfl:j=n:=by omega
  have Uq:us.drop (j*37)= []:=List.drop_eq_nil_of_le (by omega)
  rw[Uq,List.append_nil]
  refine sw (c4 @w0 @c0 @LM @w2) ?_
  by_cases c3:i+m<j
  ·refine Rx q3 q4 (sv s EH) (by omega) (by omega) (by omega) ?_
   obtain⟨Y,hY⟩: ∃Y,Y=putAt cs (i*37) vs:=⟨_,rfl⟩
   have C4:Y.length=cs.length:=by rw[hY,rS _ _ _ (by omega)]
   rw[←hY]
   obtain⟨b1,x1,x2⟩:=Nn (k:=37) (l:=l) (len:=j) (cap:=cap) (a:=i+m) (kd:= .i64) (by omega) q7 Iz
   obtain⟨Z,z1,z2,z3⟩:=x2 (s.set l (.cells Y)) Y (Hp.bt _ _ _) (by omega)
   have yh:((i+m:Nat):Int)<(j:Int):=by omega
   refine sw (c4 @yh @x1 @z1 @Hp.set_set) ?_
   refine⟨_,Hp.aH,Hp.bT h.1 q2,.inr ⟨l,i+m,cap,_,rfl,q2,Hp.bt _ _ _,by omega,?_,by rw[List.length_append,An];omega,by omega,q8⟩⟩
   rw[z3,hY,putAt,List.take_left' (by rw[List.length_append,List.length_take];omega),←q5,List.take_take]
   congr 2;omega
  ·refine lX (h.first (i:=i) (by omega)) (by omega) (sv s EH) nk (by rw[An];omega) (by rw[An];omega) fun a' s' h'=> ?_
   obtain⟨n9,r1,r2,r3⟩:=h'.src
   rw[List.length_append,An,nk]at r1
   obtain rfl:n9=i+m:=by omega
   have yh: ¬((i+m:Nat):Int)<(j:Int):=by omega
   refine sw (c2 @r3 @yh) ?_
   exact⟨_,Hp.aH,h'⟩
 have aW:j<n:=by omega
 obtain⟨b4,w4,Jd,OW⟩:=E7 (k:=37) (l:=l) (len:=n) (cap:=cap) (a:=j) (kd:= .i64) (by omega) q7
 have iv:(us.drop (j*37)).length=(n - j)*37:=by rw[List.length_drop];omega
 obtain⟨jf,aie⟩: ∃t,t=i+m+(n - j):=⟨_,rfl⟩
 have et:(i:Int)+(m:Int)+((n - j:Nat):Int)=(jf:Int):=by omega
 have OX:(i:Int)+(m:Int)=((i+m:Nat):Int):=by omega
 have Je:((i+m:Nat):Int)+((n - j:Nat):Int)=(jf:Int):=by omega
 by_cases c2:(cap:Int)<(jf:Int)
 ·have e2:(jf:Int) -(i:Int)=((jf - i:Nat):Int):=by omega
  refine sw (gP @w0 @c0 @c1 @w2 @w4 @Jd @OX @Je @c2 @e2) ?_
  refine Zo q3 q4 (by omega) (by omega) (by omega) fun g eD sp hg hc nS jt=> ?_
  have e3:i+(jf - i)=jf:=by omega
  rw[e3]at hc jt⊢
  have nX:g≠l:=by rintro rfl;rw[hg]at q3;cases q3
  have Jc:g≠l2:=by rintro rfl;rw[hg]at EH;cases EH
  obtain⟨X,hX⟩: ∃X,X=cs.take (i*37)++(List.replicate (jf - i) (List.replicate 32 (AV.v (.int .u8 0))++ [AV.sl [] .nil,.sl [] .nil]++ [AV.v (.int .i64 0),.v (.int .i64 0)]++ [AV.sl [] .nil])).flatten++sp:=⟨_,rfl⟩
  have Up:X.length=eD*37:=by
   rw[hX,List.length_append,List.length_append,yJ,Iz,List.length_take,jt];omega
  have C3:X.take (i*37)=us.take (i*37):=by
   rw[hX,List.append_assoc,List.take_append_of_le_length (by rw[List.length_take];omega),List.take_take,Nat.min_self,←q5,List.take_take];congr 1;omega
  rw[←hX]
  have w3:iH 37 (.mb g jf eD 37) (some (.v (.int .i64 (i:Int)))) none none=some (.gK g (i*37) (jf - i) 37):=xK (by omega) hc (by omega)
  have w5:iH 37 (.mb g jf eD 37) (some (.v (.int .i64 ((i+m:Nat):Int)))) none none=some (.gK g ((i+m)*37) (jf -(i+m)) 37):=xK (by omega) hc (by omega)
  have g1:(s.set g (.cells X)) l2=some (.cells Dr):=by rw[Hp.aX _ _ (Ne.symm Jc)];exact EH
  have w6:=yN (k:=37) (l:=g) (off:=i*37) (n:=jf - i) (sv _ g1) (Hp.bt s g (.cells X)) (by omega)
  rw[List.take_of_length_le (l:=vs) (by omega)]at w6
  obtain⟨Y,hY⟩: ∃Y,Y=putAt X (i*37) vs:=⟨_,rfl⟩
  have C4:Y.length=X.length:=by rw[hY,rS _ _ _ (by omega)]
  rw[←hY]at w6
  have g2:(s.set g (.cells Y)) l=some (.cells cs):=by rw[Hp.aX _ _ (Ne.symm nX)];exact q3
  have w7:=yN (k:=37) (l:=g) (off:=(i+m)*37) (n:=jf -(i+m)) (OW _ cs us g2 (by omega) q5) (Hp.bt s g (.cells Y)) (by omega)
  rw[List.take_of_length_le (l:=us.drop (j*37)) (by omega)]at w7
  refine sw (Gr @w0 @c0 @c1 @w2 @w4 @Jd @OX @Je @c2 @e2 @w3 @w5 @w6 @w7 @Hp.set_set) ?_
  refine⟨_,Hp.aH,Hp.bT h.1 (Hp.iJ h.1 hg),.inr ⟨g,jf,eD,_,rfl,Hp.iJ h.1 hg,Hp.bt _ _ _,?_,?_,?_,hc,nS⟩⟩
  ·rw[rS _ _ _ (by omega),C4,Up]
  ·have:=(Kh (X:=X) (V:=vs) (B:=us.drop (j*37)) C3 nk iv (by omega)).2
   rw[show jf*37=i*37+m*37+(n - j)*37 by omega,hY,show(i+m)*37=i*37+m*37 by omega];exact this
  ·rw[List.length_append,List.length_append,An,iv];omega
 have w3:iH 37 (.mb l n cap 37) none (some (.v (.int .i64 (jf:Int)))) none=some (.mb l jf cap 37):=xJ (by omega)
 have w5:iH 37 (.mb l jf cap 37) (some (.v (.int .i64 (i:Int)))) none none=some (.gK l (i*37) (jf - i) 37):=xK (by omega) (by omega) (by omega)
 have w6:iH 37 (.mb l jf cap 37) (some (.v (.int .i64 ((i+m:Nat):Int)))) none none=some (.gK l ((i+m)*37) (jf -(i+m)) 37):=xK (by omega) (by omega) (by omega)
 have C3:cs.take (i*37)=us.take (i*37):=by rw[←q5,List.take_take];congr 1;omega
 by_cases c3:((i+m:Nat):Int)≤(j:Int)
 ·have x1:=yN (k:=37) (l:=l) (off:=i*37) (n:=jf - i) (sv s EH) q3 (by omega)
  rw[List.take_of_length_le (l:=vs) (by omega)]at x1
  obtain⟨Y,hY⟩: ∃Y,Y=putAt cs (i*37) vs:=⟨_,rfl⟩
  have C4:Y.length=cs.length:=by rw[hY,rS _ _ _ (by omega)]
  have hYd:(Y.drop (j*37)).take ((n - j)*37)=us.drop (j*37):=by
   have e9:(cs.take (i*37)++vs).length=(i+m)*37:=by rw[List.length_append,List.length_take];omega
   rw[hY,putAt,show j*37=(i+m)*37+(j*37 -(i+m)*37) by omega,←List.drop_drop,List.drop_left' e9,List.drop_drop,←q5,List.drop_take]
   congr 1
   ·omega
   ·congr 1;omega
  rw[←hY]at x1
  have w8:iH 37 (.mb l n cap 37) (some (.v (.int .i64 (j:Int)))) none none=some (.gK l (j*37) (n - j) 37):=xK (by omega) (by omega) (by omega)
  have s9:hU (s.set l (.cells Y)) 37 (.gK l (j*37) (n - j) 37)=some (n - j,us.drop (j*37)):=by
   simp only[hU,Hp.aV (Hp.bt s l (.cells Y))]
   rw[if_pos ⟨trivial,by omega⟩,hYd]
  have x2:=yN (k:=37) (l:=l) (off:=(i+m)*37) (n:=jf -(i+m)) s9 (Hp.bt s l (.cells Y)) (by omega)
  rw[List.take_of_length_le (l:=us.drop (j*37)) (by omega),Hp.set_set]at x2
  obtain⟨Z,hZ⟩: ∃Z,Z=putAt Y ((i+m)*37) (us.drop (j*37)):=⟨_,rfl⟩
  have hZl:Z.length=cs.length:=by rw[hZ,rS _ _ _ (by omega),C4]
  rw[←hZ]at x2
  obtain⟨b1,y1,y2⟩:=Nn (k:=37) (l:=l) (len:=n) (cap:=cap) (a:=jf) (kd:= .i64) (by omega) q7 Iz
  obtain⟨W,z1,z2,z3⟩:=y2 (s.set l (.cells Z)) Z (Hp.bt _ _ _) (by omega)
  have Ur:b4= .gK l (j*37) (n - j) 37:=by rw[w8]at w4;exact(Option.some.inj w4).symm
  subst Ur
  refine sw (OD @w0 @c0 @c1 @w2 @w4 @Jd @OX @Je @c2 @c3 @w3 @w5 @w6 @x1 @x2 @y1 @z1 @Hp.set_set) ?_
  refine⟨_,Hp.aH,Hp.bT h.1 q2,.inr ⟨l,jf,cap,_,rfl,q2,Hp.bt _ _ _,by omega,?_,?_,by omega,q8⟩⟩
  ·rw[z3,hZ,hY,show jf*37=i*37+m*37+(n - j)*37 by omega,show(i+m)*37=i*37+m*37 by omega]
   exact(Kh (X:=cs) (V:=vs) (B:=us.drop (j*37)) C3 nk iv (by omega)).2
  ·rw[List.length_append,List.length_append,An,iv];omega
 ·have SX:cs≠ []:=by rintro rfl;simp at q4;omega
  have ag0:Dr≠ []:=by rintro rfl;simp at p4;omega
  have wo:Aj (.gK l ((i+m)*37) (jf -(i+m)) 37) (.mb l2 m a1d 37) s=some (.v (.bool false)):=a0e rfl rfl bI (MG q3 SX) (MG EH ag0)
  have x1:=yN (k:=37) (l:=l) (off:=(i+m)*37) (n:=jf -(i+m)) (OW s cs us q3 (by omega) q5) q3 (by omega)
  rw[List.take_of_length_le (l:=us.drop (j*37)) (by omega)]at x1
  obtain⟨Y,hY⟩: ∃Y,Y=putAt cs ((i+m)*37) (us.drop (j*37)):=⟨_,rfl⟩
  have C4:Y.length=cs.length:=by rw[hY,rS _ _ _ (by omega)]
  rw[←hY]at x1
  have g1:(s.set l (.cells Y)) l2=some (.cells Dr):=by rw[Hp.aX _ _ (Ne.symm bI)];exact EH
  have x2:=yN (k:=37) (l:=l) (off:=i*37) (n:=jf - i) (sv _ g1) (Hp.bt s l (.cells Y)) (by omega)
  rw[List.take_of_length_le (l:=vs) (by omega),Hp.set_set]at x2
  refine sw (Gs @w0 @c0 @c1 @w2 @w4 @Jd @OX @Je @c2 @c3 @w3 @w5 @w6 @wo @x1 @x2 @Hp.set_set) ?_
  refine⟨_,Hp.aH,Hp.bT h.1 q2,.inr ⟨l,jf,cap,_,rfl,q2,Hp.bt _ _ _,?_,?_,?_,by omega,q8⟩⟩
  ·rw[rS _ _ _ (by omega),C4,q4]
  ·rw[hY,show jf*37=i*37+m*37+(n - j)*37 by omega,show(i+m)*37=i*37+m*37 by omega]
   exact(Kh (X:=cs) (V:=vs) (B:=us.drop (j*37)) C3 nk iv (by omega)).1
  ·rw[List.length_append,List.length_append,An,iv];omega
theorem Yy (B s:Hp) (us:List AV) (a:AV) (n i j:Nat) (J:Int) (hJ:J=(j:Int)) (h:MO B s 37 us a) (tQ:us.length=n*37) (OS:i<j) (hj:j≤n) (hn:n≤100000):
  AC Tryz.prog 71 [a,.v (.int .i64 (i:Int)),.v (.int .i64 J),.sl [] .nil] s fun r s'=>MO B s' 37 (us.take (i*37)++us.drop (j*37)) r:=by
 subst hJ
 obtain⟨l,n',cap,cs,rfl,q2,q3,q4,q5,q6,q7,q8⟩:=h.mb (fun e=>by rw[e]at tQ;simp at tQ;omega)
 obtain rfl:n=n':=by omega
 have sv: ∀s':Hp,hU s' 37 (.sl [] .nil)=some (0,[]):=fun s'=>rfl
 refine cR hm a05 (by simp) ?_
 obtain⟨b0,w0⟩:=Zw (k:=37) (l:=l) (len:=n) (cap:=cap) (a:=i) (b:=j) (kd:= .i64) (kd':= .i64) (by omega) (by omega)
 have c0: ¬(i:Int)=j:=by omega
 have w2:iH 37 (.mb l n cap 37) none (some (.v (.int .i64 (i:Int)))) none=some (.mb l i cap 37):=xJ (by omega)
 have Iz:(List.replicate 32 (AV.v (.int .u8 0))++ [AV.sl [] .nil,.sl [] .nil]++ [AV.v (.int .i64 0),.v (.int .i64 0)]++ [AV.sl [] .nil]).length=37:=by simp
 have An:(us.take (i*37)).length=i*37:=by rw[List.length_take];omega
 by_cases c1:(j:Int)=n
 ·have LM:=eq_true c1
  obtain rfl:j=n:=by omega
  have Uq:us.drop (j*37)= []:=List.drop_eq_nil_of_le (by omega)
  rw[Uq,List.append_nil]
  refine sw (c4 @w0 @c0 @LM @w2) ?_
  refine Rx q3 q4 (sv s) (by omega) (by omega) (by omega) ?_
  have e0:putAt cs (i*37) []=cs:=by simp[putAt]
  rw[e0,Hp.Rb q3]
  obtain⟨b1,x1,x2⟩:=Nn (k:=37) (l:=l) (len:=j) (cap:=cap) (a:=i) (kd:= .i64) (by omega) q7 Iz
  obtain⟨Z,z1,z2,z3⟩:=x2 s cs q3 q4
  have yh:(i:Int)<(j:Int):=by omega
  refine sw (c4 @Nat.add_zero @yh @x1 @z1) ?_
  refine⟨_,Hp.aH,Hp.bT h.1 q2,.inr ⟨l,i,cap,_,rfl,q2,Hp.bt _ _ _,by omega,?_,An,by omega,q8⟩⟩
  rw[z3,←q5,List.take_take]
  congr 1;omega
 have aW:j<n:=by omega
 obtain⟨b4,w4,Jd,OW⟩:=E7 (k:=37) (l:=l) (len:=n) (cap:=cap) (a:=j) (kd:= .i64) (by omega) q7
 have iv:(us.drop (j*37)).length=(n - j)*37:=by rw[List.length_drop];omega
 obtain⟨jf,aie⟩: ∃t,t=i+(n - j):=⟨_,rfl⟩
 have Je:(i:Int)+((n - j:Nat):Int)=(jf:Int):=by omega
 have c2: ¬(cap:Int)<(jf:Int):=by omega
 have w3:iH 37 (.mb l n cap 37) none (some (.v (.int .i64 (jf:Int)))) none=some (.mb l jf cap 37):=xJ (by omega)
 have w5:iH 37 (.mb l jf cap 37) (some (.v (.int .i64 (i:Int)))) none none=some (.gK l (i*37) (jf - i) 37):=xK (by omega) (by omega) (by omega)
 have C3:cs.take (i*37)=us.take (i*37):=by rw[←q5,List.take_take];congr 1;omega
 have c3:(i:Int)≤(j:Int):=by omega
 have e0:putAt cs (i*37) ([]:List AV)=cs:=by simp[putAt]
 have x1:=yN (k:=37) (l:=l) (off:=i*37) (n:=jf - i) (sv s) q3 (by omega)
 rw[List.take_nil,e0,Hp.Rb q3]at x1
 have w8:iH 37 (.mb l n cap 37) (some (.v (.int .i64 (j:Int)))) none none=some (.gK l (j*37) (n - j) 37):=xK (by omega) (by omega) (by omega)
 have Ur:b4= .gK l (j*37) (n - j) 37:=by rw[w8]at w4;exact(Option.some.inj w4).symm
 subst Ur
 have x2:=yN (k:=37) (l:=l) (off:=i*37) (n:=jf - i) (OW s cs us q3 (by omega) q5) q3 (by omega)
 rw[List.take_of_length_le (l:=us.drop (j*37)) (by omega)]at x2
 obtain⟨Z,hZ⟩: ∃Z,Z=putAt cs (i*37) (us.drop (j*37)):=⟨_,rfl⟩
 have hZl:Z.length=cs.length:=by rw[hZ,rS _ _ _ (by omega)]
 rw[←hZ]at x2
 obtain⟨b1,y1,y2⟩:=Nn (k:=37) (l:=l) (len:=n) (cap:=cap) (a:=jf) (kd:= .i64) (by omega) q7 Iz
 obtain⟨W,z1,z2,z3⟩:=y2 (s.set l (.cells Z)) Z (Hp.bt _ _ _) (by omega)
 have z00:(([]:List AV).length:Int)=0:=rfl
 refine sw (Gs @w0 @c0 @c1 @w2 @w4 @Jd @Int.add_zero @Je @c2 @c3 @w3 @w5 @x1 @x2 @y1 @z1 @Hp.set_set) ?_
 refine⟨_,Hp.aH,Hp.bT h.1 q2,.inr ⟨l,jf,cap,_,rfl,q2,Hp.bt _ _ _,by omega,?_,?_,by omega,q8⟩⟩
 ·rw[z3,hZ,putAt,C3,List.take_left' (by rw[List.length_append,An,iv];omega)]
 ·rw[List.length_append,An,iv];omega
end Go.Proofs.YtonldhgdjjfahaaGreat
namespace Go.Av
open Go
structure Sr (s:Hp) (k:Nat) (a:AV) (n:Nat) (us:List AV):Prop where
 src: ∀s',s.sub s'→hU s' k a=some (n,us)
 len:wN a=some (.v (.int .i64 (n:Int)))
 one:a.cells= [a]
 full:us.length=n*k
theorem Sr.mono {s s':Hp}{k n:Nat}{a:AV}{us:List AV} (h:Sr s k a n us) (hs:s.sub s'):Sr s' k a n us:=⟨fun s2 h2=>h.src s2 (Hp.cy hs h2),h.len,h.one,h.full⟩
theorem Sr.sl {s:Hp}{k:Nat}{av:List AV}{o:Own} (h:dS k av):Sr s k (.sl av o) av.length (flat av):=⟨fun s' _=>by
 have:av.all (fun e=>decide (e.cells.length=k))=true:=List.all_eq_true.2 fun e he=>decide_eq_true (h e he)
 simp only[hU,this,if_true],rfl,rfl,ny h⟩
theorem MO.sr {s0 s:Hp}{k:Nat}{us:List AV}{a:AV} (h:MO s0 s k us a) (hk:0<k): ∃n,us.length=n*k∧Sr s k a n us:=by
 obtain⟨n,h1,_,h3⟩:=h.src
 refine⟨n,h1,fun s' hs=> ?_,h3,?_,h1⟩
 ·obtain⟨m,h4,h5,_⟩:=(MO.mono h hs).src
  obtain rfl:m=n:=Nat.eq_of_mul_eq_mul_right hk (by omega)
  exact h5
 ·rcases h.2 with ⟨_,rfl|rfl⟩|⟨l,n,cap,cs,rfl,_⟩<;>rfl
theorem AC.Ft {P:Program}{g:FuncId}{pre post:List AV}{s s':Hp}{a a':AV}{R:AV→Hp→Prop} (hv:View s a s' a') (h:AC P g (pre++a'::post) s' R):AC P g (pre++a::post) s R:=by
 refine h.pre fun vs w H ha hh=> ?_
 have h1:=ha.2 pre.length a (by simp)
 obtain⟨H',st,h2⟩:=hv H w _ hh h1
 refine⟨H',?_,st⟩
 have ha':=ha.mono st.le
 refine⟨by rw[ha'.1];simp,fun j u hu=> ?_⟩
 by_cases hj2:j=pre.length
 ·subst hj2
  have h3:u=a':=by simpa using hu.symm
  subst h3
  exact h2
 ·refine ha'.2 j u ?_
  rw[List.getElem?_append]at hu⊢
  split
  ·rename_i h1;rw[if_pos h1]at hu;exact hu
  ·rename_i h1
   rw[if_neg h1]at hu
   obtain⟨i,hi⟩: ∃i,j - pre.length=i+1:=⟨j - pre.length - 1,by omega⟩
   rw[hi]at hu⊢
   simpa using hu
end Go.Av
namespace Go.Proofs.YtonldhgdjjfahaaGreat
open Go Go.Av
theorem a8J (n:Nat) (hn:n≤100000000) (s:Hp):
  AC Tryz.prog 175 [.sl [] .nil,.v (.int .i64 (n:Int))] s fun r s'=>MO s s' 1 [] r:=by
 refine cR hm aa9 (by simp) ?_
 have c0: ¬(n:Int)<0:=by omega
 have e1:(n:Int) -(0 - 0)=n:=by omega
 have w1:iH 1 (.sl [] .nil) none (some (.v (.int .i64 0))) none=some (.sl [] .nil):=Rv
 by_cases c1:(0:Int)<n
 ·refine sw (c5 @c0 @e1 @c1 @w1 @Int.sub_zero) ?_
  refine Yr (by omega) (by omega) (by omega) fun g cap sp hg hc nS jt=> ?_
  have w2:iH 1 (.mb g n cap 1) none (some (.v (.int .i64 0))) none=some (.mb g 0 cap 1):=xJ (b:=0) (by omega)
  refine sw @w2 ?_
  refine⟨_,Hp.aH,Hp.bT Hp.aH hg,.inr ⟨g,0,cap,_,rfl,hg,Hp.bt _ _ _,?_,by simp,by simp,by omega,nS⟩⟩
  rw[List.length_append,yJ,jt];simp;omega
 ·refine sw (c5 @c0 @e1 @c1 @w1 @Int.sub_zero) ?_
  exact⟨_,Hp.aH,MO.nil Hp.aH⟩
theorem a5J (s:Hp) (a b:AV) (o:Own) (n m:Nat) (us vs:List AV) (ha:Sr s 1 a n us) (hb:Sr s 1 b m vs) (hn:n≤100000) (OG:m≤100000):
  AC Tryz.prog 143 [.sl [a,b] o] s fun r s'=>MO s s' 1 (us++vs) r:=by
 refine cR hm a9J (by simp) ?_
 have lj:=ha.len
 have vX:=hb.len
 have qi:Sl s 1 (.sl [a,b] o) [a,b]:=Sl.sl fun e he=>by
  simp only[List.mem_cons,List.not_mem_nil,or_false]at he
  rcases he with rfl|rfl
  ·rw[ha.one];rfl
  ·rw[hb.one];rfl
 have l2:(([a,b].length:Nat):Int)=2:=rfl
 obtain⟨p0,i0,q0⟩:=qi.get 0 a rfl
 obtain⟨p1,i1,q1⟩:=qi.get 1 b rfl
 have LN: ∀s',s.sub s'→k9 false 1 s' p0=some a:=fun s' h=>by rw[q0.ld s' h false 1 (by omega) (by rw[ha.one];simp),ha.one];rfl
 have LO: ∀s',s.sub s'→k9 false 1 s' p1=some b:=fun s' h=>by rw[q1.ld s' h false 1 (by omega) (by rw[hb.one];simp),hb.one];rfl
 have z0:((0:Nat):Int)=0:=rfl
 have z1:((1:Nat):Int)=1:=rfl
 rw[z0]at i0
 rw[z1]at i1
 have SY:=LN s Hp.aH
 have SZ:=LO s Hp.aH
 have c5: ¬(n:Int)<0:=by omega
 have c6: ¬(n:Int)+(m:Int)<0:=by omega
 refine sw @l2 ?_
 refine fS (fun f s'=>s'=s∧f 0= .sl [a,b] o∧f 9= .sl [a,b] o∧f 10= .v (.int .i64 2)∧((f 11= .v (.int .i64 0)∧f 3= .v (.int .i64 0))∨(f 11= .v (.int .i64 1)∧f 3= .v (.int .i64 n))∨(f 11= .v (.int .i64 2)∧f 3= .v (.int .i64 ((n:Int)+(m:Int))))))
  (fun f _=>match f 11 with| .v (.int _ i)=>2 - i.toNat| _=>0) ⟨rfl,?_⟩ ?_
 ·refine sw @l2 ?_
  exact .inl trivial
 rintro f sA ⟨rfl,f0,f9,f10,hc⟩
 rcases hc with ⟨f11,f3⟩|⟨f11,f3⟩|⟨f11,f3⟩
 ·refine sw (gP @f0 @f9 @f10 @f11 @f3 @i0 @SY @lj @c5 @Int.zero_add) ?_
  first|exact .inr (.inl trivial)|exact .inr (.inl ⟨rfl,rfl⟩)
 ·refine sw (c9 @f0 @f9 @f10 @f11 @f3 @i1 @SZ @vX @c6) ?_
  first|exact .inr (.inr trivial)|exact .inr (.inr ⟨rfl,rfl⟩)
 ·have Us:(n:Int)+(m:Int)=((n+m:Nat):Int):=by omega
  rw[Us]at f3
  simp -dsimp -implicitDefEqProofs (disch:=first|omega|assumption|(simp only[rL,Nat.reduceAdd];try omega)) only[go_sem,simprocAttr,-List.reduceReplicate,↓rW,f0,f9,f10,f11,f3]
  refine bC (a8J (n+m) (by omega) _) ?_
  intro r0 s1 Ut
  simp -dsimp -implicitDefEqProofs (disch:=first|omega|assumption|(simp only[rL,Nat.reduceAdd];try omega)) only[go_sem,simprocAttr,-List.reduceReplicate,↓rW,f0,f9,f10,f11,f3,l2]
  refine fS (fun f s'=>f 25= .sl [a,b] o∧f 26= .v (.int .i64 2)∧((f 27= .v (.int .i64 0)∧MO sA s' 1 [] (f 6))∨(f 27= .v (.int .i64 1)∧MO sA s' 1 us (f 6))∨(f 27= .v (.int .i64 2)∧MO sA s' 1 (us++vs) (f 6))))
   (fun f _=>match f 27 with| .v (.int _ i)=>2 - i.toNat| _=>0) ?_ ?_
  ·simp -dsimp -implicitDefEqProofs (disch:=first|omega|assumption|(simp only[rL,Nat.reduceAdd];try omega)) only[go_sem,simprocAttr,-List.reduceReplicate,↓rW,f0,f9,f10,f11,f3,l2]
   exact .inl Ut
  rintro f sB ⟨f25,f26,hc⟩
  have AR:=ha.full
  have nk:=hb.full
  rcases hc with ⟨f27,hM⟩|⟨f27,hM⟩|⟨f27,hM⟩
  ·have ld:=LN sB hM.1
   generalize GH:f 6=x6 at hM
   simp -dsimp -implicitDefEqProofs (disch:=first|omega|assumption|(simp only[rL,Nat.reduceAdd];try omega)) only[go_sem,simprocAttr,-List.reduceReplicate,↓rW,f25,f26,f27,i0,ld,GH]
   refine lX hM (by omega) (ha.src sB hM.1) AR (by rw[List.length_nil,AR];omega) (by rw[List.length_nil,AR];omega) fun a' s' h'=> ?_
   simp -dsimp -implicitDefEqProofs (disch:=first|omega|assumption|(simp only[rL,Nat.reduceAdd];try omega)) only[go_sem,simprocAttr,-List.reduceReplicate,↓rW,f25,f26,f27,i0,ld]
   exact .inr (.inl h')
  ·have ld:=LO sB hM.1
   generalize GH:f 6=x6 at hM
   simp -dsimp -implicitDefEqProofs (disch:=first|omega|assumption|(simp only[rL,Nat.reduceAdd];try omega)) only[go_sem,simprocAttr,-List.reduceReplicate,↓rW,f25,f26,f27,i1,ld,GH]
   refine lX hM (by omega) (hb.src sB hM.1) nk (by rw[AR,nk];omega) (by rw[AR,nk];omega) fun a' s' h'=> ?_
   simp -dsimp -implicitDefEqProofs (disch:=first|omega|assumption|(simp only[rL,Nat.reduceAdd];try omega)) only[go_sem,simprocAttr,-List.reduceReplicate,↓rW,f25,f26,f27,i1,ld]
   exact .inr (.inr h')
  ·refine sw (c3 @f25 @f26 @f27) ?_
   exact⟨_,Hp.aH,hM⟩
theorem a8K (n:Nat) (hn:n≤100000000) (s:Hp):
  AC Tryz.prog 176 [.sl [] .nil,.v (.int .i64 (n:Int))] s fun r s'=>MO s s' 37 [] r:=by
 refine cR hm aaa (by simp) ?_
 have c0: ¬(n:Int)<0:=by omega
 have e1:(n:Int) -(0 - 0)=n:=by omega
 have w1:iH 37 (.sl [] .nil) none (some (.v (.int .i64 0))) none=some (.sl [] .nil):=Rv
 by_cases c1:(0:Int)<n
 ·refine sw (c5 @c0 @e1 @c1 @w1 @Int.sub_zero) ?_
  refine Yr (by omega) (by omega) (by omega) fun g cap sp hg hc nS jt=> ?_
  have w2:iH 37 (.mb g n cap 37) none (some (.v (.int .i64 0))) none=some (.mb g 0 cap 37):=xJ (b:=0) (by omega)
  refine sw @w2 ?_
  refine⟨_,Hp.aH,Hp.bT Hp.aH hg,.inr ⟨g,0,cap,_,rfl,hg,Hp.bt _ _ _,?_,by simp,by simp,by omega,nS⟩⟩
  rw[List.length_append,yJ,jt];simp;omega
 ·refine sw (c5 @c0 @e1 @c1 @w1 @Int.sub_zero) ?_
  exact⟨_,Hp.aH,MO.nil Hp.aH⟩
theorem a5K (s:Hp) (a b:AV) (o:Own) (n m:Nat) (us vs:List AV) (ha:Sr s 37 a n us) (hb:Sr s 37 b m vs) (hn:n≤100000) (OG:m≤100000):
  AC Tryz.prog 144 [.sl [a,b] o] s fun r s'=>MO s s' 37 (us++vs) r:=by
 refine cR hm a9K (by simp) ?_
 have lj:=ha.len
 have vX:=hb.len
 have qi:Sl s 1 (.sl [a,b] o) [a,b]:=Sl.sl fun e he=>by
  simp only[List.mem_cons,List.not_mem_nil,or_false]at he
  rcases he with rfl|rfl
  ·rw[ha.one];rfl
  ·rw[hb.one];rfl
 have l2:(([a,b].length:Nat):Int)=2:=rfl
 obtain⟨p0,i0,q0⟩:=qi.get 0 a rfl
 obtain⟨p1,i1,q1⟩:=qi.get 1 b rfl
 have LN: ∀s',s.sub s'→k9 false 1 s' p0=some a:=fun s' h=>by rw[q0.ld s' h false 1 (by omega) (by rw[ha.one];simp),ha.one];rfl
 have LO: ∀s',s.sub s'→k9 false 1 s' p1=some b:=fun s' h=>by rw[q1.ld s' h false 1 (by omega) (by rw[hb.one];simp),hb.one];rfl
 have z0:((0:Nat):Int)=0:=rfl
 have z1:((1:Nat):Int)=1:=rfl
 rw[z0]at i0
 rw[z1]at i1
 have SY:=LN s Hp.aH
 have SZ:=LO s Hp.aH
 have c5: ¬(n:Int)<0:=by omega
 have c6: ¬(n:Int)+(m:Int)<0:=by omega
 refine sw @l2 ?_
 refine fS (fun f s'=>s'=s∧f 0= .sl [a,b] o∧f 9= .sl [a,b] o∧f 10= .v (.int .i64 2)∧((f 11= .v (.int .i64 0)∧f 3= .v (.int .i64 0))∨(f 11= .v (.int .i64 1)∧f 3= .v (.int .i64 n))∨(f 11= .v (.int .i64 2)∧f 3= .v (.int .i64 ((n:Int)+(m:Int))))))
  (fun f _=>match f 11 with| .v (.int _ i)=>2 - i.toNat| _=>0) ⟨rfl,?_⟩ ?_
 ·refine sw @l2 ?_
  exact .inl trivial
 rintro f sA ⟨rfl,f0,f9,f10,hc⟩
 rcases hc with ⟨f11,f3⟩|⟨f11,f3⟩|⟨f11,f3⟩
 ·refine sw (gP @f0 @f9 @f10 @f11 @f3 @i0 @SY @lj @c5 @Int.zero_add) ?_
  first|exact .inr (.inl trivial)|exact .inr (.inl ⟨rfl,rfl⟩)
 ·refine sw (c9 @f0 @f9 @f10 @f11 @f3 @i1 @SZ @vX @c6) ?_
  first|exact .inr (.inr trivial)|exact .inr (.inr ⟨rfl,rfl⟩)
 ·have Us:(n:Int)+(m:Int)=((n+m:Nat):Int):=by omega
  rw[Us]at f3
  simp -dsimp -implicitDefEqProofs (disch:=first|omega|assumption|(simp only[rL,Nat.reduceAdd];try omega)) only[go_sem,simprocAttr,-List.reduceReplicate,↓rW,f0,f9,f10,f11,f3]
  refine bC (a8K (n+m) (by omega) _) ?_
  intro r0 s1 Ut
  simp -dsimp -implicitDefEqProofs (disch:=first|omega|assumption|(simp only[rL,Nat.reduceAdd];try omega)) only[go_sem,simprocAttr,-List.reduceReplicate,↓rW,f0,f9,f10,f11,f3,l2]
  refine fS (fun f s'=>f 25= .sl [a,b] o∧f 26= .v (.int .i64 2)∧((f 27= .v (.int .i64 0)∧MO sA s' 37 [] (f 6))∨(f 27= .v (.int .i64 1)∧MO sA s' 37 us (f 6))∨(f 27= .v (.int .i64 2)∧MO sA s' 37 (us++vs) (f 6))))
   (fun f _=>match f 27 with| .v (.int _ i)=>2 - i.toNat| _=>0) ?_ ?_
  ·simp -dsimp -implicitDefEqProofs (disch:=first|omega|assumption|(simp only[rL,Nat.reduceAdd];try omega)) only[go_sem,simprocAttr,-List.reduceReplicate,↓rW,f0,f9,f10,f11,f3,l2]
   exact .inl Ut
  rintro f sB ⟨f25,f26,hc⟩
  have AR:=ha.full
  have nk:=hb.full
  rcases hc with ⟨f27,hM⟩|⟨f27,hM⟩|⟨f27,hM⟩
  ·have ld:=LN sB hM.1
   generalize GH:f 6=x6 at hM
   simp -dsimp -implicitDefEqProofs (disch:=first|omega|assumption|(simp only[rL,Nat.reduceAdd];try omega)) only[go_sem,simprocAttr,-List.reduceReplicate,↓rW,f25,f26,f27,i0,ld,GH]
   refine lX hM (by omega) (ha.src sB hM.1) AR (by rw[List.length_nil,AR];omega) (by rw[List.length_nil,AR];omega) fun a' s' h'=> ?_
   simp -dsimp -implicitDefEqProofs (disch:=first|omega|assumption|(simp only[rL,Nat.reduceAdd];try omega)) only[go_sem,simprocAttr,-List.reduceReplicate,↓rW,f25,f26,f27,i0,ld]
   exact .inr (.inl h')
  ·have ld:=LO sB hM.1
   generalize GH:f 6=x6 at hM
   simp -dsimp -implicitDefEqProofs (disch:=first|omega|assumption|(simp only[rL,Nat.reduceAdd];try omega)) only[go_sem,simprocAttr,-List.reduceReplicate,↓rW,f25,f26,f27,i1,ld,GH]
   refine lX hM (by omega) (hb.src sB hM.1) nk (by rw[AR,nk];omega) (by rw[AR,nk];omega) fun a' s' h'=> ?_
   simp -dsimp -implicitDefEqProofs (disch:=first|omega|assumption|(simp only[rL,Nat.reduceAdd];try omega)) only[go_sem,simprocAttr,-List.reduceReplicate,↓rW,f25,f26,f27,i1,ld]
   exact .inr (.inr h')
  ·refine sw (c3 @f25 @f26 @f27) ?_
   exact⟨_,Hp.aH,hM⟩
def qI (s s':Hp) (l lM:Nat) (o:Except Int (List Kd)×bW) (r:AV):Prop:=
 match o.1 with
 | .error e=>eC s' l lM o.2∧Ext l lM s s'∧e≠0∧r= .dr [.sl [] .nil,.v (.int .i64 e)]
 | .ok ks=> ∃kv a,cn eK ks kv∧r= .dr [a,.v (.int .i64 0)]∧MS s s' l lM o.2 37 (flat kv) a∧(ks= []→a= .sl [] .nil)
theorem qI.base {s0 s s':Hp}{l lM:Nat}{o:Except Int (List Kd)×bW}{r:AV} (h:qI s s' l lM o r) (hE:Ext l lM s0 s):qI s0 s' l lM o r:=by
 unfold qI at h⊢
 split at h
 ·exact⟨h.1,hE.trans h.2.1,h.2.2⟩
 ·obtain⟨kv,a,h1,h2,h3,h4⟩:=h;exact⟨kv,a,h1,h2,MS.base h3 hE,h4⟩
theorem qI.shape {s s':Hp}{l lM:Nat}{o:Except Int (List Kd)×bW}{r:AV} (h:qI s s' l lM o r): ∃a e,r= .dr [a,.v (.int .i64 e)]:=by
 unfold qI at h
 split at h
 ·exact⟨_,_,h.2.2.2⟩
 ·obtain⟨kv,a,_,h2,_⟩:=h;exact⟨_,_,h2⟩
theorem a8L (s:Hp) (l lM:Nat) (S:bW) (hS:eC s l lM S) (xs:List (List Int)) (av:List AV) (o:Own) (d:Nat) (bq:1≤d) (bg:d≤8) (hA:cn isRow xs av) (hn:xs.length≤100000):
  AC Tryz.prog 67 [.sl av o,.eU 36 [rJ l d] []] s fun r s'=>qI s s' l lM (CA S d xs) r:=by
 refine cR hm adg (by simp) ?_
 have hl:=hA.len
 refine sr @hl ?_
 refine bC (MJ xs.length (by omega) s) ?_
 rintro _ s ⟨rfl,rfl⟩
 refine dD ?_
 have AQ:au.cQ xs.length≤100000:=by unfold au.cQ;omega
 refine bC (Zu xs av o (au.cQ xs.length) s hA hn AQ) ?_
 rintro _ s1 ⟨h1,gs,o1,rfl,hG⟩
 refine dD ?_
 have im:=zX (g:=au.cQ xs.length) (l:=xs)
 refine bC (W9 s1 l lM S (hS.mono h1) _ gs o1 d bq bg hG (fun g hg=>by have:=im.2 g hg;omega) (by rw[im.1];exact AQ)) ?_
 intro r s2 hK
 have LP:qI s s2 l lM (CA S d xs) r:=qI.base (o:=CA S d xs) hK (Ext.of h1)
 obtain⟨a,e,rfl⟩:=LP.shape
 refine dD ?_
 exact⟨_,Hp.aH,LP⟩
theorem Yz (s0 s:Hp) (l lM:Nat) (S:bW) (hS:eC s0 l lM S) (xs:List (List Int)) (av:List AV) (a:AV) (h:MO s0 s 1 (flat av) a) (d:Nat) (bq:1≤d) (bg:d≤8) (hA:cn isRow xs av) (hn:xs.length≤100000):
  AC Tryz.prog 67 [a,.eU 36 [rJ l d] []] s fun r s'=>qI s0 s' l lM (CA S d xs) r:=by
 obtain⟨sV,hv,hs⟩:=MO.Su h hA
 refine AC.Ft (pre:= []) hv ?_
 exact(a8L sV l lM S (hS.mono hs) xs av .any d bq bg hA hn).mono fun r s' hK=>qI.base hK (Ext.of hs)
theorem a8M (s:Hp) (l lM:Nat) (S:bW) (hS:eC s l lM S) (xs:List (Kd)) (av:List AV) (o:Own) (d:Nat) (bq:1≤d) (bg:d≤8) (hA:cn eK xs av) (hn:xs.length≤100000):
  AC Tryz.prog 70 [.sl av o,.eU 62 [rJ l d] []] s fun r s'=>qI s s' l lM (wJ S d xs) r:=by
 refine cR hm adj (by simp) ?_
 have hl:=hA.len
 refine sr @hl ?_
 refine bC (MJ xs.length (by omega) s) ?_
 rintro _ s ⟨rfl,rfl⟩
 refine dD ?_
 have AQ:au.cQ xs.length≤100000:=by unfold au.cQ;omega
 refine bC (Zv xs av o (au.cQ xs.length) s hA hn AQ) ?_
 rintro _ s1 ⟨h1,gs,o1,rfl,hG⟩
 refine dD ?_
 have im:=zX (g:=au.cQ xs.length) (l:=xs)
 refine bC (Wa s1 l lM S (hS.mono h1) _ gs o1 d bq bg hG (fun g hg=>by have:=im.2 g hg;omega) (by rw[im.1];exact AQ)) ?_
 intro r s2 hK
 have LP:qI s s2 l lM (wJ S d xs) r:=qI.base (o:=wJ S d xs) hK (Ext.of h1)
 obtain⟨a,e,rfl⟩:=LP.shape
 refine dD ?_
 exact⟨_,Hp.aH,LP⟩
theorem YA (s0 s:Hp) (l lM:Nat) (S:bW) (hS:eC s0 l lM S) (xs:List (Kd)) (av:List AV) (a:AV) (h:MO s0 s 37 (flat av) a) (d:Nat) (bq:1≤d) (bg:d≤8) (hA:cn eK xs av) (hn:xs.length≤100000):
  AC Tryz.prog 70 [a,.eU 62 [rJ l d] []] s fun r s'=>qI s0 s' l lM (wJ S d xs) r:=by
 obtain⟨sV,hv,hs⟩:=MO.KE h hA
 refine AC.Ft (pre:= []) hv ?_
 exact(a8M sV l lM S (hS.mono hs) xs av .any d bq bg hA hn).mono fun r s' hK=>qI.base hK (Ext.of hs)
theorem Wi: ∀(ks:List Kd) (S:Sy),(ks.foldl Ab S).size=S.size+(ks.map (·.size)).sum
 | [],S=>by simp
 |k::ks,S=>by rw[List.foldl_cons,Wi ks];simp[Ab];omega
theorem Wj: ∀(rs:List (List Int×Bool)) (S:Sy),(rs.foldl wP S).size=S.size
 | [],S=>rfl
 |r::rs,S=>by rw[List.foldl_cons,Wj rs];unfold wP;split<;>rfl
theorem QS (n:gM):(vN n).size=n.rows.length+(n.kids.map (·.size)).sum:=by
 unfold vN;rw[Wi,Wj]
structure FR (d:Nat) (k:Kd) (n:gM):Prop where
 ok:py d n=true
 eq:k=vO n
 size:k.size=n.rows.length+(n.kids.map (·.size)).sum
 kz:k.size≤1048576
theorem Zx {d:Nat}{k:Kd}{n:gM} (h:sS d n=some k):FR d k n:=by
 unfold sS at h
 split at h
 ·rename_i cj
  split at h
  ·cases h
  ·rename_i hs
   obtain rfl:=Option.some.inj h
   exact⟨cj,rfl,QS n,by show(vN n).size≤ _;omega⟩
 ·cases h
theorem HY {S:bW}{d:Nat}{k:Kd}{n:gM} (h:vf S d k=some n):FR d k n∧(n.kind=2∨n.kind=3):=by
 unfold vf at h
 split at h
 ·cases h
 ·rename_i m hm
  split at h
  ·rename_i hk
   obtain rfl:=Option.some.inj h
   refine⟨?_,hk⟩
   unfold Am at hm
   split at hm
   ·cases hm
   ·split at hm
    ·cases hm
    ·split at hm
     ·rename_i hs;obtain rfl:=Option.some.inj hm;exact Zx hs
     ·cases hm
  ·cases h
theorem FR.leaf {d:Nat}{k:Kd}{n:gM} (h:FR d k n) (h2:n.kind=2):1≤n.rows.length∧n.rows.length≤4∧n.kids= []∧(∀r∈n.rows,r.1.length=d∧r.2=true):=by
 have:=h.ok
 unfold py at this
 have n1: ¬n.kind=1:=by rw[h2];decide
 rw[if_neg n1,if_pos h2]at this
 simp only[Bool.and_eq_true,List.all_eq_true,decide_eq_true_eq]at this
 obtain⟨⟨q1,_⟩,⟨⟨q2,q3⟩,q4⟩,q5⟩:=this
 exact⟨q2,q3,List.eq_nil_of_length_eq_zero q4,fun r hr=>⟨q1 r hr,q5 r hr⟩⟩
theorem FR.inner {d:Nat}{k:Kd}{n:gM} (h:FR d k n) (h3:n.kind=3):n.rows= []∧2≤n.kids.length∧n.kids.length≤4∧(∀c∈n.kids,c.key.length=d∧c≠cO∧xR d c=true∧1≤c.size∧c.size<k.size):=by
 have cj:=h.ok
 unfold py at cj
 have n1: ¬n.kind=1:=by rw[h3];decide
 have n2: ¬n.kind=2:=by rw[h3];decide
 rw[if_neg n1,if_neg n2,if_pos h3]at cj
 simp only[Bool.and_eq_true,List.all_eq_true,decide_eq_true_eq,Bool.not_eq_true',decide_eq_false_iff_not]at cj
 obtain⟨⟨_,q1⟩,⟨⟨q2,q3⟩,q4⟩,q5⟩:=cj
 have hr:n.rows= []:=List.eq_nil_of_length_eq_zero q2
 have one: ∀c∈n.kids,1≤c.size:=fun c hc=>by
  have h9:=q1 c hc
  unfold xR at h9
  simp only[(q5 c hc).2,decide_false,Bool.false_or,Bool.and_eq_true,Bool.not_eq_true',Bool.or_eq_false_iff,decide_eq_false_iff_not]at h9
  omega
 refine⟨hr,q3,q4,fun c hc=>⟨(q5 c hc).1,(q5 c hc).2,q1 c hc,one c hc,?_⟩⟩
 have hz:=h.size
 rw[hr]at hz
 simp only[List.length_nil]at hz
 have Zy: ∀(l:List Kd),(∀c∈l,1≤c.size)→(l.length:Int)≤(l.map (·.size)).sum:=by
  intro l
  induction l with
  |nil=>intro _;simp
  |cons a l ih=>intro h;have h1:=h a (by simp);have h2:=ih fun c hc=>h c (by simp[hc]);simp only[List.map_cons,List.sum_cons,List.length_cons];omega
 obtain⟨A,B,tj⟩:=List.append_of_mem hc
 rw[tj]at hz q3 one
 have s1:=Zy A fun c hc=>one c (by simp[hc])
 have s2:=Zy B fun c hc=>one c (by simp[hc])
 simp only[List.map_append,List.map_cons,List.sum_append,List.sum_cons,List.length_append,List.length_cons]at hz q3
 omega
def qc (d:Nat) (p:List Int):Nat→bW→Kd→Except Int (List Kd)×bW
  |0,S,_=>(.error 21,S)
  |fu+1,S,k=>match vf S d k with
    |none=>(.error 21,S)
    |some n=>
      if n.kind=2 then
        (if xU (n.rows.map Prod.fst) p=true then(.error 8,S)
         else CA S d ((n.rows.map Prod.fst).take (oV (n.rows.map Prod.fst) p)++p::(n.rows.map Prod.fst).drop (oV (n.rows.map Prod.fst) p)))
      else match n.kids[uw p n]? with
        |none=>(.error 21,S)
        |some c=>match qc d p fu S c with
          |(.error e,S')=>(.error e,S')
          |(.ok l,S')=>wJ S' d (n.kids.take (uw p n)++(l++n.kids.drop (uw p n+1)))
theorem Rz (p:List Int): ∀(ks:List (List Int)),ks≠ []→au.jK da p ks<ks.length
 | [],h=>absurd rfl h
 | [_],_=>by simp[au.jK]
 | _::b::r,_=>by
  have:=Rz p (b::r) (by simp)
  simp only[au.jK]
  split
  ·simp
  ·simp only[List.length_cons]at this⊢;omega
theorem Rc (d:Nat) (p:List Int): ∀(fu:Nat) (S S':bW) (k:Kd) (l:List Kd),qc d p fu S k=(.ok l,S')→1≤l.length∧l.length≤3
 |0,S,S',k,l,h=>by rw[qc]at h;cases (Prod.mk.inj h).1
 |fu+1,S,S',k,l,h=>by
  rw[qc]at h
  split at h
  ·cases (Prod.mk.inj h).1
  rename_i n hg
  obtain⟨hs,hk⟩:=HY hg
  split at h
  ·rename_i h2
   obtain⟨q1,q2,_⟩:=hs.leaf h2
   split at h
   ·cases (Prod.mk.inj h).1
   ·have:=Fk h
    rw[this]
    simp only[List.length_nil,Nat.zero_add,au.chunks,(zX).1,au.cQ,List.length_append,List.length_cons,List.length_take,List.length_drop,List.length_map]
    omega
  ·rename_i h2
   obtain⟨_,q1,q2,_⟩:=hs.inner (hk.resolve_left h2)
   split at h
   ·cases (Prod.mk.inj h).1
   ·rename_i c hc
    split at h
    ·cases (Prod.mk.inj h).1
    ·rename_i l' S2 aif
     have ih:=Rc d p fu S S2 c l' aif
     have:=Fk h
     rw[this]
     simp only[List.length_nil,Nat.zero_add,au.chunks,(zX).1,au.cQ,List.length_append,List.length_take,List.length_drop]
     omega
theorem a50 (l lM:Nat) (p:List Int) (op:Own) (d:Nat) (bq:1≤d) (bg:d≤8): ∀(fu:Nat) (s:Hp) (S:bW) (k:Kd) (o1 o2 o3:Own),eC s l lM S→k.sum.length=32→k.Sh→0<fu→k.size<fu→
  AC Tryz.prog 39 [rJ l d,.agg (aS k o1 o2 o3),.sl (bA p) op] s fun r s'=>qI s s' l lM (qc d p fu S k) r:=by
 intro fu
 induction fu with
 |zero=>
  intro s S k o1 o2 o3 hS gQ mj h0 OT
  omega
 |succ fu ih=>
 intro s S k o1 o2 o3 hS gQ mj Dk OT
 refine cR hm acR (by simp) ?_
 have e0: ∀cs,(AV.agg cs).cells=cs:=fun _=>rfl
 have p3: ∀a b c x y z:AV,putAt [a,b,c] 0 [x,y,z]= [x,y,z]:=fun _ _ _ _ _ _=>rfl
 have em: ∀a b c,cK true 3 [a,b,c]= .agg [a,b,c]:=fun _ _ _=>rfl
 have kC: ∀a b,cK true 2 [a,b]= .agg [a,b]:=fun _ _=>rfl
 have t2: ∀a b:AV,List.take 2 [a,b]= [a,b]:=fun _ _=>rfl
 have t3: ∀a b c:AV,List.take 3 [a,b,c]= [a,b,c]:=fun _ _ _=>rfl
 have l3: ∀a b c:AV,[a,b,c].length=3:=fun _ _ _=>rfl
 have m0: ∀a b c:AV,cK false 1 [a,b,c]=a:=fun _ _ _=>rfl
 have m2: ∀a b c:AV,cK false 1 ([a,b,c].drop 2)=c:=fun _ _ _=>rfl
 have hK:=eA (o1:=o1) (o2:=o2) (o3:=o3) gQ
 have fL:=hK.len
 refine sr @e0 ?_
 refine cP fun x3 n3=> ?_
 refine sr (c2 @e0 @fL) ?_
 refine cP fun x4 n4=> ?_
 have d34:x3≠x4:=by rintro rfl;rw[Hp.bt]at n4;cases n4
 have lQ:s x4=none:=by rw[Hp.aX _ _ (Ne.symm d34)]at n4;exact n4
 obtain⟨B,hB⟩: ∃B:Hp,B=(s.set x3 (.cells [.ptr l 0,.v (.int .i64 (d:Int))])).set x4 (.cells (aS k o1 o2 o3)):=⟨_,rfl⟩
 have dm:s.sub B:=by rw[hB];exact Hp.bT (Hp.bT Hp.aH n3) lQ
 have c4:B x4=some (.cells (aS k o1 o2 o3)):=by rw[hB,Hp.bt]
 have c3:B x3=some (.cells [.ptr l 0,.v (.int .i64 (d:Int))]):=by rw[hB,Hp.aX _ _ d34,Hp.bt]
 refine sr (c8 @e0 @fL @Hp.aX @d34 @Hp.bt hK.t37 @t2 @kC) ?_
 rw[←hB]
 refine bC (MW B l lM S (hS.mono dm) k o1 o2 o3 gQ mj d bq bg) ?_
 rintro r s1 ⟨h1,hr⟩
 obtain⟨Q,hQ⟩: ∃Q,Q=qc d p (fu+1) S k:=⟨_,rfl⟩
 rw[←hQ]
 rw[qc]at hQ
 cases hg:vf S d k with
 |none=>
  rw[hg]at hr hQ
  obtain rfl:=hr
  simp only at hQ
  subst hQ
  simp -dsimp -implicitDefEqProofs (disch:=first|omega|assumption|(simp only[rL,Nat.reduceAdd];try omega)) only[go_sem,simprocAttr,-List.reduceReplicate,e0,p3,l3]
  refine cP fun x8 n8=> ?_
  refine sr (c5 @e0 @p3 @l3 @em @Hp.set_set) ?_
  have AS:=Hp.cy (Hp.cy dm h1) (Hp.bT (o:= .cells [.v (.int .u8 0),.sl [] .nil,.sl [] .nil]) Hp.aH n8)
  exact⟨_,Hp.aH,hS.mono AS,Ext.of AS,by decide,rfl⟩
 |some n=>
  rw[hg]at hr hQ
  simp only at hQ
  obtain⟨x,y,rfl,ss⟩:=hr
  obtain⟨Ao,FJ⟩:=HY hg
  simp -dsimp -implicitDefEqProofs (disch:=first|omega|assumption|(simp only[rL,Nat.reduceAdd];try omega)) only[go_sem,simprocAttr,-List.reduceReplicate,e0,p3,l3]
  refine cP fun x8 n8=> ?_
  obtain⟨s2,pM⟩: ∃s2:Hp,s2=s1.set x8 (.cells [.v (.int .u8 (n.kind.toNat:Int)),x,y]):=⟨_,rfl⟩
  have iR:s1.sub s2:=by rw[pM];exact Hp.bT Hp.aH n8
  have c8:s2 x8=some (.cells [.v (.int .u8 (n.kind.toNat:Int)),x,y]):=by rw[pM,Hp.bt]
  have b2:=Bv n.kind 2 (by omega)
  simp only[Int.cast_ofNat_Int]at b2
  rw[show UInt8.ofNat 2=2 from rfl]at b2
  refine sr (c7 @e0 @p3 @l3 @em @Hp.set_set @Hp.bt @m0) ?_
  rw[Hp.set_set,←pM]
  obtain⟨sM,av,kv,mx,my,ax,ak,lx,ly⟩:=ss
  have aih:nR s1 n x y av kv:=⟨ax,ak,(Sl.mo mx (by omega) rfl (ax.cells fun _ _=>mA.cells)).mono my.1,Sl.mo my (by omega) rfl (ak.cells fun _ _=>eK.cells),lx,ly⟩
  have nc:=aih.mono iR
  have qY:=(hS.mono (Hp.cy dm h1)).lY n8
  have zu:=hS.lY n3
  have ux:=Hp.cy dm (Hp.cy h1 iR)
  have g3:s2 x3=some (.cells [.ptr l 0,.v (.int .i64 (d:Int))]):=iR _ _ (h1 _ _ c3)
  have nU:=hS.mono ux
  by_cases k2:n.kind=2
  ·rw[if_pos k2]at hQ
   have i2:((n.kind.toNat:Int)=2)=True:=by rw[k2];simp
   refine sr (c7 @e0 @p3 @l3 @em (Hp.aV c8) @i2 @t3) ?_
   refine bC (QP n av kv x y s2 nc) ?_
   rintro a s3 ⟨rv,hA,hM⟩
   have qi:=Sl.mo hM (by omega) rfl (hA.cells fun _ _=>isRow.cells)
   refine sr @e0 ?_
   have Uu:(n.rows.map Prod.fst).length=n.rows.length:=List.length_map _
   obtain⟨q1,q2,_,_⟩:=Ao.leaf k2
   generalize hRs:n.rows.map Prod.fst=rs at*
   refine bC (Zt rs rv a p op s3 hA qi (by omega)) ?_
   rintro _ s3 ⟨rfl,hi,rfl⟩
   have g38:=hM.1 _ _ c8
   have Uv:=hM.1 _ _ g3
   generalize oV rs p=i at*
   cases dP:xU rs p with
   |true=>
    rw[if_pos dP]at hQ
    subst hQ
    refine sr @e0 ?_
    exact⟨_,Hp.aH,nU.mono hM.1,Ext.of (Hp.cy ux hM.1),by decide,rfl⟩
   |false=>
    rw[if_neg (by simp[dP])]at hQ
    have O3:Ic 1 Hp.emp [AV.sl (bA p) op] (jX (fun _ _=>True) ())=True:=eq_true (DV (by simp[dS,AV.cells]) (by simp) fun _ _=>trivial)
    refine sr (c9 @e0 (Hp.aV g38) (Hp.aV Uv) @em @kC @t2 @t3 @O3 @HE) ?_
    refine bC (QP n av kv x y s3 (nc.mono hM.1)) ?_
    rintro a4 s4 ⟨LQ,vq,qZ⟩
    have g43:=qZ.1 _ _ Uv
    refine sr (c6 @e0 (Hp.aV g43) @em @kC @t2 @t3) ?_
    rw[hRs]at vq
    refine DV (by simp[dS,AV.cells]) (by simp) fun g5 hg5=> ?_
    have ef:flat [AV.sl (bA p) op]= [AV.sl (bA p) op]:=rfl
    rw[ef,List.length_singleton]
    have qH:=MO.new (ob:= .cells [AV.sl (bA p) op]) qZ hg5
    have aii:=Hp.iJ qZ.1 hg5
    rw[vB vq]at qH
    obtain⟨B5,C5⟩: ∃B5:Hp,B5=s3.set g5 (.cells [AV.sl (bA p) op]):=⟨_,rfl⟩
    have h35:s3.sub B5:=by rw[C5];exact Hp.bT Hp.aH aii
    have k5:B5 g5=some (.cells [AV.sl (bA p) op]):=by rw[C5,Hp.bt]
    rw[←C5]at qH
    have J6:=vq.len
    have k3:=h35 _ _ Uv
    have we:=qH.1 _ _ k3
    refine sr (c6 @e0 (Hp.aV we) @em @kC @t2 @t3) ?_
    refine bC (abv B5 _ LQ a4 qH (by intro h;rw[h]at J6;simp at J6;omega) i (by omega) (by omega) _ g5 k5) ?_
    intro a6 s6 iC
    have k36:=iC.1 _ _ k3
    have Dw:cn isRow (rs.take i++p::rs.drop i) (LQ.take i++AV.sl (bA p) op::LQ.drop i):=(vq.take i).append ⟨⟨op,rfl⟩,vq.drop i⟩
    rw[←vB Dw]at iC
    refine sr (c6 @e0 (Hp.aV k36) @em @kC @t2 @t3) ?_
    have jM:=Hp.cy ux (Hp.cy hM.1 h35)
    refine bC (Yz B5 s6 l lM S (hS.mono jM) _ _ a6 iC d bq bg Dw (by simp;omega)) ?_
    intro r s7 ym
    rw[←hQ]at ym
    obtain⟨a7,e7,rfl⟩:=ym.shape
    refine sr @e0 ?_
    exact⟨_,Hp.aH,qI.base ym (Ext.of jM)⟩
  ·have k3:=FJ.resolve_left k2
   rw[if_neg k2]at hQ
   have i2: ¬(n.kind.toNat:Int)=2:=fun h=>k2 (by have:=b2;simp only[h,decide_true]at this;simpa using this.symm)
   refine sr (c7 @e0 @p3 @l3 @em (Hp.aV c8) @i2 @t3) ?_
   refine bC (Yw n av kv x y p op s2 nc) ?_
   rintro _ s2 ⟨rfl,rfl⟩
   obtain⟨q0,q1,q2,q3⟩:=Ao.inner k3
   have hw:uw p n<n.kids.length:=by have:=Rz p (n.kids.map (·.key)) (by intro h;simp at h;rw[h]at q1;simp at q1);rwa[List.length_map]at this
   generalize uw p n=i at*
   have hc:n.kids[i]? =some n.kids[i]:=List.getElem?_eq_getElem hw
   have qx:n.kids[i]'hw∈n.kids:=List.getElem_mem _
   rw[hc]at hQ
   simp only at hQ
   generalize n.kids[i]'hw=c at hc qx hQ
   obtain⟨ca,iB,C6,LR,w1,w2,w3,rfl⟩:=nc.kids.get hc
   obtain⟨_,_,_,aij,csz⟩:=q3 c qx
   obtain⟨B2,xl⟩: ∃B2:Hp,B2=sM.set x8 (.cells [.v (.int .u8 (n.kind.toNat:Int)),x,y]):=⟨_,rfl⟩
   have OY:=MO.new (ob:= .cells [.v (.int .u8 (n.kind.toNat:Int)),x,y]) my n8
   rw[←pM,←xl]at OY
   have n8M:=Hp.iJ my.1 n8
   have hsM:=Hp.cy dm mx.1
   have a1e:s.sub B2:=by rw[xl];exact Hp.bT hsM (Hp.iJ hsM n8M)
   have k8:B2 x8=some (.cells [.v (.int .u8 (n.kind.toNat:Int)),x,y]):=by rw[xl,Hp.bt]
   have we:B2 x3=some (.cells [.ptr l 0,.v (.int .i64 (d:Int))]):=by
    have:x3≠x8:=by rintro rfl;rw[h1 _ _ c3]at n8;cases n8
    rw[xl,Hp.aX _ _ this];exact mx.1 _ _ c3
   have hMy:MS B2 s2 l lM S 37 (flat kv) y:=MS.of OY (hS.mono a1e) Ext.refl
   obtain⟨p9,e9,gl⟩:=nc.sy.get i _ iB
   have hC:=eA (o1:=w1) (o2:=w2) (o3:=w3) C6
   have ek:(AV.agg (aS c w1 w2 w3)).cells=aS c w1 w2 w3:=rfl
   rw[ek]at gl
   have gj:=gl.ld s2 Hp.aH true 37 (by omega) (by rw[hC.len];omega)
   rw[show cK true 37 (aS c w1 w2 w3)= .agg (aS c w1 w2 w3) by rw[cK,if_pos rfl,hC.t37]]at gj
   refine sr (gP @e0 (Hp.aV c8) (Hp.aV g3) @em @kC @t2 @t3 @m2 @e9 @gj) ?_
   refine bC (ih s2 S c w1 w2 w3 nU C6 LR (by omega) (by omega)) ?_
   intro r s3 Uw
   have hlen:=fun S' l' h=>Rc d p fu S S' c l' h
   generalize qc d p fu S c=pr at hQ Uw hlen
   obtain⟨res,S'⟩:=pr
   cases res with
   |error e=>
    obtain⟨Dx,LS,he,rfl⟩:=Uw
    simp only at hQ Dx
    subst hQ
    refine sr (c2 @e0 @he) ?_
    exact⟨_,Hp.aH,Dx,(Ext.of ux).trans LS,he,rfl⟩
   |ok l'=>
    obtain⟨vp,a2,nF,rfl,⟨B3,uH,Ap,Er⟩,_⟩:=Uw
    obtain⟨aoS,aoT⟩:=hlen S' l' rfl
    simp only at hQ Ap
    have mS:=nF.len
    have AT:(flat vp).length=l'.length*37:=by rw[ny (nF.cells fun _ _=>eK.cells),mS]
    have th:(flat kv).length=n.kids.length*37:=by rw[ny (ak.cells fun _ _=>eK.cells),ak.len]
    obtain⟨lb,nb,CY,C7,rfl,r2,r3,r4,r5,r6,r7,r8⟩:=MO.mb uH (by intro h;rw[h]at AT;simp at AT;omega)
    have aik:Ext l lM s2 s3:=Er.trans (Ext.of uH.1)
    have Dx:=Ap.mono uH.1
    obtain⟨B4,qZ,FT,FU⟩:=hMy.step aik Dx
    have T0:=Ap.lY r2
    have a1f:s2 lb=none:=by
     cases hq:s2 lb with
     |none=>rfl
     |some o=>have:=Er _ _ T0.1 T0.2 hq;rw[r2]at this;cases this
    have bI: ∀b n' eD,y= .mb b n' eD 37→b≠lb:=by
     rintro b n' eD rfl rfl
     rcases OY.2 with ⟨_,h|h⟩|⟨l9,_,_,_,h,_,h9,_⟩
     ·cases h
     ·cases h
     ·simp only[AV.mb.injEq]at h;obtain⟨rfl,_⟩:=h;rw[a1f]at h9;cases h9
    obtain⟨B5,C5⟩: ∃B5:Hp,B5=B4.set lb (.cells C7):=⟨_,rfl⟩
    have qH:=MO.add qZ r3 bI
    rw[←C5]at qH
    have j5:B5 lb=some (.cells C7):=by rw[C5,Hp.bt]
    have LU:MO (fun _=>none) B5 37 (flat vp) (.mb lb nb CY 37):=⟨(fun _ _ h=>by cases h),.inr ⟨lb,nb,CY,C7,rfl,rfl,j5,r4,r5,r6,r7,r8⟩⟩
    have FV:eC B5 l lM S':=by rw[C5];exact FT.set T0
    have ag1:B2 lb=none:=Hp.iJ OY.1 a1f
    have FX:Ext l lM B2 B5:=by rw[C5];exact FU.set ag1
    have j8:=FX _ _ qY.1 qY.2 k8
    have j3:=FX _ _ zu.1 zu.2 we
    have j8':=qH.1 _ _ j8
    have j3':=qH.1 _ _ j3
    simp -dsimp -implicitDefEqProofs (disch:=first|omega|assumption|(simp only[rL,Nat.reduceAdd];try omega)) only[go_sem,simprocAttr,-List.reduceReplicate,e0,Hp.aV j8',Hp.aV j3',em,kC,t2,t3,m2]
    refine bC (Ry _ B5 s3 (flat kv) (flat vp) y _ n.kids.length l'.length i (i+1) _ rfl qH th LU AT (by omega) (by omega) (by omega) (by omega) (by omega)) ?_
    intro a6 s6 iC
    have j36:=iC.1 _ _ j3
    have ke:(flat kv).take (i*37)++(flat vp++(flat kv).drop ((i+1)*37))=flat (kv.take i++(vp++kv.drop (i+1))):=by
     rw[(sK i (ak.cells fun _ _=>eK.cells)).2,(sK (i+1) (ak.cells fun _ _=>eK.cells)).1];simp[flat]
    rw[ke]at iC
    have Dw:cn eK (n.kids.take i++(l'++n.kids.drop (i+1))) (kv.take i++(vp++kv.drop (i+1))):=(ak.take i).append (nF.append (ak.drop (i+1)))
    refine sr (c6 @e0 (Hp.aV j36) @em @kC @t2 @t3) ?_
    refine bC (YA B5 s6 l lM S' FV _ _ a6 iC d bq bg Dw (by simp;omega)) ?_
    intro r s7 ym
    rw[←hQ]at ym
    obtain⟨a7,e7,rfl⟩:=ym.shape
    refine sr @e0 ?_
    exact⟨_,Hp.aH,qI.base ym ((Ext.of a1e).trans FX)⟩
def zi (d:Nat) (p:List Int) (S:bW) (k:Kd):Except Int Kd×bW:=
 if k=cO then sU S d (ig [p])
 else match qc d p (k.size.toNat+1) S k with
  |(.error e,S')=>(.error e,S')
  |(.ok ks,S')=>rp d (ks.length+1) S' ks
theorem a4p (s:Hp) (l lM:Nat) (S:bW) (hS:eC s l lM S) (k:Kd) (o1 o2 o3:Own) (gQ:k.sum.length=32) (mj:k.Sh) (p:List Int) (op:Own) (d:Nat) (bq:1≤d) (bg:d≤8) (hp:p.length=d):
  AC Tryz.prog 17 [.ptr l 0,.agg (aS k o1 o2 o3),.sl (bA p) op,.v (.int .i64 (d:Int))] s fun r s'=>eC s' l lM (zi d p S k).2∧Ext l lM s s'∧zE (zi d p S k).1 r:=by
 refine cR hm acw (by simp) ?_
 have e0: ∀cs,(AV.agg cs).cells=cs:=fun _=>rfl
 have kC: ∀a b,cK true 2 [a,b]= .agg [a,b]:=fun _ _=>rfl
 have t2: ∀a b:AV,List.take 2 [a,b]= [a,b]:=fun _ _=>rfl
 have p2: ∀a b x y:AV,putAt [a,b] 0 [x,y]= [x,y]:=fun _ _ _ _=>rfl
 have l2: ∀a b:AV,[a,b].length=2:=fun _ _=>rfl
 have u0: ∀a b x:AV,putAt [a,b] 0 [x]= [x,b]:=fun _ _ _=>rfl
 have u1: ∀a b x:AV,putAt [a,b] 1 [x]= [a,x]:=fun _ _ _=>rfl
 have hK:=eA (o1:=o1) (o2:=o2) (o3:=o3) gQ
 have fL:=hK.len
 have zl:=(eA (o1:= .nil) (o2:= .nil) (o3:= .nil) eY).len
 refine sr (c2 @e0 @fL) ?_
 refine cP fun x5 n5=> ?_
 refine sr (c3 @e0 @fL @fl) ?_
 refine cP fun x8 n8=> ?_
 have d58:x5≠x8:=by rintro rfl;rw[Hp.bt]at n8;cases n8
 have nV:s x8=none:=by rw[Hp.aX _ _ (Ne.symm d58)]at n8;exact n8
 obtain⟨B,hB⟩: ∃B:Hp,B=(s.set x5 (.cells (aS k o1 o2 o3))).set x8 (.cells (aS cO .nil .nil .nil)):=⟨_,rfl⟩
 have dm:s.sub B:=by rw[hB];exact Hp.bT (Hp.bT Hp.aH n5) nV
 have c8:B x8=some (.cells (aS cO .nil .nil .nil)):=by rw[hB,Hp.bt]
 have c5:B x5=some (.cells (aS k o1 o2 o3)):=by rw[hB,Hp.aX _ _ d58,Hp.bt]
 refine sr (c3 @e0 @fL @fl) ?_
 rw[←hB]
 have qY:=hS.lY nV
 refine ik Hp.aH (by simp[dS,AV.cells]) fun og sg hg=> ?_
 have mg:cn isRow [p] [AV.sl (bA p) op]:=⟨⟨op,rfl⟩,trivial⟩
 refine sr (c3 @e0 @fL @fl) ?_
 refine bC (Qv d [p] _ _ sg mg (Sl.sl (mg.cells fun _ _=>isRow.cells)) (by simp)) ?_
 rintro _ sg ⟨rfl,rfl⟩
 have hr:E5 (d:Int) [p]=true:=by
  unfold E5
  simp only[List.all_cons,List.all_nil,Bool.and_true,Bool.and_eq_true,decide_eq_true_eq];omega
 rw[hr]
 have tT:=hg.sub
 have k8:=tT _ _ c8
 have k5:=tT _ _ c5
 refine sr (c7 @e0 @Bool.not_true @u0 @u1 @l2 @p2 @fl) ?_
 refine cP fun nH iL=> ?_
 have Ux:x5≠nH:=by rintro rfl;rw[k5]at iL;cases iL
 have NR:=Hp.iJ (Hp.cy dm tT) iL
 obtain⟨C,hC⟩: ∃C:Hp,C=sg.set nH (.cells [.ptr l 0,.v (.int .i64 (d:Int))]):=⟨_,rfl⟩
 have GI:sg.sub C:=by rw[hC];exact Hp.bT Hp.aH iL
 have zG:=Hp.cy dm (Hp.cy tT GI)
 have q5:=GI _ _ k5
 have q8:=GI _ _ k8
 have EI:C nH=some (.cells [.ptr l 0,.v (.int .i64 (d:Int))]):=by rw[hC,Hp.bt]
 have r5: ∀ob,(sg.set nH ob).read x5=some (aS k o1 o2 o3):=fun ob=>Hp.aV (by rw[Hp.aX _ _ Ux];exact k5)
 refine sr (c7 @e0 @p2 @l2 @Hp.set_set @r5 hK.t37 @fL) ?_
 rw[←hC]
 refine bC (JO k o1 o2 o3 C gQ mj) ?_
 rintro _ C ⟨rfl,rfl⟩
 have OZ:=hS.mono zG
 have zt:=(eA (o1:= .nil) (o2:= .nil) (o3:= .nil) eY).t37
 have uF:putAt (aS cO .nil .nil .nil) 0 (aS cO .nil .nil .nil)=aS cO .nil .nil .nil:=jV eY eY
 have fin: ∀(S':bW) (s6:Hp) (res:Except Int Kd) (r:AV),eC s6 l lM S'→Ext l lM C s6→zE res r→ ∃k' w1 w2 w3 e,k'.sum.length=32∧r= .dr [.agg (aS k' w1 w2 w3),.v (.int .i64 e)]∧s6 x8=some (.cells (aS cO .nil .nil .nil))∧eC (s6.set x8 (.cells (aS k' w1 w2 w3))) l lM S'∧Ext l lM s (s6.set x8 (.cells (aS k' w1 w2 w3))):=by
  intro S' s6 res r h1 h2 h3
  obtain⟨k',w1,w2,w3,e,hk,rfl⟩:=h3.shape
  exact⟨k',w1,w2,w3,e,hk,rfl,h2 _ _ qY.1 qY.2 q8,h1.set qY,((Ext.of zG).trans h2).set nV⟩
 unfold zi
 by_cases hz:k=cO
 ·rw[if_pos hz]
  simp -dsimp -implicitDefEqProofs (disch:=first|omega|assumption|(simp only[rL,Nat.reduceAdd];try omega)) only[go_sem,simprocAttr,-List.reduceReplicate,e0,hz,Hp.aV EI,kC,t2]
  refine ik Hp.aH (by simp[dS,AV.cells]) fun oh sh hh=> ?_
  refine sr @e0 ?_
  refine bC (QO sh l lM S (OZ.mono hh.sub) [p] _ _ d bq bg mg (Sl.sl (mg.cells fun _ _=>isRow.cells)) (by simp)) ?_
  rintro r s6 ⟨kJ,mT,hR⟩
  obtain⟨k',w1,w2,w3,e,hk,rfl,j8,jS,jE⟩:=fin _ s6 _ r kJ ((Ext.of hh.sub).trans mT) hR
  have hJ:=eA (o1:=w1) (o2:=w2) (o3:=w3) hk
  have iM:=hJ.len
  have pz:putAt (aS cO .nil .nil .nil) 0 (aS k' w1 w2 w3)=aS k' w1 w2 w3:=jV eY hk
  refine sr (c6 @e0 (Hp.dG j8) @pz @iM @zl hJ.t37) ?_
  exact⟨_,Hp.aH,jS,jE,hR⟩
 ·rw[if_neg hz]
  simp -dsimp -implicitDefEqProofs (disch:=first|omega|assumption|(simp only[rL,Nat.reduceAdd];try omega)) only[go_sem,simprocAttr,-List.reduceReplicate,e0,hz,Hp.aV EI,Hp.aV q5,kC,t2,hK.t37,fL]
  refine bC (a50 l lM p op d bq bg (k.size.toNat+1) C S k o1 o2 o3 OZ gQ mj (by omega) (by omega)) ?_
  intro r s6 Uy
  have hlen:=fun S' l' h=>Rc d p (k.size.toNat+1) S S' k l' h
  generalize qc d p (k.size.toNat+1) S k=pr at Uy hlen
  obtain⟨res,S'⟩:=pr
  cases res with
  |error e=>
   obtain⟨kJ,mT,he,rfl⟩:=Uy
   have j8:=mT _ _ qY.1 qY.2 q8
   refine sr (c7 @e0 @he @fl (Hp.dG j8) @uF @zl @zt) ?_
   exact⟨_,Hp.aH,kJ.set qY,((Ext.of zG).trans mT).set nV,he,rfl⟩
  |ok ks=>
   obtain⟨kv,a,hA,rfl,hM,_⟩:=Uy
   obtain⟨_,J4⟩:=hlen S' ks rfl
   have tS:=hM.ext _ _ (hS.lY NR).1 (hS.lY NR).2 EI
   refine sr (c4 @e0 (Hp.aV tS) @kC @t2) ?_
   obtain⟨sV,hv,hSV,hEV⟩:=hM.KE hA
   refine bC (AC.Ft (pre:= [_]) hv (XY sV l lM S' hSV ks kv .any d bq bg hA (by omega))) ?_
   rintro r s7 ⟨mD,nG,hR⟩
   obtain⟨k',w1,w2,w3,e,hk,rfl,j8,jS,jE⟩:=fin _ s7 _ r mD (hEV.trans nG) hR
   have hJ:=eA (o1:=w1) (o2:=w2) (o3:=w3) hk
   have iM:=hJ.len
   have pz:putAt (aS cO .nil .nil .nil) 0 (aS k' w1 w2 w3)=aS k' w1 w2 w3:=jV eY hk
   refine sr (c6 @e0 (Hp.dG j8) @pz @iM @zl hJ.t37) ?_
   exact⟨_,Hp.aH,jS,jE,hR⟩
end Go.Proofs.YtonldhgdjjfahaaGreat
namespace Go.Av
open Go
theorem MO.emp {B s s':Hp}{k:Nat}{us:List AV}{a:AV} (h:MO B s k us a) (hs: ∀l n cap,a= .mb l n cap k→s' l=s l):MO (fun _=>none) s' k us a:=by
 refine⟨(fun _ _ h=>by cases h),?_⟩
 rcases h.2 with h2|⟨l,n,cap,cs,rfl,q2,q3,q4⟩
 ·exact .inl h2
 ·exact .inr ⟨l,n,cap,cs,rfl,rfl,by rw[hs _ _ _ rfl];exact q3,q4⟩
theorem MO.put {B s:Hp}{k l n cap i:Nat}{kv:List AV}{a b:AV} (h:MO B s k (flat kv) (.mb l n cap k)) (hk:0<k) (hl:dS k kv) (hi:kv[i]? =some b) (ha:a.cells.length=k):
  ∃cs,s l=some (.cells cs)∧i*k+k≤cs.length∧n=kv.length∧MO B (s.set l (.cells (putAt cs (i*k) a.cells))) k (flat (kv.set i a)) (.mb l n cap k):=by
 obtain⟨h1,h2⟩:=h
 rcases h2 with ⟨_,h2|h2⟩|⟨l',n',eD,cs,q1,q2,q3,q4,q5,q6,q7,q8⟩
 ·cases h2
 ·cases h2
 simp only[AV.mb.injEq,true_and,and_true]at q1
 obtain⟨rfl,rfl,rfl⟩:=q1
 have IT:=(List.getElem?_eq_some_iff.1 hi).1
 have ke:=ny hl
 have hn:n=kv.length:=Nat.eq_of_mul_eq_mul_right hk (by rw[←q6,ke])
 subst hn
 have hle:i*k+k≤kv.length*k:=by rw[←Nat.succ_mul];exact Nat.mul_le_mul_right _ IT
 have ap5:kv.length*k≤cap*k:=Nat.mul_le_mul_right _ q7
 refine⟨cs,q3,by omega,rfl,Hp.bT h1 q2,.inr ⟨l,kv.length,cap,_,rfl,q2,Hp.bt _ _ _,by rw[rS _ _ _ (by omega)];exact q4,?_,?_,q7,q8⟩⟩
 ·have e:kv.set i a=kv.take i++a::kv.drop (i+1):=by rw[List.set_eq_take_append_cons_drop,if_pos IT]
  have e2:flat (kv.take i++a::kv.drop (i+1))=(flat kv).take (i*k)++a.cells++(flat kv).drop ((i+1)*k):=by
   rw[(sK i hl).2,(sK (i+1) hl).1];simp[flat]
  rw[e,e2,putAt,ha,←q5]
  have e3:(cs.take (i*k)++a.cells).length=i*k+k:=by rw[List.length_append,List.length_take,ha];omega
  rw[List.take_append,e3,List.take_of_length_le (by omega),List.take_take,Nat.min_eq_left (by omega),List.drop_take]
  congr 1
  rw[Nat.succ_mul]
 ·have mS:dS k (kv.set i a):=fun e he=>by
   rcases List.mem_or_eq_of_mem_set he with h|rfl
   ·exact hl e h
   ·exact ha
  rw[ny mS,List.length_set]
end Go.Av
namespace Go.Proofs.YtonldhgdjjfahaaGreat
open Go Go.Av
structure vr where
 leaf:Bool
 rows:List (List Int)
 kids:List Kd
structure vI (s:Hp) (x:vr) (ax ay:AV) (rv kv:List AV):Prop where
 r:cn isRow x.rows rv
 k:cn eK x.kids kv
 sr:Sl s 1 ax rv
 sk:Sl s 37 ay kv
 cr:Sr s 1 ax x.rows.length rv
 ck:Sr s 37 ay x.kids.length (flat kv)
 lr:x.rows.length≤1000
 lk:x.kids.length≤1000
theorem vI.mono {s s':Hp}{x:vr}{ax ay:AV}{rv kv:List AV} (h:vI s x ax ay rv kv) (hs:s.sub s'):vI s' x ax ay rv kv:=⟨h.r,h.k,h.sr.mono hs,h.sk.mono hs,h.cr.mono hs,h.ck.mono hs,h.lr,h.lk⟩
theorem vI.of {B1 B2 s:Hp}{x:vr}{ax ay:AV}{rv kv:List AV} (hr:cn isRow x.rows rv) (hk:cn eK x.kids kv) (h1:MO B1 s 1 (flat rv) ax) (h2:MO B2 s 37 (flat kv) ay) (l1:x.rows.length≤1000) (l2:x.kids.length≤1000):vI s x ax ay rv kv:=by
 obtain⟨n1,e1,q1⟩:=h1.sr (by omega)
 obtain⟨n2,e2,q2⟩:=h2.sr (by omega)
 rw[vB hr]at e1 q1
 rw[ny (hk.cells fun _ _=>eK.cells)]at e2
 have:=hr.len;have:=hk.len
 obtain rfl:n1=x.rows.length:=by omega
 obtain rfl:n2=x.kids.length:=by omega
 exact⟨hr,hk,Sl.mo h1 (by omega) rfl (hr.cells fun _ _=>isRow.cells),Sl.mo h2 (by omega) rfl (hk.cells fun _ _=>eK.cells),q1,q2,l1,l2⟩
def pN (n:gM):vr:=⟨decide (n.kind=2),n.rows.map Prod.fst,n.kids⟩
def xN (S:bW) (d:Nat) (a b:vr):Except Int (List Kd)×bW:=if a.leaf=true then CA S d (a.rows++b.rows)else wJ S d (a.kids++b.kids)
theorem WM (s:Hp) (l lM:Nat) (S:bW) (hS:eC s l lM S) (a b:vr) (ax ay bl bx P1:AV) (rv kv uI vp:List AV) (ha:vI s a ax ay rv kv) (hb:vI s b bx P1 uI vp) (vX:bl.cells= [bl]) (d:Nat) (bq:1≤d) (bg:d≤8):
  AC Tryz.prog 111 [rJ l d,.agg [.v (.bool a.leaf),ax,ay],.agg [bl,bx,P1]] s fun r s'=>qI s s' l lM (xN S d a b) r:=by
 refine cR hm a9s (by simp) ?_
 have e0: ∀cs,(AV.agg cs).cells=cs:=fun _=>rfl
 have t2: ∀a b:AV,List.take 2 [a,b]= [a,b]:=fun _ _=>rfl
 have em: ∀a b,cK true 2 [a,b]= .agg [a,b]:=fun _ _=>rfl
 have m0: ∀a b c:AV,cK false 1 [a,b,c]=a:=fun _ _ _=>rfl
 have m1: ∀a b c:AV,cK false 1 ([a,b,c].drop 1)=b:=fun _ _ _=>rfl
 have m2: ∀a b c:AV,cK false 1 ([a,b,c].drop 2)=c:=fun _ _ _=>rfl
 refine sr @e0 ?_
 refine cP fun x3 n3=> ?_
 refine sr @e0 ?_
 refine cP fun x4 n4=> ?_
 have d34:x3≠x4:=by rintro rfl;rw[Hp.bt]at n4;cases n4
 have lQ:s x4=none:=by rw[Hp.aX _ _ (Ne.symm d34)]at n4;exact n4
 refine sr @e0 ?_
 refine cP fun x5 n5=> ?_
 have d45:x4≠x5:=by rintro rfl;rw[Hp.bt]at n5;cases n5
 have d35:x3≠x5:=by rintro rfl;rw[Hp.aX _ _ d34,Hp.bt]at n5;cases n5
 have n5s:s x5=none:=by rw[Hp.aX _ _ (Ne.symm d45),Hp.aX _ _ (Ne.symm d35)]at n5;exact n5
 obtain⟨B,hB⟩: ∃B:Hp,B=((s.set x3 (.cells [.ptr l 0,.v (.int .i64 (d:Int))])).set x4 (.cells [.v (.bool a.leaf),ax,ay])).set x5 (.cells [bl,bx,P1]):=⟨_,rfl⟩
 have dm:s.sub B:=by rw[hB];exact Hp.bT (Hp.bT (Hp.bT Hp.aH n3) lQ) n5s
 have c3:B x3=some (.cells [.ptr l 0,.v (.int .i64 (d:Int))]):=by rw[hB,Hp.aX _ _ d35,Hp.aX _ _ d34,Hp.bt]
 have c4:B x4=some (.cells [.v (.bool a.leaf),ax,ay]):=by rw[hB,Hp.aX _ _ d45,Hp.bt]
 have c5:B x5=some (.cells [bl,bx,P1]):=by rw[hB,Hp.bt]
 unfold xN
 have hla:=ha.lr;have hlb:=hb.lr;have Uz:=ha.lk;have Uj:=hb.lk
 cases GJ:a.leaf with
 |true=>
  rw[GJ]at c4 hB
  refine sr (gP @e0 @Hp.aX @d34 @d35 @d45 @Hp.bt @m0 @m1 @m2 @GJ) ?_
  rw[←hB]
  refine ik Hp.aH (by intro e he;simp only[List.mem_cons,List.not_mem_nil,or_false]at he;rcases he with rfl|rfl;(·rw[ha.cr.one];rfl);(·rw[hb.cr.one];rfl)) fun o1 s1 h1=> ?_
  have pJ:=Hp.cy dm h1.sub
  have k3:=h1.sub _ _ c3
  simp -dsimp -implicitDefEqProofs (disch:=first|omega|assumption|(simp only[rL,Nat.reduceAdd];try omega)) only[go_sem,simprocAttr,-List.reduceReplicate,e0,Hp.aV k3,em,t2]
  refine bC (a5J s1 _ _ o1 _ _ _ _ (ha.cr.mono pJ) (hb.cr.mono pJ) (by omega) (by omega)) ?_
  intro a6 s6 iC
  have j3:=iC.1 _ _ k3
  have Dw:cn isRow (a.rows++b.rows) (rv++uI):=ha.r.append hb.r
  rw[←vB Dw]at iC
  simp -dsimp -implicitDefEqProofs (disch:=first|omega|assumption|(simp only[rL,Nat.reduceAdd];try omega)) only[go_sem,simprocAttr,-List.reduceReplicate,e0,Hp.aV j3,em,t2]
  refine bC (Yz s1 s6 l lM S (hS.mono pJ) _ _ a6 iC d bq bg Dw (by rw[List.length_append];omega)) ?_
  intro r s7 ym
  obtain⟨a7,e7,rfl⟩:=ym.shape
  refine sr @e0 ?_
  exact⟨_,Hp.aH,qI.base ym (Ext.of pJ)⟩
 |false=>
  rw[GJ]at c4 hB
  refine sr (gP @e0 @Hp.aX @d34 @d35 @d45 @Hp.bt @m0 @m1 @m2 @GJ) ?_
  rw[←hB]
  refine ik Hp.aH (by intro e he;simp only[List.mem_cons,List.not_mem_nil,or_false]at he;rcases he with rfl|rfl;(·rw[ha.ck.one];rfl);(·rw[hb.ck.one];rfl)) fun o1 s1 h1=> ?_
  have pJ:=Hp.cy dm h1.sub
  have k3:=h1.sub _ _ c3
  simp -dsimp -implicitDefEqProofs (disch:=first|omega|assumption|(simp only[rL,Nat.reduceAdd];try omega)) only[go_sem,simprocAttr,-List.reduceReplicate,e0,Hp.aV k3,em,t2]
  refine bC (a5K s1 _ _ o1 _ _ _ _ (ha.ck.mono pJ) (hb.ck.mono pJ) (by omega) (by omega)) ?_
  intro a6 s6 iC
  have j3:=iC.1 _ _ k3
  have Dw:cn eK (a.kids++b.kids) (kv++vp):=ha.k.append hb.k
  rw[←Fg]at iC
  simp -dsimp -implicitDefEqProofs (disch:=first|omega|assumption|(simp only[rL,Nat.reduceAdd];try omega)) only[go_sem,simprocAttr,-List.reduceReplicate,e0,Hp.aV j3,em,t2]
  refine bC (YA s1 s6 l lM S (hS.mono pJ) _ _ a6 iC d bq bg Dw (by rw[List.length_append];omega)) ?_
  intro r s7 ym
  obtain⟨a7,e7,rfl⟩:=ym.shape
  refine sr @e0 ?_
  exact⟨_,Hp.aH,qI.base ym (Ext.of pJ)⟩
def xO (S:bW) (d:Nat) (ks:List Kd) (i:Nat) (x:vr):Except Int (List Kd)×bW:=
 if 2≤x.rows.length+x.kids.length then
  match BI S d x.leaf x.rows x.kids with
  |(.error e,S')=>(.error e,S')
  |(.ok k,S')=>(.ok (ks.set i k),S')
 else match ks[if i=0 then 1 else i - 1]? with
  |none=>(.error 21,S)
  |some o=>match vf S d o with
   |none=>(.error 21,S)
   |some n=>match xN S d (if i=0 then x else pN n) (if i=0 then pN n else x)with
    |(.error e,S')=>(.error e,S')
    |(.ok l,S')=>(.ok (ks.take (i - 1)++(l++ks.drop (i - 1+2))),S')
def KsW (s s':Hp) (l lM:Nat) (o:Except Int (List Kd)×bW) (r:AV):Prop:=
 match o.1 with
 | .error e=>eC s' l lM o.2∧Ext l lM s s'∧e≠0∧ ∃a,r= .dr [a,.v (.int .i64 e)]∧a.cells= [a]
 | .ok ks=> ∃kv a,cn eK ks kv∧r= .dr [a,.v (.int .i64 0)]∧MS s s' l lM o.2 37 (flat kv) a
theorem cn.set {α:Type}{V:α→AV→Prop}: ∀ {xs:List α}{av:List AV}{x:α}{a:AV} (i:Nat),cn V xs av→V x a→cn V (xs.set i x) (av.set i a)
 | [],[],_,_,_,h,_=>h
 | _:: _,_:: _,_,_,0,h,h2=>⟨h2,h.2⟩
 | _:: _,_:: _,_,_,i+1,h,h2=>⟨h.1,cn.set i h.2 h2⟩
theorem QT {S S':bW}{d:Nat}{a b:vr}{ks:List Kd} (h:xN S d a b=(.ok ks,S')) (h2:a.rows.length≤1000∧b.rows.length≤1000∧a.kids.length≤1000∧b.kids.length≤1000):ks.length≤501:=by
 unfold xN at h
 split at h
 ·rename_i hl
  have:=Fk h
  rw[this]
  simp only[List.length_nil,Nat.zero_add,au.chunks,(zX).1,au.cQ,List.length_append]
  omega
 ·rename_i hl
  have:=Fk h
  rw[this]
  simp only[List.length_nil,Nat.zero_add,au.chunks,(zX).1,au.cQ,List.length_append]
  omega
theorem a7f (B s:Hp) (l lM:Nat) (S:bW) (EG:eC B l lM S) (ks:List Kd) (kv:List AV) (y:AV) (hM:MO B s 37 (flat kv) y) (hA:cn eK ks kv) (x:vr) (ax ay:AV) (uI vp:List AV) (hx:vI s x ax ay uI vp) (h2:2≤ks.length) (lF:ks.length≤1000) (i:Nat) (hi:i<ks.length) (d:Nat) (bq:1≤d) (bg:d≤8):
  AC Tryz.prog 77 [rJ l d,y,.v (.int .i64 (i:Int)),.agg [.v (.bool x.leaf),ax,ay]] s fun r s'=>KsW B s' l lM (xO S d ks i x) r:=by
 refine cR hm adp (by simp) ?_
 have e0: ∀cs,(AV.agg cs).cells=cs:=fun _=>rfl
 have t2: ∀a b:AV,List.take 2 [a,b]= [a,b]:=fun _ _=>rfl
 have t3: ∀a b c:AV,List.take 3 [a,b,c]= [a,b,c]:=fun _ _ _=>rfl
 have kC: ∀a b,cK true 2 [a,b]= .agg [a,b]:=fun _ _=>rfl
 have em: ∀a b c,cK true 3 [a,b,c]= .agg [a,b,c]:=fun _ _ _=>rfl
 have p3: ∀a b c x y z:AV,putAt [a,b,c] 0 [x,y,z]= [x,y,z]:=fun _ _ _ _ _ _=>rfl
 have l3: ∀a b c:AV,[a,b,c].length=3:=fun _ _ _=>rfl
 have tk:=hA.len
 have hS:=EG.mono hM.1
 have Dy:(flat kv).length=kv.length*37:=ny (hA.cells fun _ _=>eK.cells)
 obtain⟨lb,nb,CY,C7,rfl,r2,r3,r4,r5,r6,r7,r8⟩:=MO.mb hM (by intro h;rw[h]at Dy;simp at Dy;omega)
 obtain rfl:nb=ks.length:=by omega
 refine sr @e0 ?_
 refine cP fun x4 n4=> ?_
 refine sr @e0 ?_
 refine cP fun x7 n7=> ?_
 have d47:x4≠x7:=by rintro rfl;rw[Hp.bt]at n7;cases n7
 have U6:s x7=none:=by rw[Hp.aX _ _ (Ne.symm d47)]at n7;exact n7
 obtain⟨s1,pJ⟩: ∃s1:Hp,s1=(s.set x4 (.cells [.ptr l 0,.v (.int .i64 (d:Int))])).set x7 (.cells [.v (.bool x.leaf),ax,ay]):=⟨_,rfl⟩
 have h1:s.sub s1:=by rw[pJ];exact Hp.bT (Hp.bT Hp.aH n4) U6
 have c4:s1 x4=some (.cells [.ptr l 0,.v (.int .i64 (d:Int))]):=by rw[pJ,Hp.aX _ _ d47,Hp.bt]
 have c7:s1 x7=some (.cells [.v (.bool x.leaf),ax,ay]):=by rw[pJ,Hp.bt]
 refine sr (c6 @e0 @Hp.aX @d47 @Hp.bt @t3 @em) ?_
 rw[←pJ]
 have hlr:=hx.lr;have Lt:=hx.lk
 refine bC (a8H (.v (.bool x.leaf)) ax ay _ _ hx.cr.one hx.ck.one rfl hx.cr.len hx.ck.len (by omega) (by omega) s1) ?_
 rintro _ s1 ⟨rfl,rfl⟩
 have Dz:MO B s1 37 (flat kv) (.mb lb ks.length CY 37):=MO.mono hM h1
 have UA:MS B s1 l lM S 37 (flat kv) (.mb lb ks.length CY 37):=MS.of Dz EG Ext.refl
 have gW:=hx.mono h1
 have uG:=hS.mono h1
 have zl:=(eA (o1:= .nil) (o2:= .nil) (o3:= .nil) eY).len
 obtain⟨Q,hQ⟩: ∃Q,Q=xO S d ks i x:=⟨_,rfl⟩
 rw[←hQ]
 rw[xO]at hQ
 by_cases cf:2≤x.rows.length+x.kids.length
 ·have UB:decide (x.rows.length+x.kids.length<2)=false:=decide_eq_false (by omega)
  rw[if_pos cf]at hQ
  rw[UB]
  refine sr (c8 @e0 @Bool.not_false (Hp.aV c4) (Hp.aV c7) @em @kC @t2 @t3) ?_
  refine bC (QQ s1 l lM S uG x.leaf x.rows uI ax x.kids vp ay d bq bg gW.r gW.sr (by omega) gW.k gW.sk (by omega)) ?_
  rintro r s6 ⟨kJ,mT,hR⟩
  generalize BI S d x.leaf x.rows x.kids=pr at hQ kJ hR
  obtain⟨res,S'⟩:=pr
  simp only at kJ hR
  obtain⟨k',w1,w2,w3,e,hk,rfl⟩:=hR.shape
  have hJ:=eA (o1:=w1) (o2:=w2) (o3:=w3) hk
  have iM:=hJ.len
  have pz:putAt (aS cO .nil .nil .nil) 0 (aS k' w1 w2 w3)=aS k' w1 w2 w3:=jV eY hk
  refine sr (c5 @e0 @fl @zl @iM @pz) ?_
  refine cP fun nH iL=> ?_
  have iC:=MS.mono (UA.step mT kJ) (Hp.bT (o:= .cells (aS k' w1 w2 w3)) Hp.aH iL)
  obtain⟨B',hMB,a1g,a1h⟩:=iC
  have hw:kv[i]? =some kv[i]:=List.getElem?_eq_getElem (by omega)
  obtain⟨csx,y1,y2,y3,y4⟩:=MO.put (i:=i) (a:= .agg (aS k' w1 w2 w3)) hMB (by omega) (hA.cells fun _ _=>eK.cells) hw iM
  rw[e0]at y4
  have ia:kQ 37 (.mb lb ks.length CY 37) (.v (.int .i64 (i:Int)))=some (.ptr lb (i*37)):=by have:=I3 (k:=37) (l:=lb) (len:=ks.length) (cap:=CY) (kd:= .i64) (n:=(i:Int)) (by omega) (by omega);simpa using this
  refine sr (gP @e0 @fl @zl @iM @pz @Hp.set_set @Hp.bt hJ.t37 @ia (Hp.dG y1)) ?_
  refine⟨_,Hp.aH,?_⟩
  have wh:Ext l lM B _:=a1h.trans (Ext.of y4.1)
  cases res with
  |error e'=>
   obtain⟨he,hr⟩:=hR
   simp only[AV.dr.injEq,List.cons.injEq,AV.v.injEq,Value.int.injEq,true_and,and_true]at hr
   obtain⟨_,rfl⟩:=hr
   simp only at hQ
   subst hQ
   exact⟨a1g.mono y4.1,wh,he,_,rfl,rfl⟩
  |ok k2=>
   obtain⟨gQ,mj,q1,q2,q3,hr⟩:=hR
   simp only[AV.dr.injEq,List.cons.injEq,AV.v.injEq,Value.int.injEq,true_and,and_true,AV.agg.injEq]at hr
   obtain⟨hr,rfl⟩:=hr
   simp only at hQ
   subst hQ
   exact⟨_,_,cn.set i hA ⟨gQ,mj,q1,q2,q3,by rw[hr]⟩,rfl,⟨B',y4,a1g,a1h⟩⟩
 ·have UB:decide (x.rows.length+x.kids.length<2)=true:=decide_eq_true (by omega)
  rw[if_neg cf]at hQ
  rw[UB]
  have P2:max ((i:Int) - 1) 0=((i - 1:Nat):Int):=by omega
  by_cases xm:i=0
  ·subst xm
   simp only[if_true]at hQ
   have LV:1<ks.length:=by omega
   have hw:kv[1]? =some kv[1]:=List.getElem?_eq_getElem (by omega)
   have vY:ks[1]? =some ks[1]:=List.getElem?_eq_getElem LV
   rw[vY]at hQ
   simp only at hQ
   generalize ks[1]'LV=o at vY hQ
   obtain⟨oa,iB,LW,UC,w1,w2,w3,rfl⟩:=hA.get vY
   obtain⟨p9,e9,gl⟩:=(Sl.mo Dz (by omega) rfl (hA.cells fun _ _=>eK.cells)).get 1 _ iB
   have z1:((1:Nat):Int)=1:=rfl
   rw[z1]at e9
   have hC:=eA (o1:=w1) (o2:=w2) (o3:=w3) LW
   rw[e0]at gl
   have gj:=gl.ld s1 Hp.aH true 37 (by omega) (by rw[hC.len];omega)
   rw[show cK true 37 (aS o w1 w2 w3)= .agg (aS o w1 w2 w3) by rw[cK,if_pos rfl,hC.t37]]at gj
   refine sr (c9 @e0 @Bool.not_true @P2 @Int.ofNat_zero (Hp.aV c4) @kC @t2 @e9 @gj) ?_
   refine bC (MW s1 l lM S uG o w1 w2 w3 LW UC d bq bg) ?_
   rintro r s2 ⟨iR,hr⟩
   cases hg:vf S d o with
   |none=>
    rw[hg]at hr hQ
    obtain rfl:=hr
    simp only at hQ
    subst hQ
    refine sr (c3 @e0 @p3 @l3) ?_
    refine cP fun rO iY=> ?_
    have nY:=Hp.cy iR (Hp.bT (o:= .cells [.v (.int .u8 0),.sl [] .nil,.sl [] .nil]) Hp.aH iY)
    refine sr (c5 @e0 @p3 @l3 @em @Hp.set_set) ?_
    exact⟨_,Hp.aH,EG.mono (Hp.cy Dz.1 nY),Ext.of (Hp.cy Dz.1 nY),by decide,_,rfl,rfl⟩
   |some n=>
    rw[hg]at hr hQ
    simp only at hQ
    obtain⟨xn,yn,rfl,ss⟩:=hr
    obtain⟨Ao,FJ⟩:=HY hg
    obtain⟨LX,P3,P4⟩:=Bt Ao.ok
    refine sr (c3 @e0 @p3 @l3) ?_
    refine cP fun rO iY=> ?_
    obtain⟨s3,wg⟩: ∃s3:Hp,s3=s2.set rO (.cells [.v (.int .u8 (n.kind.toNat:Int)),xn,yn]):=⟨_,rfl⟩
    have qG:s2.sub s3:=by rw[wg];exact Hp.bT Hp.aH iY
    have qF:s3 rO=some (.cells [.v (.int .u8 (n.kind.toNat:Int)),xn,yn]):=by rw[wg,Hp.bt]
    have FY:=Hp.cy iR qG
    obtain⟨sM,av,zH,mx,my,vt,ak,lx,ly⟩:=ss
    have nc:nR s3 n xn yn av zH:=nR.mono ⟨vt,ak,(Sl.mo mx (by omega) rfl (vt.cells fun _ _=>mA.cells)).mono my.1,Sl.mo my (by omega) rfl (ak.cells fun _ _=>eK.cells),lx,ly⟩ qG
    have UD:=FY _ _ c7
    have UE:=FY _ _ c4
    have r7: ∀ob,(s2.set rO ob).read x7=some [.v (.bool x.leaf),ax,ay]:=fun ob=>Hp.aV (by rw[Hp.aX _ _ (by rintro rfl;rw[iR _ _ c7]at iY;cases iY)];exact iR _ _ c7)
    refine sr (c9 @e0 @p3 @l3 @em @t3 @Hp.set_set @Hp.bt @r7 @HE) ?_
    rw[←wg]
    refine bC (Nm n av zH xn yn s3 nc) ?_
    rintro _ s4 ⟨an,UF,rfl,hAn,P5⟩
    have nI:=P5.1
    have zI:=nI _ _ UD
    refine sr (c6 @e0 (Hp.aV zI) @em @t3 @p3 @l3) ?_
    refine cP fun pe DA=> ?_
    refine sr (c6 @e0 (Hp.aV zI) @em @t3 @p3 @l3) ?_
    refine cP fun ql DB=> ?_
    have BJ:pe≠ql:=by rintro rfl;rw[Hp.bt]at DB;cases DB
    have CZ:s4 ql=none:=by rw[Hp.aX _ _ (Ne.symm BJ)]at DB;exact DB
    have NS:=Ne.symm BJ
    have n7:x7≠pe∧x7≠ql:=⟨(by rintro rfl;rw[zI]at DA;cases DA),(by rintro rfl;rw[zI]at CZ;cases CZ)⟩
    have UG: ∀o1 o2,((s4.set pe o1).set ql o2).read x7=some [.v (.bool x.leaf),ax,ay]:=fun o1 o2=>Hp.aV (by rw[Hp.aX _ _ n7.2,Hp.aX _ _ n7.1];exact zI)
    have UH: ∀c o2,rI ((s4.set pe (.cells c)).set ql o2) pe=some c:=fun c o2=>Hp.dG (by rw[Hp.aX _ _ BJ,Hp.bt])
    have LY: ∀o1 o2 o,((s4.set pe o1).set ql o2).set pe o=(s4.set pe o).set ql o2:=fun o1 o2 o=>Hp.Ni NS
    obtain⟨s5,jM⟩: ∃s5:Hp,s5=(s4.set pe (.cells [.v (.bool (decide (n.kind=2))),an,yn])).set ql (.cells [.v (.bool x.leaf),ax,ay]):=⟨_,rfl⟩
    have AU:s4.sub s5:=by rw[jM];exact Hp.bT (Hp.bT Hp.aH DA) CZ
    have KX:s5 pe=some (.cells [.v (.bool (decide (n.kind=2))),an,yn]):=by rw[jM,Hp.aX _ _ BJ,Hp.bt]
    have KY:s5 ql=some (.cells [.v (.bool x.leaf),ax,ay]):=by rw[jM,Hp.bt]
    have Aq:=Hp.cy FY nI
    have T3:=Hp.cy qG nI
    have oU:=gW.mono Aq
    have IA:MO sM s4 37 (flat zH) yn:=MO.mono my T3
    refine sr (gP @e0 @UG @em @t3 @p3 @l3 @UH @LY @Hp.set_set @Hp.bt) ?_
    rw[←jM]
    rw[Hp.set_set,←jM]
    have ail:=AU _ _ (nI _ _ qF)
    have c75:=AU _ _ zI
    simp -dsimp -implicitDefEqProofs (disch:=first|omega|assumption|(simp only[rL,Nat.reduceAdd];try omega)) only[go_sem,simprocAttr,-List.reduceReplicate,e0,Hp.aV ail,Hp.aV c75,em,kC,t2,t3]
    refine bC (Nm n av zH xn yn s5 (nc.mono (Hp.cy nI AU))) ?_
    rintro _ s6 ⟨LZ,T4,rfl,aim,IB⟩
    have c76:=IB.1 _ _ c75
    have ain:=IB.1 _ _ KX
    have aio:=IB.1 _ _ KY
    have a17: ∀ob,rI (s6.set pe ob) ql=some [.v (.bool x.leaf),ax,ay]:=fun ob=>Hp.dG (by rw[Hp.aX _ _ NS];exact aio)
    obtain⟨s9,nY⟩: ∃s9:Hp,s9=(s6.set pe (.cells [.v (.bool x.leaf),ax,ay])).set ql (.cells [.v (.bool (decide (n.kind=2))),LZ,yn]):=⟨_,rfl⟩
    have lG:s4.sub s9:=fun q o hq=>by
     have w1:q≠pe:=by rintro rfl;rw[hq]at DA;cases DA
     have w2:q≠ql:=by rintro rfl;rw[hq]at CZ;cases CZ
     rw[nY,Hp.aX _ _ w2,Hp.aX _ _ w1];exact IB.1 _ _ (AU _ _ hq)
    have UI:=lG _ _ (nI _ _ UE)
    have aip:s9 pe=some (.cells [.v (.bool x.leaf),ax,ay]):=by rw[nY,Hp.aX _ _ BJ,Hp.bt]
    have aiq:s9 ql=some (.cells [.v (.bool (decide (n.kind=2))),LZ,yn]):=by rw[nY,Hp.bt]
    have air:MO (fun _=>none) s9 1 (flat T4) LZ:=MO.emp IB (by
     rintro b nb' aoU rfl
     have xp:s5 b=none:=by
      rcases IB.2 with ⟨_,h|h⟩|⟨l9,_,_,_,h,h9,_⟩
      ·cases h
      ·cases h
      ·simp only[AV.mb.injEq]at h;rw[h.1];exact h9
     have w1:b≠pe:=by rintro rfl;rw[KX]at xp;cases xp
     have w2:b≠ql:=by rintro rfl;rw[KY]at xp;cases xp
     rw[nY,Hp.aX _ _ w2,Hp.aX _ _ w1])
    have hP:vI s9 (pN n) LZ yn T4 zH:=vI.of (x:=pN n) aim ak air (MO.mono IA lG) (by simp[pN];omega) (by simp[pN];omega)
    have UJ:=oU.mono lG
    have qV:=fun S' l' h=>QT (S:=S) (S':=S') (d:=d) (a:=x) (b:=pN n) (ks:=l') h (by simp[pN];omega)
    refine sr (gP @e0 (Hp.aV c76) @em @kC @t2 @t3 @p3 @l3 (Hp.dG ain) @a17) ?_
    rw[←nY]
    refine sr (c8 @e0 (Hp.aV aip) (Hp.aV aiq) (Hp.aV UI) @em @kC @t2 @t3) ?_
    have xq:=(uG.mono Aq).mono lG
    refine bC (WM s9 l lM S xq x (pN n) ax ay (.v (.bool (decide (n.kind=2)))) LZ yn uI vp T4 zH UJ hP rfl d bq bg) ?_
    intro r nm hK
    generalize xN S d x (pN n)=pr at hQ hK qV
    obtain⟨res,S'⟩:=pr
    have KZ:MS B s9 l lM S 37 (flat kv) (.mb lb ks.length CY 37):=MS.mono UA (Hp.cy Aq lG)
    cases res with
    |error e=>
     obtain⟨D0,T5,he,rfl⟩:=hK
     simp only at hQ
     subst hQ
     refine sr (c2 @e0 @he) ?_
     exact⟨_,Hp.aH,D0,KZ.ext.trans T5,he,_,rfl,rfl⟩
    |ok l'=>
     obtain⟨AW,a3,GK,rfl,⟨B3,uH,Ap,Er⟩,FM⟩:=hK
     have J4:=qV S' l' rfl
     simp only at hQ Ap
     have mS:=GK.len
     have AT:(flat AW).length=l'.length*37:=by rw[ny (GK.cells fun _ _=>eK.cells),mS]
     have wh:Ext l lM s9 nm:=Er.trans (Ext.of uH.1)
     have D0:=Ap.mono uH.1
     obtain⟨B4,qZ,FT,FU⟩:=KZ.step wh D0
     by_cases pL:l'= []
     ·subst pL
      obtain rfl:=FM rfl
      refine sr (c2 @e0 @Int.zero_add) ?_
      refine bC (Yy _ nm (flat kv) _ ks.length (0) (0+2) _ rfl qZ (by rw[Dy,tk]) (by omega) (by omega) (by omega)) ?_
      intro a6 P6 iC
      rw[(sK (0) (hA.cells fun _ _=>eK.cells)).2,(sK (0+2) (hA.cells fun _ _=>eK.cells)).1,←Fg]at iC
      refine sr @e0 ?_
      subst hQ
      exact⟨_,Hp.aH,_,a6,(hA.take (0)).append (hA.drop (0+2)),rfl,⟨_,iC,FT,FU⟩⟩
     have rH:0<l'.length:=List.length_pos_iff.2 pL
     obtain⟨lv,nv,L0,DC,rfl,y2,y3,y4,y5,y6,y7,y8⟩:=MO.mb uH (by intro h;rw[h]at AT;simp at AT;omega)
     have FZ:=Ap.lY y2
     have D1:s9 lv=none:=by
      cases hq:s9 lv with
      |none=>rfl
      |some o=>have:=Er _ _ FZ.1 FZ.2 hq;rw[y2]at this;cases this
     have T6:s9 lb=some (.cells C7):=lG _ _ (Aq _ _ (h1 _ _ r3))
     have bI:lb≠lv:=by rintro rfl;rw[T6]at D1;cases D1
     have qH:=MO.add qZ y3 (by rintro b n' eD h;simp only[AV.mb.injEq]at h;rw[←h.1];exact bI)
     have LU:MO (fun _=>none) (B4.set lv (.cells DC)) 37 (flat AW) (.mb lv nv L0 37):=⟨(fun _ _ h=>by cases h),.inr ⟨lv,nv,L0,DC,rfl,rfl,Hp.bt _ _ _,y4,y5,y6,y7,y8⟩⟩
     have FV:eC (B4.set lv (.cells DC)) l lM S':=FT.set FZ
     have T7:B lv=none:=by
      cases hq:B lv with
      |none=>rfl
      |some o=>have:=Dz.1 _ _ hq;rw[lG _ _ (Aq _ _ this)]at D1;cases D1
     have FX:Ext l lM B (B4.set lv (.cells DC)):=FU.set T7
     refine sr (c2 @e0 @Int.zero_add) ?_
     refine bC (Ry _ _ nm (flat kv) (flat AW) _ _ ks.length l'.length (0) (0+2) _ rfl qH (by rw[Dy,tk]) LU AT (by omega) (by omega) (by omega) (by omega) (by omega)) ?_
     intro a6 P6 iC
     have ke:(flat kv).take ((0)*37)++(flat AW++(flat kv).drop ((0+2)*37))=flat (kv.take (0)++(AW++kv.drop (0+2))):=by
      rw[(sK (0) (hA.cells fun _ _=>eK.cells)).2,(sK (0+2) (hA.cells fun _ _=>eK.cells)).1];simp[flat]
     rw[ke]at iC
     refine sr @e0 ?_
     subst hQ
     exact⟨_,Hp.aH,_,a6,(hA.take (0)).append (GK.append (hA.drop (0+2))),rfl,⟨_,iC,FV,FX⟩⟩
  ·have Oh: ¬(i:Int)=0:=by omega
   simp only[if_neg xm]at hQ
   have LV:(i - 1)<ks.length:=by omega
   have hw:kv[(i - 1)]? =some kv[(i - 1)]:=List.getElem?_eq_getElem (by omega)
   have vY:ks[(i - 1)]? =some ks[(i - 1)]:=List.getElem?_eq_getElem LV
   rw[vY]at hQ
   simp only at hQ
   generalize ks[(i - 1)]'LV=o at vY hQ
   obtain⟨oa,iB,LW,UC,w1,w2,w3,rfl⟩:=hA.get vY
   obtain⟨p9,e9,gl⟩:=(Sl.mo Dz (by omega) rfl (hA.cells fun _ _=>eK.cells)).get (i - 1) _ iB
   have hC:=eA (o1:=w1) (o2:=w2) (o3:=w3) LW
   rw[e0]at gl
   have gj:=gl.ld s1 Hp.aH true 37 (by omega) (by rw[hC.len];omega)
   rw[show cK true 37 (aS o w1 w2 w3)= .agg (aS o w1 w2 w3) by rw[cK,if_pos rfl,hC.t37]]at gj
   refine sr (c9 @e0 @Bool.not_true @P2 @Oh (Hp.aV c4) @kC @t2 @e9 @gj) ?_
   refine bC (MW s1 l lM S uG o w1 w2 w3 LW UC d bq bg) ?_
   rintro r s2 ⟨iR,hr⟩
   cases hg:vf S d o with
   |none=>
    rw[hg]at hr hQ
    obtain rfl:=hr
    simp only at hQ
    subst hQ
    refine sr (c3 @e0 @p3 @l3) ?_
    refine cP fun rO iY=> ?_
    have nY:=Hp.cy iR (Hp.bT (o:= .cells [.v (.int .u8 0),.sl [] .nil,.sl [] .nil]) Hp.aH iY)
    refine sr (c5 @e0 @p3 @l3 @em @Hp.set_set) ?_
    exact⟨_,Hp.aH,EG.mono (Hp.cy Dz.1 nY),Ext.of (Hp.cy Dz.1 nY),by decide,_,rfl,rfl⟩
   |some n=>
    rw[hg]at hr hQ
    simp only at hQ
    obtain⟨xn,yn,rfl,ss⟩:=hr
    obtain⟨Ao,FJ⟩:=HY hg
    obtain⟨LX,P3,P4⟩:=Bt Ao.ok
    refine sr (c3 @e0 @p3 @l3) ?_
    refine cP fun rO iY=> ?_
    obtain⟨s3,wg⟩: ∃s3:Hp,s3=s2.set rO (.cells [.v (.int .u8 (n.kind.toNat:Int)),xn,yn]):=⟨_,rfl⟩
    have qG:s2.sub s3:=by rw[wg];exact Hp.bT Hp.aH iY
    have qF:s3 rO=some (.cells [.v (.int .u8 (n.kind.toNat:Int)),xn,yn]):=by rw[wg,Hp.bt]
    have FY:=Hp.cy iR qG
    obtain⟨sM,av,zH,mx,my,vt,ak,lx,ly⟩:=ss
    have nc:nR s3 n xn yn av zH:=nR.mono ⟨vt,ak,(Sl.mo mx (by omega) rfl (vt.cells fun _ _=>mA.cells)).mono my.1,Sl.mo my (by omega) rfl (ak.cells fun _ _=>eK.cells),lx,ly⟩ qG
    have UD:=FY _ _ c7
    have UE:=FY _ _ c4
    have r7: ∀ob,(s2.set rO ob).read x7=some [.v (.bool x.leaf),ax,ay]:=fun ob=>Hp.aV (by rw[Hp.aX _ _ (by rintro rfl;rw[iR _ _ c7]at iY;cases iY)];exact iR _ _ c7)
    refine sr (c9 @e0 @p3 @l3 @em @t3 @Hp.set_set @Hp.bt @r7 @HE) ?_
    rw[←wg]
    refine bC (Nm n av zH xn yn s3 nc) ?_
    rintro _ s4 ⟨an,UF,rfl,hAn,P5⟩
    have nI:=P5.1
    have zI:=nI _ _ UD
    refine sr (c6 @e0 (Hp.aV zI) @em @t3 @p3 @l3) ?_
    refine cP fun pe DA=> ?_
    refine sr (c6 @e0 (Hp.aV zI) @em @t3 @p3 @l3) ?_
    refine cP fun ql DB=> ?_
    have BJ:pe≠ql:=by rintro rfl;rw[Hp.bt]at DB;cases DB
    have CZ:s4 ql=none:=by rw[Hp.aX _ _ (Ne.symm BJ)]at DB;exact DB
    have NS:=Ne.symm BJ
    have n7:x7≠pe∧x7≠ql:=⟨(by rintro rfl;rw[zI]at DA;cases DA),(by rintro rfl;rw[zI]at CZ;cases CZ)⟩
    have UG: ∀o1 o2,((s4.set pe o1).set ql o2).read x7=some [.v (.bool x.leaf),ax,ay]:=fun o1 o2=>Hp.aV (by rw[Hp.aX _ _ n7.2,Hp.aX _ _ n7.1];exact zI)
    have UH: ∀c o2,rI ((s4.set pe (.cells c)).set ql o2) pe=some c:=fun c o2=>Hp.dG (by rw[Hp.aX _ _ BJ,Hp.bt])
    have LY: ∀o1 o2 o,((s4.set pe o1).set ql o2).set pe o=(s4.set pe o).set ql o2:=fun o1 o2 o=>Hp.Ni NS
    obtain⟨s5,jM⟩: ∃s5:Hp,s5=(s4.set pe (.cells [.v (.bool (decide (n.kind=2))),an,yn])).set ql (.cells [.v (.bool x.leaf),ax,ay]):=⟨_,rfl⟩
    have AU:s4.sub s5:=by rw[jM];exact Hp.bT (Hp.bT Hp.aH DA) CZ
    have KX:s5 pe=some (.cells [.v (.bool (decide (n.kind=2))),an,yn]):=by rw[jM,Hp.aX _ _ BJ,Hp.bt]
    have KY:s5 ql=some (.cells [.v (.bool x.leaf),ax,ay]):=by rw[jM,Hp.bt]
    have Aq:=Hp.cy FY nI
    have T3:=Hp.cy qG nI
    have oU:=gW.mono Aq
    have IA:MO sM s4 37 (flat zH) yn:=MO.mono my T3
    refine sr (gP @e0 @UG @em @t3 @p3 @l3 @UH @LY @Hp.set_set @Hp.bt) ?_
    rw[Hp.set_set,←jM]
    obtain⟨s9,h59⟩: ∃s9,s9=s5:=⟨_,rfl⟩
    rw[←h59]at KX KY AU⊢
    have lG:=AU
    have UI:=lG _ _ (nI _ _ UE)
    have hP:vI s9 (pN n) an yn UF zH:=vI.of (x:=pN n) hAn ak (MO.mono P5 lG) (MO.mono IA lG) (by simp[pN];omega) (by simp[pN];omega)
    have UJ:=oU.mono lG
    have qV:=fun S' l' h=>QT (S:=S) (S':=S') (d:=d) (a:=pN n) (b:=x) (ks:=l') h (by simp[pN];omega)
    refine sr (c9 @e0 @Oh (Hp.aV KX) (Hp.aV KY) (Hp.aV UI) @em @kC @t2 @t3) ?_
    have xq:=(uG.mono Aq).mono lG
    refine bC (WM s9 l lM S xq (pN n) x an yn (.v (.bool x.leaf)) ax ay UF zH uI vp hP UJ rfl d bq bg) ?_
    intro r nm hK
    generalize xN S d (pN n) x=pr at hQ hK qV
    obtain⟨res,S'⟩:=pr
    have KZ:MS B s9 l lM S 37 (flat kv) (.mb lb ks.length CY 37):=MS.mono UA (Hp.cy Aq lG)
    cases res with
    |error e=>
     obtain⟨D0,T5,he,rfl⟩:=hK
     simp only at hQ
     subst hQ
     refine sr (c2 @e0 @he) ?_
     exact⟨_,Hp.aH,D0,KZ.ext.trans T5,he,_,rfl,rfl⟩
    |ok l'=>
     obtain⟨AW,a3,GK,rfl,⟨B3,uH,Ap,Er⟩,FM⟩:=hK
     have J4:=qV S' l' rfl
     simp only at hQ Ap
     have mS:=GK.len
     have AT:(flat AW).length=l'.length*37:=by rw[ny (GK.cells fun _ _=>eK.cells),mS]
     have wh:Ext l lM s9 nm:=Er.trans (Ext.of uH.1)
     have D0:=Ap.mono uH.1
     obtain⟨B4,qZ,FT,FU⟩:=KZ.step wh D0
     by_cases pL:l'= []
     ·subst pL
      obtain rfl:=FM rfl
      refine sr (c2 @e0 @P2) ?_
      refine bC (Yy _ nm (flat kv) _ ks.length (i - 1) (i - 1+2) _ rfl qZ (by rw[Dy,tk]) (by omega) (by omega) (by omega)) ?_
      intro a6 P6 iC
      rw[(sK (i - 1) (hA.cells fun _ _=>eK.cells)).2,(sK (i - 1+2) (hA.cells fun _ _=>eK.cells)).1,←Fg]at iC
      refine sr @e0 ?_
      subst hQ
      exact⟨_,Hp.aH,_,a6,(hA.take (i - 1)).append (hA.drop (i - 1+2)),rfl,⟨_,iC,FT,FU⟩⟩
     have rH:0<l'.length:=List.length_pos_iff.2 pL
     obtain⟨lv,nv,L0,DC,rfl,y2,y3,y4,y5,y6,y7,y8⟩:=MO.mb uH (by intro h;rw[h]at AT;simp at AT;omega)
     have FZ:=Ap.lY y2
     have D1:s9 lv=none:=by
      cases hq:s9 lv with
      |none=>rfl
      |some o=>have:=Er _ _ FZ.1 FZ.2 hq;rw[y2]at this;cases this
     have T6:s9 lb=some (.cells C7):=lG _ _ (Aq _ _ (h1 _ _ r3))
     have bI:lb≠lv:=by rintro rfl;rw[T6]at D1;cases D1
     have qH:=MO.add qZ y3 (by rintro b n' eD h;simp only[AV.mb.injEq]at h;rw[←h.1];exact bI)
     have LU:MO (fun _=>none) (B4.set lv (.cells DC)) 37 (flat AW) (.mb lv nv L0 37):=⟨(fun _ _ h=>by cases h),.inr ⟨lv,nv,L0,DC,rfl,rfl,Hp.bt _ _ _,y4,y5,y6,y7,y8⟩⟩
     have FV:eC (B4.set lv (.cells DC)) l lM S':=FT.set FZ
     have T7:B lv=none:=by
      cases hq:B lv with
      |none=>rfl
      |some o=>have:=Dz.1 _ _ hq;rw[lG _ _ (Aq _ _ this)]at D1;cases D1
     have FX:Ext l lM B (B4.set lv (.cells DC)):=FU.set T7
     refine sr (c2 @e0 @P2) ?_
     refine bC (Ry _ _ nm (flat kv) (flat AW) _ _ ks.length l'.length (i - 1) (i - 1+2) _ rfl qH (by rw[Dy,tk]) LU AT (by omega) (by omega) (by omega) (by omega) (by omega)) ?_
     intro a6 P6 iC
     have ke:(flat kv).take ((i - 1)*37)++(flat AW++(flat kv).drop ((i - 1+2)*37))=flat (kv.take (i - 1)++(AW++kv.drop (i - 1+2))):=by
      rw[(sK (i - 1) (hA.cells fun _ _=>eK.cells)).2,(sK (i - 1+2) (hA.cells fun _ _=>eK.cells)).1];simp[flat]
     rw[ke]at iC
     refine sr @e0 ?_
     subst hQ
     exact⟨_,Hp.aH,_,a6,(hA.take (i - 1)).append (GK.append (hA.drop (i - 1+2))),rfl,⟨_,iC,FV,FX⟩⟩
end Go.Proofs.YtonldhgdjjfahaaGreat
namespace Go.Av
open Go
theorem MO.kz {B s:Hp}{k:Nat}{us:List AV}{a:AV} (h:MO B s k us a): ∃B':Hp,MO B' s k us a∧B'.sub s∧B.sub B'∧ ∀x,(∀l n cap,a= .mb l n cap k→l≠x)→B' x=s x:=by
 obtain⟨h1,h2⟩:=h
 rcases h2 with h2|⟨l,n,cap,cs,rfl,q2,q3,q4⟩
 ·exact⟨s,⟨Hp.aH,.inl h2⟩,Hp.aH,h1,fun _ _=>rfl⟩
 ·have hs:(s.del l).sub s:=fun x o hx=>by
   by_cases e:x=l
   ·subst e;rw[Hp.yK]at hx;cases hx
   ·rw[Hp.pY _ e]at hx;exact hx
  refine⟨s.del l,⟨hs,.inr ⟨l,n,cap,cs,rfl,Hp.yK _ _,q3,q4⟩⟩,hs,fun x o hx=> ?_,fun x hx=>Hp.pY _ (Ne.symm (hx _ _ _ rfl))⟩
  have e:x≠l:=by rintro rfl;rw[q2]at hx;cases hx
  rw[Hp.pY _ e];exact h1 _ _ hx
theorem MO.own {B s:Hp}{k l n cap:Nat}{us:List AV} (h:MO B s k us (.mb l n cap k)):B l=none∧ ∃cs,s l=some (.cells cs):=by
 rcases h.2 with ⟨_,h2|h2⟩|⟨l',n',eD,cs,q1,q2,q3,_⟩
 ·cases h2
 ·cases h2
 ·simp only[AV.mb.injEq,true_and,and_true]at q1
  rw[q1.1];exact⟨q2,cs,q3⟩
end Go.Av
namespace Go.Proofs.YtonldhgdjjfahaaGreat
open Go Go.Av
def sX (d:Nat) (p:List Int):Nat→bW→Kd→Except Int vr×bW
  |0,S,_=>(.error 21,S)
  |fu+1,S,k=>match vf S d k with
    |none=>(.error 21,S)
    |some n=>
      if n.kind=2 then
        (if xU (n.rows.map Prod.fst) p=true then(.ok ⟨true,(n.rows.map Prod.fst).take (oV (n.rows.map Prod.fst) p)++(n.rows.map Prod.fst).drop (oV (n.rows.map Prod.fst) p+1),n.kids⟩,S)
         else(.error 9,S))
      else match n.kids[uw p n]? with
        |none=>(.error 21,S)
        |some c=>match sX d p fu S c with
          |(.error e,S')=>(.error e,S')
          |(.ok x,S')=>match xO S' d n.kids (uw p n) x with
            |(.error e,S2)=>(.error e,S2)
            |(.ok ks,S2)=>(.ok ⟨false,n.rows.map Prod.fst,ks⟩,S2)
def RmR (s s':Hp) (l lM:Nat) (o:Except Int vr×bW) (r:AV):Prop:=
 eC s' l lM o.2∧Ext l lM s s'∧match o.1 with
 | .error e=>e≠0∧ ∃b ax ay,r= .dr [.agg [b,ax,ay],.v (.int .i64 e)]
 | .ok x=> ∃ax ay rv kv,r= .dr [.agg [.v (.bool x.leaf),ax,ay],.v (.int .i64 0)]∧vI s' x ax ay rv kv
theorem a7g {S S':bW}{d i:Nat}{ks ks':List Kd}{x:vr} (h:xO S d ks i x=(.ok ks',S')) (h1:ks.length≤4) (h2:x.rows.length≤1000∧x.kids.length≤1000):ks'.length≤1000:=by
 unfold xO at h
 split at h
 ·split at h
  ·cases (Prod.mk.inj h).1
  ·have:=Except.ok.inj (Prod.mk.inj h).1
   rw[←this,List.length_set];omega
 ·rename_i hf
  split at h
  ·cases (Prod.mk.inj h).1
  ·split at h
   ·cases (Prod.mk.inj h).1
   ·rename_i n hg
    obtain⟨LX,P3,P4⟩:=Bt (HY hg).1.ok
    split at h
    ·cases (Prod.mk.inj h).1
    ·rename_i l S2 hj
     have:=Except.ok.inj (Prod.mk.inj h).1
     rw[←this]
     have hl:=QT hj (by
      split<;>simp[pN]<;>omega)
     simp only[List.length_append,List.length_take,List.length_drop]
     omega
theorem a51 (l lM:Nat) (p:List Int) (op:Own) (d:Nat) (bq:1≤d) (bg:d≤8): ∀(fu:Nat) (s:Hp) (S:bW) (k:Kd) (o1 o2 o3:Own),eC s l lM S→k.sum.length=32→k.Sh→0<fu→k.size<fu→
  AC Tryz.prog 43 [rJ l d,.agg (aS k o1 o2 o3),.sl (bA p) op] s fun r s'=>RmR s s' l lM (sX d p fu S k) r:=by
 intro fu
 induction fu with
 |zero=>
  intro s S k o1 o2 o3 hS gQ mj h0 OT
  omega
 |succ fu ih=>
 intro s S k o1 o2 o3 hS gQ mj Dk OT
 refine cR hm acU (by simp) ?_
 have e0: ∀cs,(AV.agg cs).cells=cs:=fun _=>rfl
 have p3: ∀a b c x y z:AV,putAt [a,b,c] 0 [x,y,z]= [x,y,z]:=fun _ _ _ _ _ _=>rfl
 have em: ∀a b c,cK true 3 [a,b,c]= .agg [a,b,c]:=fun _ _ _=>rfl
 have kC: ∀a b,cK true 2 [a,b]= .agg [a,b]:=fun _ _=>rfl
 have t2: ∀a b:AV,List.take 2 [a,b]= [a,b]:=fun _ _=>rfl
 have t3: ∀a b c:AV,List.take 3 [a,b,c]= [a,b,c]:=fun _ _ _=>rfl
 have l3: ∀a b c:AV,[a,b,c].length=3:=fun _ _ _=>rfl
 have m0: ∀a b c:AV,cK false 1 [a,b,c]=a:=fun _ _ _=>rfl
 have m1: ∀a b c:AV,cK false 1 ([a,b,c].drop 1)=b:=fun _ _ _=>rfl
 have m2: ∀a b c:AV,cK false 1 ([a,b,c].drop 2)=c:=fun _ _ _=>rfl
 have u1: ∀a b c x:AV,putAt [a,b,c] 1 [x]= [a,x,c]:=fun _ _ _ _=>rfl
 have u2: ∀a b c x:AV,putAt [a,b,c] 2 [x]= [a,b,x]:=fun _ _ _ _=>rfl
 have hK:=eA (o1:=o1) (o2:=o2) (o3:=o3) gQ
 have fL:=hK.len
 refine sr @e0 ?_
 refine cP fun x3 n3=> ?_
 refine sr (c2 @e0 @fL) ?_
 refine cP fun x4 n4=> ?_
 have d34:x3≠x4:=by rintro rfl;rw[Hp.bt]at n4;cases n4
 have lQ:s x4=none:=by rw[Hp.aX _ _ (Ne.symm d34)]at n4;exact n4
 refine sr (c2 @e0 @fL) ?_
 refine cP fun x6 n6=> ?_
 have d46:x4≠x6:=by rintro rfl;rw[Hp.bt]at n6;cases n6
 have d36:x3≠x6:=by rintro rfl;rw[Hp.aX _ _ d34,Hp.bt]at n6;cases n6
 have ti:s x6=none:=by rw[Hp.aX _ _ (Ne.symm d46),Hp.aX _ _ (Ne.symm d36)]at n6;exact n6
 obtain⟨B,hB⟩: ∃B:Hp,B=((s.set x3 (.cells [.ptr l 0,.v (.int .i64 (d:Int))])).set x4 (.cells (aS k o1 o2 o3))).set x6 (.cells [.v (.bool false),.sl [] .nil,.sl [] .nil]):=⟨_,rfl⟩
 have dm:s.sub B:=by rw[hB];exact Hp.bT (Hp.bT (Hp.bT Hp.aH n3) lQ) ti
 have c3:B x3=some (.cells [.ptr l 0,.v (.int .i64 (d:Int))]):=by rw[hB,Hp.aX _ _ d36,Hp.aX _ _ d34,Hp.bt]
 have c6:B x6=some (.cells [.v (.bool false),.sl [] .nil,.sl [] .nil]):=by rw[hB,Hp.bt]
 refine sr (gP @e0 @fL @Hp.aX @d34 @d46 @d36 @Hp.bt hK.t37 @t2 @kC) ?_
 rw[←hB]
 refine bC (MW B l lM S (hS.mono dm) k o1 o2 o3 gQ mj d bq bg) ?_
 rintro r s1 ⟨h1,hr⟩
 have zu:=hS.lY n3
 have nZ:=hS.lY ti
 obtain⟨Q,hQ⟩: ∃Q,Q=sX d p (fu+1) S k:=⟨_,rfl⟩
 rw[←hQ]
 rw[sX]at hQ
 have g6:=h1 _ _ c6
 have pJ:=Hp.cy dm h1
 cases hg:vf S d k with
 |none=>
  rw[hg]at hr hQ
  obtain rfl:=hr
  simp only at hQ
  subst hQ
  simp -dsimp -implicitDefEqProofs (disch:=first|omega|assumption|(simp only[rL,Nat.reduceAdd];try omega)) only[go_sem,simprocAttr,-List.reduceReplicate,e0,p3,l3]
  refine cP fun x8 n8=> ?_
  have d68:x6≠x8:=by rintro rfl;rw[g6]at n8;cases n8
  have AS:=Hp.cy pJ (Hp.bT (o:= .cells [.v (.int .u8 0),.sl [] .nil,.sl [] .nil]) Hp.aH n8)
  have a6: ∀ob,rI (s1.set x8 ob) x6=some [.v (.bool false),.sl [] .nil,.sl [] .nil]:=fun ob=>Hp.dG (by rw[Hp.aX _ _ d68];exact g6)
  refine sr (c7 @e0 @p3 @l3 @em @t3 @Hp.set_set @a6) ?_
  exact⟨_,Hp.aH,(hS.mono AS).set nZ,(Ext.of AS).set ti,by decide,_,_,_,rfl⟩
 |some n=>
  rw[hg]at hr hQ
  simp only at hQ
  obtain⟨x,y,rfl,sM,av,kv,mx,my,ax,ak,lx,ly⟩:=hr
  obtain⟨Ao,FJ⟩:=HY hg
  obtain⟨LX,P3,P4⟩:=Bt Ao.ok
  simp -dsimp -implicitDefEqProofs (disch:=first|omega|assumption|(simp only[rL,Nat.reduceAdd];try omega)) only[go_sem,simprocAttr,-List.reduceReplicate,e0,p3,l3]
  refine cP fun x8 n8=> ?_
  obtain⟨s2,pM⟩: ∃s2:Hp,s2=s1.set x8 (.cells [.v (.int .u8 (n.kind.toNat:Int)),x,y]):=⟨_,rfl⟩
  have iR:s1.sub s2:=by rw[pM];exact Hp.bT Hp.aH n8
  have c8:s2 x8=some (.cells [.v (.int .u8 (n.kind.toNat:Int)),x,y]):=by rw[pM,Hp.bt]
  have nc:nR s2 n x y av kv:=nR.mono ⟨ax,ak,(Sl.mo mx (by omega) rfl (ax.cells fun _ _=>mA.cells)).mono my.1,Sl.mo my (by omega) rfl (ak.cells fun _ _=>eK.cells),lx,ly⟩ iR
  refine sr (c7 @e0 @p3 @l3 @em @t3 @Hp.set_set @Hp.bt) ?_
  rw[←pM]
  refine bC (Nm n av kv x y s2 nc) ?_
  rintro _ s3 ⟨a,rv,rfl,hA,hM⟩
  simp -dsimp -implicitDefEqProofs (disch:=first|omega|assumption|(simp only[rL,Nat.reduceAdd];try omega)) only[go_sem,simprocAttr,-List.reduceReplicate,e0,p3,l3]
  refine cP fun nH iL=> ?_
  obtain⟨s4,vu⟩: ∃s4:Hp,s4=s3.set nH (.cells [.v (.bool (decide (n.kind=2))),a,y]):=⟨_,rfl⟩
  have nI:s3.sub s4:=by rw[vu];exact Hp.bT Hp.aH iL
  have gP:s4 nH=some (.cells [.v (.bool (decide (n.kind=2))),a,y]):=by rw[vu,Hp.bt]
  simp -dsimp -implicitDefEqProofs (disch:=first|omega|assumption|(simp only[rL,Nat.reduceAdd];try omega)) only[go_sem,simprocAttr,-List.reduceReplicate,e0,p3,l3,em,t3,m0,Hp.set_set,Hp.bt]
  rw[Hp.set_set,←vu]
  have qG:=hM.1
  have ux:=Hp.cy pJ iR
  have G0:=Hp.cy ux (Hp.cy qG nI)
  have Jf:=Hp.cy iR (Hp.cy qG nI)
  have xT:=Hp.iJ (Hp.cy ux qG) iL
  have qy:=hS.lY xT
  have k6:=Jf _ _ g6
  have k3:=Jf _ _ (h1 _ _ c3)
  have BO:x6≠nH:=by rintro rfl;rw[qG _ _ (iR _ _ g6)]at iL;cases iL
  have d106:=Ne.symm BO
  have Oi: ∀b nb cb,y= .mb b nb cb 37→b≠l∧b≠lM∧b≠x6∧b≠nH∧b≠x3:=by
   rintro b nb cb rfl
   obtain⟨w1,C7,w2⟩:=my.own
   have q1:=mx.1 _ _ c6
   have q2:=mx.1 _ _ c3
   have q3:=(hS.mono (Hp.cy dm mx.1)).lY w1
   refine⟨q3.1,q3.2,?_,?_,?_⟩
   ·rintro rfl;rw[q1]at w1;cases w1
   ·rintro rfl;rw[qG _ _ (iR _ _ w2)]at iL;cases iL
   ·rintro rfl;rw[q2]at w1;cases w1
  have IC: ∀b nb cb,a= .mb b nb cb 1→b≠l∧b≠lM∧b≠x6∧b≠nH∧ ∀b2 Jg Jh,y= .mb b2 Jg Jh 37→b2≠b:=by
   rintro b nb cb rfl
   obtain⟨w1,C7,w2⟩:=hM.own
   have q3:=(hS.mono ux).lY w1
   refine⟨q3.1,q3.2,?_,?_,?_⟩
   ·rintro rfl;rw[iR _ _ g6]at w1;cases w1
   ·rintro rfl;rw[w2]at iL;cases iL
   ·rintro b2 Jg Jh rfl rfl
    obtain⟨_,Dr,w3⟩:=my.own
    rw[iR _ _ w3]at w1;cases w1
  by_cases k2:n.kind=2
  ·rw[if_pos k2]at hQ
   have Uu:(n.rows.map Prod.fst).length=n.rows.length:=List.length_map _
   generalize hRs:n.rows.map Prod.fst=rs at*
   have qi:=(Sl.mo hM (by omega) rfl (hA.cells fun _ _=>isRow.cells)).mono nI
   refine sr (c9 @e0 @p3 @l3 @em @t3 @m1 @k2 @decide_true (Hp.aV gP)) ?_
   refine bC (Zt rs rv a p op s4 hA qi (by omega)) ?_
   rintro _ s4 ⟨rfl,hi,rfl⟩
   have aW:xU rs p=true→oV rs p<rs.length:=fun h=>by
    unfold xU at h
    split at h
    ·rename_i q hq;exact(List.getElem?_eq_some_iff.1 hq).1
    ·cases h
   generalize oV rs p=i at*
   cases dP:xU rs p with
   |false=>
    rw[if_neg (by simp[dP])]at hQ
    subst hQ
    refine sr (c7 @e0 @p3 @l3 @em @t3 @Bool.not_false (Hp.dG k6)) ?_
    exact⟨_,Hp.aH,(hS.mono G0).set nZ,(Ext.of G0).set ti,by decide,_,_,_,rfl⟩
   |true=>
    rw[if_pos dP]at hQ
    have ap6:=aW dP
    simp -dsimp -implicitDefEqProofs (disch:=first|omega|assumption|(simp only[rL,Nat.reduceAdd];try omega)) only[go_sem,simprocAttr,-List.reduceReplicate,e0,p3,l3,em,t3,m1,Bool.not_true,Hp.aV gP]
    obtain⟨B6,iC,hB6,_,T8⟩:=MO.kz (MO.mono hM nI)
    rw[vB hA]at iC
    have J6:=hA.len
    refine bC (abu B6 s4 rv a iC i (by omega) (by omega)) ?_
    intro a5 s5 qH
    have P7:cn isRow (rs.take i++rs.drop (i+1)) (rv.take i++rv.drop (i+1)):=(hA.take i).append (hA.drop (i+1))
    rw[←vB P7]at qH
    have P8: ∀q ob,s4 q=some ob→(∀b nb cb,a= .mb b nb cb 1→b≠q)→s5 q=some ob:=fun q ob h h2=>qH.1 _ _ (by rw[T8 q h2];exact h)
    have tS:=P8 _ _ gP fun b nb cb h=>(IC b nb cb h).2.2.2.1
    have j6:=P8 _ _ k6 fun b nb cb h=>(IC b nb cb h).2.2.1
    have DD:s.sub s5:=fun q ob hq=>P8 q ob (G0 _ _ hq) (by
     rintro b nb cb rfl rfl
     have:=hM.own.1
     rw[ux _ _ hq]at this;cases this)
    have ea:a5.cells= [a5]:=DZ qH
    obtain⟨s6,AX⟩: ∃s6:Hp,s6=(s5.set nH (.cells [.v (.bool true),a5,y])).set x6 (.cells [.v (.bool true),a5,y]):=⟨_,rfl⟩
    have a6: ∀ob,rI (s5.set nH ob) x6=some [.v (.bool false),.sl [] .nil,.sl [] .nil]:=fun ob=>Hp.dG (by rw[Hp.aX _ _ BO];exact j6)
    simp only[k2,decide_true]at tS
    simp -dsimp -implicitDefEqProofs (disch:=first|omega|assumption|(simp only[rL,Nat.reduceAdd];try omega)) only[go_sem,simprocAttr,-List.reduceReplicate,e0,p3,l3,em,t3,u1,ea,Hp.dG tS,Hp.bt,a6]
    rw[←AX]
    refine⟨s6,Hp.aH,?_⟩
    subst hQ
    have kJ:eC s6 l lM S:=by rw[AX];exact((hS.mono DD).set qy).set nZ
    have mT:Ext l lM s s6:=by rw[AX];exact((Ext.of DD).set xT).set ti
    refine⟨kJ,mT,a5,y,_,kv,rfl,vI.of (B1:=fun _=>none) (B2:=fun _=>none) P7 ak (MO.emp qH ?_) (MO.emp my ?_) (by simp;omega) (by simp;omega)⟩
    ·rintro b nb cb rfl
     have hb:=qH.own.1
     have w1:b≠nH:=by rintro rfl;rw[T8 _ (fun b nb cb h=>(IC b nb cb h).2.2.2.1),gP]at hb;cases hb
     have w2:b≠x6:=by rintro rfl;rw[T8 _ (fun b nb cb h=>(IC b nb cb h).2.2.1),k6]at hb;cases hb
     rw[AX,Hp.aX _ _ w2,Hp.aX _ _ w1]
    ·rintro b nb cb rfl
     obtain⟨_,C7,w3⟩:=my.own
     have w:=Oi _ _ _ rfl
     rw[AX,Hp.aX _ _ w.2.2.1,Hp.aX _ _ w.2.2.2.1,w3]
     exact P8 _ _ (Jf _ _ w3) fun b2 Jg Jh h=>Ne.symm ((IC b2 Jg Jh h).2.2.2.2 _ _ _ rfl)
  ·have hk3:=FJ.resolve_left k2
   rw[if_neg k2]at hQ
   have P9:=hA.len
   simp -dsimp -implicitDefEqProofs (disch:=first|omega|assumption|(simp only[rL,Nat.reduceAdd];try omega)) only[go_sem,simprocAttr,-List.reduceReplicate,e0,p3,l3,em,t3,k2,decide_false,Hp.aV (nI _ _ (qG _ _ c8))]
   refine bC (Yw n av kv x y p op s4 (nc.mono (Hp.cy qG nI))) ?_
   rintro _ s4 ⟨rfl,rfl⟩
   obtain⟨q0,q1,q2,q3⟩:=Ao.inner hk3
   have hw:uw p n<n.kids.length:=by have:=Rz p (n.kids.map (·.key)) (by intro h;simp at h;rw[h]at q1;simp at q1);rwa[List.length_map]at this
   generalize uw p n=i at*
   have hc:n.kids[i]? =some n.kids[i]:=List.getElem?_eq_getElem hw
   have qx:n.kids[i]'hw∈n.kids:=List.getElem_mem _
   rw[hc]at hQ
   simp only at hQ
   generalize n.kids[i]'hw=c at hc qx hQ
   obtain⟨ca,iB,C6,LR,w1,w2,w3,rfl⟩:=ak.get hc
   obtain⟨_,_,_,aij,csz⟩:=q3 c qx
   have IA:=MO.mono my Jf
   obtain⟨B4,qZ,hB4,_,L1⟩:=IA.kz
   have a1i:s.sub B4:=fun q ob hq=>by
    rw[L1 q (by
     rintro b nb cb rfl rfl
     have:=my.own.1
     rw[mx.1 _ _ (dm _ _ hq)]at this;cases this)]
    exact G0 _ _ hq
   have Ji:B4 nH=some (.cells [.v (.bool (decide (n.kind=2))),a,y]):=by rw[L1 _ (fun b nb cb h=>(Oi b nb cb h).2.2.2.1)];exact gP
   have b6:B4 x6=some (.cells [.v (.bool false),.sl [] .nil,.sl [] .nil]):=by rw[L1 _ (fun b nb cb h=>(Oi b nb cb h).2.2.1)];exact k6
   have b3:B4 x3=some (.cells [.ptr l 0,.v (.int .i64 (d:Int))]):=by rw[L1 _ (fun b nb cb h=>(Oi b nb cb h).2.2.2.2)];exact k3
   obtain⟨p9,e9,gl⟩:=(Sl.mo IA (by omega) rfl (ak.cells fun _ _=>eK.cells)).get i _ iB
   have hC:=eA (o1:=w1) (o2:=w2) (o3:=w3) C6
   rw[e0]at gl
   have gj:=gl.ld s4 Hp.aH true 37 (by omega) (by rw[hC.len];omega)
   rw[show cK true 37 (aS c w1 w2 w3)= .agg (aS c w1 w2 w3) by rw[cK,if_pos rfl,hC.t37]]at gj
   refine sr (qE @e0 @p3 @l3 @em @t3 @kC @t2 @m2 (Hp.aV gP) (Hp.aV k3) @e9 @gj @HE) ?_
   refine bC (ih s4 S c w1 w2 w3 (hS.mono G0) C6 LR (by omega) (by omega)) ?_
   intro r s5 hR
   generalize sX d p fu S c=pr at hQ hR
   obtain⟨res,S'⟩:=pr
   obtain⟨EJ,DD,hR⟩:=hR
   have j6:=DD _ _ nZ.1 nZ.2 k6
   have tS:=DD _ _ qy.1 qy.2 gP
   have j3:=DD _ _ zu.1 zu.2 k3
   cases res with
   |error e=>
    obtain⟨he,b,vt,C8,rfl⟩:=hR
    simp only at hQ EJ
    subst hQ
    simp -dsimp -implicitDefEqProofs (disch:=first|omega|assumption|(simp only[rL,Nat.reduceAdd];try omega)) only[go_sem,simprocAttr,-List.reduceReplicate,e0,p3,l3]
    refine cP fun rO iY=> ?_
    have d14:x6≠rO:=by rintro rfl;rw[j6]at iY;cases iY
    have a6: ∀ob,rI (s5.set rO ob) x6=some [.v (.bool false),.sl [] .nil,.sl [] .nil]:=fun ob=>Hp.dG (by rw[Hp.aX _ _ d14];exact j6)
    have L2:=EJ.lY iY
    have L3:s rO=none:=by
     cases hq:s rO with
     |none=>rfl
     |some o=>have:=DD _ _ L2.1 L2.2 (G0 _ _ hq);rw[iY]at this;cases this
    simp -dsimp -implicitDefEqProofs (disch:=first|omega|assumption|(simp only[rL,Nat.reduceAdd];try omega)) only[go_sem,simprocAttr,-List.reduceReplicate,e0,p3,l3,em,t3,Hp.set_set,he,a6]
    exact⟨_,Hp.aH,(EJ.set L2).set nZ,((((Ext.of G0).trans DD).set L3).set ti),he,_,_,_,rfl⟩
   |ok x'=>
    obtain⟨vt,C8,tU,zD,rfl,hP⟩:=hR
    simp only at hQ EJ
    simp -dsimp -implicitDefEqProofs (disch:=first|omega|assumption|(simp only[rL,Nat.reduceAdd];try omega)) only[go_sem,simprocAttr,-List.reduceReplicate,e0,p3,l3]
    refine cP fun rO iY=> ?_
    obtain⟨s6,AX⟩: ∃s6:Hp,s6=s5.set rO (.cells [.v (.bool x'.leaf),vt,C8]):=⟨_,rfl⟩
    have h56:s5.sub s6:=by rw[AX];exact Hp.bT Hp.aH iY
    have qF:s6 rO=some (.cells [.v (.bool x'.leaf),vt,C8]):=by rw[AX,Hp.bt]
    have ag2:nH≠rO:=by rintro rfl;rw[tS]at iY;cases iY
    have ais:x3≠rO:=by rintro rfl;rw[j3]at iY;cases iY
    have r10: ∀ob,(s5.set rO ob).read nH=some [.v (.bool (decide (n.kind=2))),a,y]:=fun ob=>Hp.aV (by rw[Hp.aX _ _ ag2];exact tS)
    have r3: ∀ob,(s5.set rO ob).read x3=some [.ptr l 0,.v (.int .i64 (d:Int))]:=fun ob=>Hp.aV (by rw[Hp.aX _ _ ais];exact j3)
    refine sr (oS @e0 @p3 @l3 @em @t3 @kC @t2 @m2 @Hp.set_set @Hp.bt @r10 @r3) ?_
    rw[←AX]
    have ait:MS B4 s6 l lM S' 37 (flat kv) y:=MS.mono ((MS.of qZ (hS.mono a1i) Ext.refl:MS B4 s4 l lM S 37 (flat kv) y).step DD EJ) h56
    obtain⟨B5,qH,FV,Oj⟩:=ait
    refine bC (a7f B5 s6 l lM S' FV n.kids kv y qH ak x' vt C8 tU zD (hP.mono h56) q1 (by omega) i hw d bq bg) ?_
    intro r s7 hK
    have Pa:=fun S2 ks' h=>a7g (S:=S') (S':=S2) (d:=d) (i:=i) (ks:=n.kids) (ks':=ks') (x:=x') h q2 ⟨hP.lr,hP.lk⟩
    generalize xO S' d n.kids i x'=pr at hQ hK Pa
    obtain⟨res,S2⟩:=pr
    have fin: ∀(r2:AV),eC s7 l lM S2→Ext l lM B5 s7→s7 x6=some (.cells [.v (.bool false),.sl [] .nil,.sl [] .nil])∧s7 nH=some (.cells [.v (.bool (decide (n.kind=2))),a,y])∧
      ∃s9:Hp,s9=(s7.set nH (.cells [.v (.bool (decide (n.kind=2))),a,r2])).set x6 (.cells [.v (.bool (decide (n.kind=2))),a,r2])∧eC s9 l lM S2∧Ext l lM s s9:=by
     intro r2 w1 w2
     have w3:=Oj.trans w2
     exact⟨w3 _ _ nZ.1 nZ.2 b6,w3 _ _ qy.1 qy.2 Ji,_,rfl,(w1.set qy).set nZ,((((Ext.of a1i).trans w3).set xT).set ti)⟩
    cases res with
    |error e=>
     obtain⟨mD,nG,he,a7,rfl,UK⟩:=hK
     simp only at hQ mD
     subst hQ
     obtain⟨i6,i10,s9,nY,xq,wh⟩:=fin a7 mD nG
     have a6: ∀ob,rI (s7.set nH ob) x6=some [.v (.bool false),.sl [] .nil,.sl [] .nil]:=fun ob=>Hp.dG (by rw[Hp.aX _ _ BO];exact i6)
     simp -dsimp -implicitDefEqProofs (disch:=first|omega|assumption|(simp only[rL,Nat.reduceAdd];try omega)) only[go_sem,simprocAttr,-List.reduceReplicate,e0,p3,l3,em,t3,u2,UK,Hp.dG i10,Hp.bt,a6]
     rw[←nY]
     exact⟨_,Hp.aH,xq,wh,he,_,_,_,rfl⟩
    |ok ks'=>
     obtain⟨kv7,a7,yp,rfl,su⟩:=hK
     have tk:=Pa S2 ks' rfl
     simp only at hQ su
     subst hQ
     obtain⟨i6,i10,s9,nY,xq,wh⟩:=fin a7 su.Dv su.ext
     have a6: ∀ob,rI (s7.set nH ob) x6=some [.v (.bool false),.sl [] .nil,.sl [] .nil]:=fun ob=>Hp.dG (by rw[Hp.aX _ _ BO];exact i6)
     obtain⟨B7,Ok,ap7,T9⟩:=su
     have UK:a7.cells= [a7]:=DZ Ok
     simp -dsimp -implicitDefEqProofs (disch:=first|omega|assumption|(simp only[rL,Nat.reduceAdd];try omega)) only[go_sem,simprocAttr,-List.reduceReplicate,e0,p3,l3,em,t3,u2,UK,Hp.dG i10,Hp.bt,a6]
     rw[←nY]
     have kf:decide (n.kind=2)=false:=decide_eq_false k2
     rw[kf]
     have Ar:=Oj.trans (T9.trans (Ext.of Ok.1))
     refine⟨_,Hp.aH,xq,wh,a,a7,rv,kv7,rfl,vI.of (B1:=fun _=>none) (B2:=fun _=>none) hA yp (MO.emp (MO.mono hM nI) ?_) (MO.emp Ok ?_) (by simp;omega) tk⟩
     ·rintro b nb cb rfl
      have w:=IC _ _ _ rfl
      obtain⟨_,C7,w3⟩:=hM.own
      rw[nY,Hp.aX _ _ w.2.2.1,Hp.aX _ _ w.2.2.2.1,nI _ _ w3]
      exact Ar _ _ w.1 w.2.1 (by rw[L1 _ (fun b2 Jg Jh h=>w.2.2.2.2 b2 Jg Jh h)];exact nI _ _ w3)
     ·rintro b nb cb rfl
      have hb:=Ok.own.1
      have v10:=T9 _ _ qy.1 qy.2 (Oj _ _ qy.1 qy.2 Ji)
      have v6:=T9 _ _ nZ.1 nZ.2 (Oj _ _ nZ.1 nZ.2 b6)
      have w1:b≠nH:=by rintro rfl;rw[v10]at hb;cases hb
      have w2:b≠x6:=by rintro rfl;rw[v6]at hb;cases hb
      rw[nY,Hp.aX _ _ w2,Hp.aX _ _ w1]
end Go.Proofs.YtonldhgdjjfahaaGreat
