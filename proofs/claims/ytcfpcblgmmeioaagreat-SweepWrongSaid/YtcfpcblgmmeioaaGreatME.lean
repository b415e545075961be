import Derived.Test.YtcfpcblgmmeioaaGreatMD
import Derived.Test.YtcfpcblgmmeioaaGreatMC
set_option linter.all false
open Option renaming some->β,none->ε
open Go.Proofs.Tryz renaming prog->γ
open List renaming replicate->ζ,range->ψ,length_append->Γ,getElem?_eq_some_iff->Ε,take_of_length_le->Θ,length->α
open Bool renaming true->η,false->ι
open Go.bt.U renaming a6->θ,af->κ,ag->μ,aj->ν,al->ξ,au->ο,set_set->σ,aK->χ,bH->Μ
open BitVec renaming ofInt->π
open UInt8 renaming ofNat->ς
open Go.bt.R renaming cells->τ
open Go.Proofs.YtcfpcblgmmeioaaGreat.isRow renaming cells->φ
open Go.Proofs.YtcfpcblgmmeioaaGreat.Ext renaming of->ω
open Prod renaming fst->Β
open Go.Proofs.YtcfpcblgmmeioaaGreat.bu renaming cells->Η
set_option maxRecDepth 100000
namespace Go.Proofs.YtcfpcblgmmeioaaGreat
open Go Go.bt
variable{e i v M b9 h9:Nat}
theorem CC(b:e<18446744073709551616)(c:i<18446744073709551616):br .xor (.int .u64 (e:Int)) (.int .u64 (i:Int))=β (.int .u64 ((e^^^i:Nat):Int)):=by
 have d:br .xor (.int .u64 (e)) (.int .u64 (i))=β (.int .u64 (IntKind.u64.wrap (π 64 (e)^^^π 64 (i)).toNat)):=rfl;have h:∀a:Nat,a<18446744073709551616->(π 64 (a)).toNat=a:=λa k=>by simp;omega
 grind[Nat.xor_lt_two_pow,BitVec.toNat_xor,wrap_u64]
def nL(a:Int):cp a<18446744073709551616:=(π 64 a^^^π 64 9223372036854775808).isLt
def CD(b:Int)(a:U):AC γ 154 [.v (.int .i64 b)] a λc d=>d=a/\c=.v (.int .u64 (cp b:Int)):=by refine aZ hm MA ρ ?_;refine ai @BH ?_;exact⟨a,θ,rfl⟩
def Xk(a:Int)(b:U):AC γ 153 [.v (.int .i64 a)] b λd h=>h=b/\d=.v (.bool (decide (1<=a)&&decide (a<=8))):=by
 refine aZ hm My ρ ?_;by_cases c:1<=a
 .refine ai @c ?_;exact⟨b,θ,by simp[]⟩
 .refine ai @c ?_;exact⟨b,θ,by simp[]⟩
def gi(b:(Int×Int)×Nat)(a:Int×Int):(Int×Int)×Nat:=
 if b.2<cp a.1^^^cp a.2/\b.2<b.2^^^(cp a.1^^^cp a.2)then(a,cp a.1^^^cp a.2)else b
def bq(a b:Ρ):Bool:=
 if 1<=α a/\α a<=8/\α b=α a then
  decide (((a.zip b).foldl gi ((a.zip b).headD (0,0),0)).1.1<((a.zip b).foldl gi ((a.zip b).headD (0,0),0)).1.2)
 else ι
theorem wT(a c:Ρ)(j l:Own)(E:U):
  AC γ 92 [.J (ab a) j,.J (ab c) l] E λK P=>P=E/\K=.v (.bool (bq a c)):=by
 refine aZ hm L4 ρ ?_;have D:=bK (n:=a);have S:=bK (n:=c);refine ai @D ?_;refine ak (Xk _ _) ?_;rintro _ E⟨rfl,rfl⟩;unfold bq;by_cases h1:1<=α a/\α a<=8
 .have m:(1:Int)<=α a:=δ;have n:(α a:Int)<=8:=δ;by_cases q:(α c:Int)=α a
  .have T:α c=α a:=δ;rw[if_pos ⟨h1.1,h1.2,T⟩];refine ai (bx @D @S @m @n @q @a3E) ?_;have k0:(a.zip c).length=α a:=by simp[T]
   have s:∀b,b<α a->∃d,(a.zip c)[b]?=β d/\a[b]?=β d.1/\c[b]?=β d.2:=λb M=>by
    simp_all
   obtain⟨F,G,N,O⟩:=s 0 δ;have Q:(a.zip c).headD (0,0)=F:=by
    cases t:a.zip c with
    |nil=>rw[t]at G;cases G
    |cons k2 k3=>rw[t]at G;simpa using G
   rw[Q];refine cz (λk P=>∃(b o:Nat)(h:(Int×Int)×Nat),b<=α a/\o<α a/\P=E/\h=((a.zip c).take b).foldl gi (F,0)/\h.2<18446744073709551616/\a[o]?=β h.1.1/\c[o]?=β h.1.2/\
     k 0=.J (ab a) j/\k 1=.J (ab c) l/\k 5=.v (.int .i64 o)/\k 6=.v (.int .u64 h.2)/\k 21=.v (.int .i64 (α a))/\k 22=.v (.int .i64 b))
    (λk _=>match k 22 with|.v (.int _ X)=>α a - X.toNat|_=>0) ⟨0,0,(F,0),δ,δ,rfl,ρ,ρ,N,O,?_⟩ ?_
   .exact cn @D
   rintro k u⟨b,o,h,M,v,rfl,V,L,W,e,p,r,x,y,z,C⟩;by_cases f:(b:Int)<α a
   .obtain⟨d,Y,w,A⟩:=s b δ;have Z:((a.zip c).take (b+1)).foldl gi (F,0)=gi h d:=by rw[a3W,Y,a5j,<-V];rfl
    simp -dsimp -implicitDefEqProofs (disch:=first|omega|assumption|(simp only[aR,Nat.reduceAdd];try omega)) only[go_sem,simprocAttr,-List.reduceReplicate,p,r,x,y,z,C,f,fL w,fL A,nI];refine ak (CD d.1 _) ?_;rintro _ u⟨rfl,rfl⟩;simp -dsimp -implicitDefEqProofs (disch:=first|omega|assumption|(simp only[aR,Nat.reduceAdd];try omega)) only[go_sem,simprocAttr,-List.reduceReplicate,p,r,x,y,z,C,f,fL w,fL A,nI];refine ak (CD d.2 _) ?_;rintro _ u⟨rfl,rfl⟩;have B:cp d.1^^^cp d.2<18446744073709551616:=a5u (n:=64) (nL _) (nL _);have k4:h.2^^^(cp d.1^^^cp d.2)<18446744073709551616:=a5u (n:=64) L B;have g:=CC (nL d.1) (nL d.2);have i:=CC L B;rw[gi]at Z;generalize cp d.1^^^cp d.2=H at*;by_cases bm:(h.2)<(H:Int)
    .by_cases I:(h.2)<((h.2^^^H):Int)
     .simp -dsimp -implicitDefEqProofs (disch:=first|omega|assumption|(simp only[aR,Nat.reduceAdd];try omega)) only[go_sem,simprocAttr,-List.reduceReplicate,p,r,x,y,z,C,g,i,bm,I];grind
     .simp -dsimp -implicitDefEqProofs (disch:=first|omega|assumption|(simp only[aR,Nat.reduceAdd];try omega)) only[go_sem,simprocAttr,-List.reduceReplicate,p,r,x,y,z,C,g,i,bm,I];refine⟨⟨b+1,o,h,δ,v,?_,L,W,e,?_⟩,δ⟩
      .grind
      .simp
    .simp -dsimp -implicitDefEqProofs (disch:=first|omega|assumption|(simp only[aR,Nat.reduceAdd];try omega)) only[go_sem,simprocAttr,-List.reduceReplicate,p,r,x,y,z,C,g,i,bm];refine⟨⟨b+1,o,h,δ,v,?_,L,W,e,?_⟩,δ⟩
     .grind
     .simp
   .obtain rfl:b=α a:=δ;rw[a2U δ]at V;simp -dsimp -implicitDefEqProofs (disch:=first|omega|assumption|(simp only[aR,Nat.reduceAdd];try omega)) only[go_sem,simprocAttr,-List.reduceReplicate,p,r,x,y,z,C,f,fL W,fL e,nI];exact⟨_,θ,rfl,by rw[V]⟩
  .have T:¬α c=α a:=δ;refine ai (bx @D @S @m @n @q @a3E) ?_;exact⟨_,θ,rfl,by simp_all⟩
 .have:(decide ((1:Int)<=α a)&&decide ((α a:Int)<=8))=false:=by grind
  refine ai (aL @D @S @this @a3H) ?_;exact⟨_,θ,rfl,by grind⟩
def jY(a b:Ρ):Int:=if bq a b=η then -1 else if bq b a=η then 1 else 0
def wU(a b:Ρ)(d h:Own)(c:U):
  AC γ 47 [.J (ab a) d,.J (ab b) h] c λk o=>o=c/\k=.v (.int .i64 (jY a b)):=by
 refine aZ hm JQ ρ ?_;refine bJ ?_;refine ak (wT a b d h c) ?_;rintro _ c⟨rfl,rfl⟩;unfold jY;cases h1:bq a b with
 |true=>refine bJ ?_;exact⟨_,θ,rfl⟩
 |false=>
  refine bJ ?_;refine ak (wT b a h d c) ?_;rintro _ c⟨rfl,rfl⟩;cases p:bq b a with
  |true=>refine bJ ?_;exact⟨_,θ,rfl⟩
  |false=>refine bJ ?_;exact⟨_,θ,rfl⟩
end Go.Proofs.YtcfpcblgmmeioaaGreat
namespace Go.a1
variable{b0:Type}
def dW:Nat->List b0->List (List b0)
 |0,_=>[]
 |b+1,a=>a.take (α a/(b+1)+if 0<α a%(b+1)then 1 else 0)::dW b (a.drop (α a/(b+1)+if 0<α a%(b+1)then 1 else 0))
def bI(a:Nat):Nat:=(a+3)/4
def chunks(a:List b0):List (List b0):=dW (bI (α a)) a
theorem CE:∀(a:Nat)(b:List b0),dW a b=(ψ a).map λh=>(b.drop (h*(α b/a)+min h (α b%a))).take (α b/a+if h<α b%a then 1 else 0)
 |0,b=>rfl
 |a+1,b=>by
  have y:=a5I (α b) (a+1);have z:=a4O (α b) (a7m a);simp only[dW];generalize C:α b/(a+1)=d at*;generalize D:α b%(a+1)=c at*;rw[CE a,a6N,a3q,a4N];congr 1
  .simp
  .by_cases p:a=0
   .subst p;simp
   have k:(b.drop (d+if 0<c then 1 else 0)).length=d*a+(c - if 0<c then 1 else 0):=by grind
   have o:c -(if 0<c then 1 else 0)<a:=by split<;>omega
   have r:(b.drop (d+if 0<c then 1 else 0)).length/a=d:=by rw[k,a7l,Nat.mul_add_div δ,Nat.div_eq_of_lt o];rfl
   have x:(b.drop (d+if 0<c then 1 else 0)).length%a=c - if 0<c then 1 else 0:=by rw[k,a7l,Nat.mul_add_mod,a4A o]
   rw[r,x];refine a4t λh E=>?_;simp only[Function.comp,a3G];grind
def CF:∀(a:Nat)(b:List b0),(0<a\/b=[])->(dW a b).flatten=b
 |0,b,c=>by rcases c with c|c;(·omega);(·subst c;rfl)
 |a+1,b,_=>by
  simp only[dW,a4C];rw[CF a,a3y];by_cases d:a=0
  .right;subst d;simp
  .left;omega
def chunks_flatten(a:List b0):(chunks a).flatten=a:=CF _ _ (by
 cases a with
 |nil=>simp
 |cons b a=>left;simp only[bI,a3e];omega)
theorem nM{a:List b0}(b:1<=α a)(c:α a<=4):chunks a=[a]:=by
 have:bI (α a)=1:=by unfold bI;omega
 simp[chunks,this,dW,Nat.mod_one]
theorem rU{a:List b0}(b:α a=5):chunks a=[a.take 3,a.drop 3]:=by simp_all [bI,chunks,dW,a2U]
abbrev Row:=Ρ
structure wV where
 rows:List Row
structure wW(a:Type) where
 kids:List a
def T:Nat->Type
 |0=>wV
 |a+1=>wW (T a)
def leaf(a:List Row):T 0:=wV.mk a
variable{e i v M b9 h9:Nat}
def node(a:List (T e)):T (e+1):=wW.mk a
def rows(a:T 0):List Row:=wV.rows a
def kids{a:Nat}(b:T (a+1)):List (T a):=wW.kids b
variable{h8:List Row}
theorem qh:rows (leaf h8)=h8:=rfl
theorem eM{a:List (T e)}:kids (node a)=a:=rfl
def iB(a:T 0):∃b,a=leaf b:=⟨rows a,rfl⟩
def gB(a:T (e+1)):∃b,a=node b:=⟨kids a,rfl⟩
def len: {b:Nat}->T b->Nat
 |0,a=>(rows a).length
 |_+1,a=>(kids a).length
def aW:(a:Nat)->T a->List Row
 |0,b=>rows b
 |a+1,b=>(kids b).flatMap (aW a)
theorem hR:len (leaf h8)=α h8:=rfl
def dH{a:List (T e)}:len (node a)=α a:=rfl
theorem iC:aW 0 (leaf h8)=h8:=rfl
theorem fA{a:List (T e)}:aW (e+1) (node a)=a.flatMap (aW e):=rfl
theorem CG(a:List Row):((chunks a).map leaf).flatMap (aW 0)=a:=by
 conv=>rhs;rw[<-chunks_flatten a]
 rw[a5W,a4N];congr 1;exact List.map_id _
theorem CH(a:List (T e)):((chunks a).map node).flatMap (aW (e+1))=a.flatMap (aW e):=by
 conv=>rhs;rw[<-chunks_flatten a]
 induction chunks a with
 |nil=>rfl
 |cons b c ih=>rw[a3q,a3A,ih,a4C,a3S];rfl
def WF:(b:Nat)->T b->Prop
 |0,a=>2<=len a/\len a<=4
 |b+1,a=>2<=len a/\len a<=4/\∀c∈kids a,WF b c
def kG:(a:Nat)->T a->Prop
 |0,_=>True
 |a+1,b=>∀c∈kids b,WF a c
theorem gC{a:T e}:WF e a↔2<=len a/\len a<=4/\kG e a:=by
 cases e with
 |zero=>simp[WF,kG]
 |succ e=>rfl
def jc(b:Nat)(a:T b):Prop:=1<=len a/\len a<=4/\kG b a/\(0<b->2<=len a)
theorem jc.of{a:T e}(b:WF e a):jc e a:=by have:=gC.1 b;exact⟨δ,this.2.1,this.2.2,λ_=>this.1⟩
def wX:∀ {a:T e},1<=len a->kG e a->aW e a≠[]:=by
 induction e with
 |zero=>intro a c _ b;obtain⟨d,rfl⟩:=iB a;rw[iC]at b;subst b;trivial
 |succ e ih=>
  intro a c h b;obtain⟨d,rfl⟩:=gB a;rw[dH]at c
  match d,c with
  |k::d,_=>rw[fA,a3A]at b;have o:=gC.1 (h k a4H);exact ih δ o.2.2 (List.append_eq_nil_iff.1 b).1
def cI(a:Nat)(b:T a):Row:=(aW a b).headD []
section
variable(lt:Row->Row->Bool)
structure Ord(ok:Row->Prop):Prop where
 jd:∀p,lt p p=ι
 trans:∀p a r,ok p->ok a->ok r->lt p a=η->lt a r=η->lt p r=η
 total:∀p a,ok p->ok a->lt p a=ι->lt a p=ι->p=a
def cL(a:Row):List Row->Nat
 |_::b::c=>if lt a b then 0 else cL a (b::c)+1
 |_=>0
def dF(c:List Row)(a:Row):List Row:=c.takeWhile (λb=>lt b a)++a::c.dropWhile (λb=>lt b a)
def et(c:Row):(b:Nat)->T b->List (T b)
 |0,a=>(chunks (dF lt (rows a) c)).map leaf
 |b+1,a=>
  match(kids a)[cL lt c ((kids a).map (cI b))]? with
  |some d=>(chunks ((kids a).take (cL lt c ((kids a).map (cI b)))++et c b d++(kids a).drop (cL lt c ((kids a).map (cI b))+1))).map node
  |none=>[]
def jZ: {a:Nat}->T a->T a->List (T a)
 |0,b,c=>(chunks (rows b++rows c)).map leaf
 |_+1,b,c=>(chunks (kids b++kids c)).map node
def kH(b:List (T e))(a:Nat)(c:T e):List (T e):=
 if 2<=len c then b.set a c
 else match b[if a=0 then 1 else a - 1]? with
  |some d=>b.take (a - 1)++(if a=0 then jZ c d else jZ d c)++b.drop (a - 1+2)
  |none=>[]
def cD(c:Row):(b:Nat)->T b->T b
 |0,a=>leaf ((rows a).filter λd=>decide (d≠c))
 |b+1,a=>
  match(kids a)[cL lt c ((kids a).map (cI b))]? with
  |some h=>node (kH (kids a) (cL lt c ((kids a).map (cI b))) (cD c b h))
  |none=>a
end
theorem CI(c:2<=α h8)(d:α h8<=5):(∀b∈(chunks h8).map leaf,WF 0 b)/\1<=(chunks h8).length/\(chunks h8).length<=2/\(α h8<=4->(chunks h8).length=1):=by
 by_cases a:α h8=5
 .rw[rU a];simp[WF,a,hR]
 .rw[nM δ δ];simp only[a3q,a4L,a3s,forall_eq,a4u,WF,hR];grind
theorem CJ{a:List (T e)}(d:2<=α a)(h:α a<=5)(k:∀b∈a,WF e b):(∀b∈(chunks a).map node,WF (e+1) b)/\1<=(chunks a).length/\(chunks a).length<=2/\(α a<=4->(chunks a).length=1):=by
 by_cases c:α a=5
 .rw[rU c];simp only[a3q,a4L,a3n,a4r,or_false,forall_eq_or_imp,forall_eq,a3e,a3a,WF,dH,eM];grind
 .rw[nM δ δ];simp only[a3q,a4L,a3s,forall_eq,a4u,WF,dH,eM];grind
variable{e9:Row}
section
variable{lt:Row->Row->Bool}{ok:Row->Prop}
abbrev gD(a:Row->Row->Bool)(b:List Row):Prop:=b.Pairwise λc d=>a c d=η
theorem wY{a:List Row}(c:∀b∈h8,lt b e9=η):dF lt (h8++a) e9=h8++dF lt a e9:=by unfold dF;simp_all
theorem Xl{b:List Row}(h:∀a∈h8,lt a e9=ι):dF lt (b++h8) e9=dF lt b e9++h8:=by
 have c:h8.takeWhile (λa=>lt a e9)=[]/\h8.dropWhile (λa=>lt a e9)=h8:=by
  cases h8 with
  |nil=>trivial
  |cons k h8=>simp_all
 induction b with
 |nil=>simp[dF,c.1,c.2]
 |cons d b ih=>unfold dF at ih|-;by_cases bS:lt d e9=η;simp_all;simp_all
theorem rV{a:Row}:e9∈dF lt h8 a↔e9=a\/e9∈h8:=by grind[dF,List.takeWhile_append_dropWhile]
theorem nN:(dF lt h8 e9).length=α h8+1:=by unfold dF;have:=congrArg α (a3F (p:=λa=>lt a e9) (l:=h8));grind
def Xm(p:Ord lt ok)(r:gD lt h8)(h:∀c∈h8,ok c)(x:ok e9)(y:e9∉h8):gD lt (dF lt h8 e9):=by
 induction h8 with
 |nil=>simp[dF]
 |cons a h8 ih=>
  have k:=a3x.1 r;have ih:=ih k.2 (λc b=>h c (by simp[b])) (λo=>y (by simp[o]));by_cases bS:lt a e9=η
  .have d:dF lt (a::h8) e9=a::dF lt h8 e9:=wY (h8:=[a]) (by simpa using bS);rw[d];refine a3x.2 ⟨λc b=>?_,ih⟩;rcases rV.1 b with rfl|b
   .exact bS
   .exact k.1 c b
  .have d:dF lt (a::h8) e9=e9::a::h8:=by simp[dF,bS]
   rw[d];have z:lt e9 a=true:=by
    cases o:lt e9 a with
    |true=>rfl
    |false=>exact absurd (p.total e9 a x (h a ρ) o (by simpa using bS)) (λd=>y (by simp[d]))
   refine a3x.2 ⟨λc b=>?_,r⟩;rcases a3n.1 b with rfl|b
   .exact z
   .exact p.trans e9 a c x (h a ρ) (h c (by simp[b])) z (k.1 c b)
theorem CK(p:Ord lt ok){d:Row}(r:ok d):∀(h:List (List Row)),h≠[]->(∀D∈h,D≠[])->gD lt h.flatten->(∀a∈h.flatten,ok a)->
  cL lt d (h.map (·.headD []))<α h/\(∀a∈(h.take (cL lt d (h.map (·.headD [])))).flatten,lt a d=η)/\(∀a∈(h.drop (cL lt d (h.map (·.headD []))+1)).flatten,lt d a=η)
 |[],V,_,_,_=>absurd rfl V
 |[W],_,_,_,_=>by simp[cL]
 |W::k::x,_,e,m,y=>by
  simp only[a3q,cL];obtain⟨c,z,C⟩:∃c z,k=c::z:=by
   cases C:k with
   |nil=>simp_all
   |cons c z=>simp
  have G:k.headD []=c:=by rw[C];rfl
  have E:=y c (by simp[C]);have F:gD lt (k::x).flatten:=by grind
  rw[G];by_cases o:lt d c=η
  .rw[if_pos o];refine⟨ρ,ρ,λa b=>?_⟩;simp only[a5o,a4P]at b;have f:(k::x).flatten=c::(z++x.flatten):=by rw[C];rfl
   rw[f]at b F;rcases a3n.1 b with rfl|b
   .exact o
   .refine p.trans d c a r E (y a ?_) o ((a3x.1 F).1 a b);simp_all
  .rw[if_neg o];have ih:=CK p r (k::x) ρ (λD L=>e D (by simp at L|-;exact .inr L)) F (λa b=>y a (by simp_all));simp only[a3q,G]at ih;obtain⟨g,i,j⟩:=ih;refine⟨by simp at g|-;omega,λa b=>?_,λa b=>j a (by trivial)⟩;simp only[a6i,a4C,a3f]at b;rcases b with b|b
   .
    have P:lt a c=true:=by grind
    by_cases S:c=d
    .rw[<-S];exact P
    .have l:=y a (by simp[b]);cases T:lt c d with
     |true=>exact p.trans a c d l E r P T
     |false=>exact absurd (p.total c d E r T (by simpa using o)) S
   .exact i a b
end
end Go.a1
namespace Go.Proofs.YtcfpcblgmmeioaaGreat
open Go Go.bt
variable{b4:FuncId}{g A c0:Χ}
theorem Xn(a:List Ρ)(z:Χ)(k:R)(d:U)(C:aC isRow a z)(D:bM d 1 k z)(u:α a<=1000000000000){h:Ρ->Bool}(E:gz isRow d b4 g A h):
  AC γ 142 [k,.bA b4 g A] d λe o=>o=d/\∃F:Int,e=.v (.int .i64 F)/\decide (0<=F)=a.any h:=by
 refine aZ hm Ms ρ ?_;have f:=C.len;have i:=D.len;rw[f]at i;refine aa ?_;refine cz (λc o=>∃b:Nat,b<=α a/\o=d/\c 0=k/\c 1=.bA b4 g A/\c 7=.v (.int .i64 (α a))/\c 8=.v (.int .i64 b)/\(a.take b).any h=ι)
  (λc _=>match c 8 with|.v (.int _ j)=>α a - j.toNat|_=>0) ⟨0,δ,rfl,?_⟩ ?_
 .refine aa ?_;simp
 rintro c p⟨b,v,rfl,G,L,P,S,T⟩;by_cases V:(b)<(α a:Int)
 .have r:a[b]?=β a[b]:=Ν δ;have l:a.take (b+1)=a.take b++[a[b]]:=by rw[a3W,r];rfl
  have m:a[b]'δ∈a:=a3r _;generalize a[b]'δ=W at r l m;obtain⟨x,n,y⟩:=C.get r;obtain⟨q,w,s⟩:=D.get b x n;have B:cV ι 1 p q=β x:=by have t:=s.ld p θ ι 1 δ (by rw[φ y];omega);rw[t];obtain⟨H,rfl⟩:=y;rfl
  refine aa ?_;refine eC E.1 (E.2 W x _ y θ) ?_;rintro _ p⟨rfl,rfl⟩;cases I:h W with
  |true=>refine ai (ba @G @L @P @S @V) ?_;refine⟨_,θ,rfl,_,rfl,?_⟩;grind
  |false=>refine aa ?_;grind
 .obtain rfl:b=α a:=δ;refine ai (ba @G @L @P @S @V) ?_;rw[a3K]at T;exact⟨_,θ,rfl,_,rfl,by rw[T];simp⟩
def CL(b:List Ρ)(c:Χ)(d:R)(a:U)(k:aC isRow b c)(o:bM a 1 d c)(p:α b<=1000000000000){h:Ρ->Bool}(r:gz isRow a b4 g A h):
  AC γ 88 [d,.bA b4 g A] a λx y=>y=a/\x=.v (.bool (b.any h)):=by
 refine aZ hm KW ρ ?_;refine aa ?_;refine ak (Xn b c d a k o p r) ?_;rintro _ C⟨rfl,D,rfl,z⟩;refine bJ ?_;exact⟨_,θ,rfl,by rw[z]⟩
def Xo(c:Int)(b:Ρ)(d:R)(r:isRow b d)(a:U)(h:Nat)(k:a.read h=β [.v (.int .i64 c)]):
  AC γ 89 [d,.ptr h 0] a λx y=>y=a/\x=.v (.bool (!decide ((α b:Int)=c))):=by
 obtain⟨z,rfl⟩:=r;refine aZ hm KY ρ ?_;have o:=bK (n:=b);by_cases p:(α b)=c
 .refine ai (aE @o @k @p) ?_;exact⟨a,θ,by simp[]⟩
 .refine ai (aE @o @k @p) ?_;exact⟨a,θ,by simp[]⟩
def nO(a:Int)(b:List Ρ):Bool:=decide (1<=a)&&decide (a<=8)&&b.all λc=>decide ((α c:Int)=a)
theorem wZ(a:Int)(c:List Ρ)(d:Χ)(h:R)(b:U)(x:aC isRow c d)(y:bM b 1 h d)(z:α c<=1000000000000):
  AC γ 44 [.v (.int .i64 a),h] b λC k=>k=b/\C=.v (.bool (nO a c)):=by
 refine aZ hm JI ρ ?_;refine aa ?_;refine aO λo D=>?_;have p:=μ (X:=.cells [.v (.int .i64 a)]) (θ) D;have c2:(b.set o (.cells [.v (.int .i64 a)])) o=β (.cells [.v (.int .i64 a)]):=ν _ _ _;unfold nO;by_cases h1:1<=a
 .by_cases r:a<=8
  .refine aa ?_;refine ak (CL c d h _ x (y.mono p) z (b4:=89) ⟨by rfl,λE F k G L=>Xo a E F G k o (κ (L _ _ c2))⟩) ?_;rintro _ _⟨rfl,rfl⟩;refine bJ ?_;refine⟨b,p,rfl,?_⟩;rw[List.any_eq_not_all_not];simp[h1,r]
  .simp -dsimp -implicitDefEqProofs (disch:=first|omega|assumption|(simp only[aR,Nat.reduceAdd];try omega)) only[go_sem,simprocAttr,-List.reduceReplicate,h1,r];simp_all
 .refine ai @h1 ?_;simp_all
theorem tL(a:Nat)(h:a<=1000000000000)(b:U):AC γ 51 [.v (.int .i64 (a:Int))] b λc d=>d=b/\c=.v (.int .i64 (a1.bI a:Int)):=by refine aZ hm JY ρ ?_;refine bJ ?_;refine⟨b,θ,rfl,?_⟩;grind[a1.bI,wrap_i64]
def dr(a:ad)(c:Nat)(b:bQ):Except Int an×ad:=
 match fg c b with
 |none=>(.error 1,a)
 |some d=>(.ok d,eV a (da b))
def cR(a:List Ρ):bQ:=⟨2,a.map λb=>(b,η),[]⟩
def dT(a:List an):bQ:=⟨3,[],a⟩
abbrev dz(a b:Nat):R:=.agg [.ptr a 0,.v (.int .i64 (b:Int))]
def gj(d:Except Int an)(b:R):Prop:=
 match d with
 |.error c=>c≠0/\b=.aF [.agg (ae aB .nil .nil .nil),.v (.int .i64 c)]
 |.ok a=>α a.sum=32/\a.cH/\∃h k o,b=.aF [.agg (ae a h k o),.v (.int .i64 0)]
variable{q b7:R}
theorem gj.shape{c:Except Int an}(d:gj c q):∃a h k o b,α a.sum=32/\q=.aF [.agg (ae a h k o),.v (.int .i64 b)]:=by
 cases c with
 |error b=>exact⟨aB,_,_,_,b,bg,d.2⟩
 |ok a=>obtain⟨p,_,h,k,o,r⟩:=d;grind
variable{f u e1:U}{e i v M b9 h9:Nat}{H:ad}
def bh.ct(a:bh f i v H)(b:f e=ε):e≠i/\e≠v:=by
 refine⟨?_,?_⟩
 .rintro rfl;obtain⟨_,_,a⟩:=a.at_;rw[a]at b;cases b
 .rintro rfl;obtain⟨_,⟨_,_,a,_⟩,_⟩:=a.mp;rw[a]at b;cases b
theorem bh.set{d:U}{a b c:Nat}{h:ad}{ob:bl}(o:bh d a b h)(k:c≠a/\c≠b):bh (d.set c ob) a b h:=o.other (ξ _ _ (Ζ k.1)) (ξ _ _ (Ζ k.2))
def x0(d:U)(h k:Nat)(o:ad)(C:bh d h k o)(c:bQ)(D E:Χ)(r x:R)(b:Nat)(G:1<=b)(y:b<=8)(L:fj d c r x D E):
  AC γ 93 [.ptr h 0,jb c r x,.v (.int .i64 (b:Int))] d λF z=>bh z h k (dr o b c).2/\Ext h k d z/\gj (dr o b c).1 F:=by
 refine(Xb d h k o C c D E r x b G y L).mono λF z a=>?_;unfold dr;cases p:fg b c with
 |none=>rw[p]at a;exact⟨C.mono a.1,ω a.1,Λ,a.2⟩
 |some P=>rw[p]at a;exact⟨a.1,a.2.1,(tI y p).1,Ct y p,a.2.2⟩
theorem x3(D:U)(E e:Nat)(f:ad)(X:bh D E e f)(c:List Ρ)(h:Χ)(q:R)(x:Nat)(n4:1<=x)(n5:x<=8)(g:aC isRow c h)(Y:bM D 1 q h)(n9:α c<=100000):
  AC γ 52 [dz E x,q] D λr y=>bh y E e (dr f x (cR c)).2/\Ext E e D y/\gj (dr f x (cR c)).1 r:=by
 refine aZ hm K0 ρ ?_;have s:∀Z,(R.agg Z).cells=Z:=λ_=>rfl;have a00:∀a b k o k0 T:R,putAt [a,b,k] 0 [o,k0,T]=[o,k0,T]:=λ_ _ _ _ _ _=>rfl;have a01:∀a b k o:R,putAt [a,b,k] 0 [o]=[o,b,k]:=λ_ _ _ _=>rfl;have a02:∀a b k o:R,putAt [a,b,k] 1 [o]=[a,o,k]:=λ_ _ _ _=>rfl;have k2:∀a b k:R,[a,b,k].length=3:=λ_ _ _=>rfl;have a48:∀a b k:R,List.take 3 [a,b,k]=[a,b,k]:=λ_ _ _=>rfl;have k3:=Y.len;rw[g.len]at k3;refine aa ?_;refine aO λS a03=>?_;refine aa ?_;refine aO λP i=>?_;refine aa ?_;refine aO λF V=>?_;have t:S≠P:=by rintro rfl;rw[ν]at i;cases i
 have a04:P≠F:=by rintro rfl;rw[ν]at V;cases V
 have a05:S≠F:=by rintro rfl;rw[ξ _ _ t,ν]at V;cases V
 have u:D P=none:=by rw[ξ _ _ (Ζ t)]at i;exact i
 have a52:D F=none:=by simp_all [ξ,Ζ]
 obtain⟨G,W⟩:∃G:U,G=(D.set S (.cells [.ptr E 0,.v (.int .i64 (x))])).set P (.cells (ae aB .nil .nil .nil)):=⟨_,rfl⟩;have k4:D.sub G:=by rw[W];exact μ (μ θ a03) u
 have c2:G S=β (.cells [.ptr E 0,.v (.int .i64 (x))]):=by rw[W,ξ _ _ t,ν]
 have aL:G P=β (.cells (ae aB .nil .nil .nil)):=by rw[W,ν]
 have k5:G F=none:=by rw[W];exact V
 have a06:=(aN (O:=.nil) (e4:=.nil) (h5:=.nil) bg).len;refine ai (cd @s @cm @a01 @k2 @a00 @σ @k3) ?_;rw[<-W]
 let p:R->R:=λa=>.agg [a,.v (.bool η)];have k6:∀d,aC dy ((c.take d).map λr=>(r,η)) ((h.take d).map p):=by
  have:∀(c)(h),aC isRow c h->aC dy (c.map λr=>(r,η)) (h.map p):=by
   intro c
   induction c with
   |nil=>intro h z;cases h with
    |nil=>trivial
    |cons=>exact z.elim
   |cons o c ih=>intro h z;cases h with
    |nil=>exact z.elim
    |cons a h=>exact⟨by obtain⟨L,rfl⟩:=z.1;exact⟨L,rfl⟩,ih h z.2⟩
  exact λd=>this _ _ (g.take d)
 have a56:∀d,((h.take d).map p).length<=100000:=λd=>by rw[a3k,a2X,g.len];omega
 have k7:∀ {y:U}{k c L},bj (G.set F (.cells k)) y 2 c L->y S=β (.cells [.ptr E 0,.v (.int .i64 (x))])/\y P=β (.cells (ae aB .nil .nil .nil))/\y F=β (.cells k):=λz=>⟨z.sub _ _ (by rw[ξ _ _ a05];exact c2),z.sub _ _ (by rw[ξ _ _ a04];exact aL),z.sub _ _ (ν _ _ _)⟩;refine cz (λC y=>∃(d:Nat)(L:Own),d<=α c/\bj (G.set F (.cells [.v (.int .u8 2),.J ((h.take d).map p) L,.J [] .nil])) y 2 ((h.take d).map p) L/\
   C 2=.ptr S 0/\C 4=.ptr P 0/\C 6=.ptr F 0/\C 10=q/\C 11=.v (.int .i64 (α c))/\C 12=.v (.int .i64 d))
  (λC _=>match C 12 with|.v (.int _ a07)=>α c - a07.toNat|_=>0) ⟨0,.nil,δ,?_,?_⟩ ?_
 .rw[show(h.take 0).map p=[]from rfl,σ];exact bj.nil θ
 .exact aV
 rintro C v⟨d,L,a57,j,l,m,n,w,A,B⟩;obtain⟨a08,a09,k8⟩:=k7 j;by_cases k9:(d:Int)<α c
 .have l0:c[d]?=β c[d]:=Ν δ;generalize c[d]'δ=r at l0;obtain⟨a,l1,H,rfl⟩:=g.get l0;obtain⟨a61,a10,a11⟩:=(Y.mono (ο k4 (ο (μ θ k5) j.sub))).get d _ l1;have l2:=a11.ld v θ ι 1 δ (by simp[τ]);have a13:aP ι 1 (R.J (ab r) H).cells=.J (ab r) H:=rfl;rw[a13]at l2;have a14:(h.take (d+1)).map p=(h.take d).map p++[.agg [.J (ab r) H,.v (.bool η)]]:=by rw[a3W,l1,a3V];rfl
  have a15:∀a b k:R,aP ι 1 ([a,b,k].drop 1)=b:=λ_ _ _=>rfl;have a16:∀a b o:R,putAt [a,b] 0 [o]=[o,b]:=λ_ _ _=>rfl;have a18:∀a b o:R,putAt [a,b] 1 [o]=[a,o]:=λ_ _ _=>rfl;have a19:∀a b:R,[a,b].length=2:=λ_ _=>rfl;have a27:∀b:Bool,(R.v (.bool b)).cells=[.v (.bool b)]:=λ_=>rfl;have l3:∀(T)(l4),(R.J T l4).cells=[.J T l4]:=λ_ _=>rfl;refine ai (nv @l @m @n @w @A @B @k9 @a10 @l2 (κ k8) @a15 @a16 @a18 @a19 @a27 @l3) ?_;refine eb θ (by simp[bc,τ]) λa62 a63 a29=>?_;refine aa ?_;refine ei (j.mono a29.sub) ((k6 d).cells λ_ _=>dy.cells) (by simp[bc,τ]) (by grind) (by grind) λl5 a65 I=>?_;rw[<-a14]at I|-;obtain⟨a68,l6,a30⟩:=k7 I;refine ai (ck @l @m @n @w @A @B (χ a30) @l3 @a02 @k2) ?_;have l7:=I.set (ob:=.cells [.v (.int .u8 2),.J ((h.take (d+1)).map p) l5,.J [] .nil]) (ν _ _ _);rw[σ]at l7;exact⟨⟨d+1,l5,δ,l7,ρ⟩,δ⟩
 .obtain rfl:d=α c:=δ;have a34:∀a b k,aP η 3 [a,b,k]=.agg [a,b,k]:=λ_ _ _=>rfl;have K:=k6 (α c);rw[a3K]at K;have l8:=ο k4 (ο (μ θ k5) j.sub);have a36:fj v (cR c) (.J ((h.take (α c)).map p) L) (.J [] .nil) ((h.take (α c)).map p) []:=by
   refine⟨K,trivial,bM.J (K.cells λ_ _=>dy.cells),bM.J (by simp[bc]),?_,?_⟩
   .simp only[cR,a3k];exact n9
   .simp[cR]
  refine ai (ff @l @m @n @w @A @B @k9 (κ a08) (κ k8) @a34 @s) ?_;have a38:=x0 v E e f (X.mono l8) (cR c) _ _ _ _ x n4 n5 a36;refine ak a38 ?_;rintro r a69⟨a42,l9,n0⟩;have M:=X.ct u;have l6:=l9 _ _ M.1 M.2 a09;obtain⟨n1,N,O,Q,a71,n2,rfl⟩:=n0.shape;have n3:=aN (O:=N) (e4:=O) (h5:=Q) n2;have a43:=n3.len;have a47:putAt (ae aB .nil .nil .nil) 0 (ae n1 N O Q)=ae n1 N O Q:=cC bg n2;refine ai (cW @l @m @n @s (χ l6) @a47 @a43 @a06 n3.t37) ?_;exact⟨_,θ,a42.set M,((ω l8).trans l9).set u,n0⟩
def CM(a:U)(d x:Nat)(y:ad)(W:bh a d x y)(h:List an)(D:Χ)(E:R)(b:Nat)(v:1<=b)(w:b<=8)(A:aC bu h D)(e:bM a 37 E D)(B:α h<=100000):
  AC γ 96 [dz d b,E] a λf g=>bh g d x (dr y b (dT h)).2/\Ext d x a g/\gj (dr y b (dT h)).1 f:=by
 refine aZ hm Lc ρ ?_;have i:∀j,(R.agg j).cells=j:=λ_=>rfl;have H:∀k c o r:R,putAt [k,c,o] 0 [r]=[r,c,o]:=λ_ _ _ _=>rfl;have I:∀k c o r:R,putAt [k,c,o] 2 [r]=[k,c,r]:=λ_ _ _ _=>rfl;have K:∀k c o:R,[k,c,o].length=3:=λ_ _ _=>rfl;have M:=(aN (O:=.nil) (e4:=.nil) (h5:=.nil) bg).len;refine aa ?_;refine aO λl N=>?_;refine aa ?_;refine aO λz C=>?_;have m:l≠z:=by rintro rfl;rw[ν]at C;cases C
 have F:a z=none:=by rw[ξ _ _ (Ζ m)]at C;exact C
 obtain⟨p,G⟩:∃p:U,p=(a.set l (.cells [.ptr d 0,.v (.int .i64 (b))])).set z (.cells (ae aB .nil .nil .nil)):=⟨_,rfl⟩;have L:a.sub p:=by rw[G];exact μ (μ θ N) F
 have aL:p z=β (.cells (ae aB .nil .nil .nil)):=by rw[G,ν]
 refine ai (cW @i @cm @H @I @K e.one @ξ @m @ν) ?_;rw[<-G];have O:fj p (dT h) (.J [] .nil) E [] D:=⟨trivial,A,bM.J (by simp[bc]),e.mono L,by simp[dT],B⟩;refine ak (x0 p d x y (W.mono L) (dT h) _ _ _ _ b v w O) ?_;rintro f k0⟨Q,n,q⟩;have P:=W.ct F;have X:=n _ _ P.1 P.2 aL;obtain⟨s,S,T,V,k2,t,rfl⟩:=q.shape;have u:=aN (O:=S) (e4:=T) (h5:=V) t;have Y:=u.len;have Z:putAt (ae aB .nil .nil .nil) 0 (ae s S T V)=ae s S T V:=cC bg t;refine ai (bx @i (χ X) @Z @Y @M u.t37) ?_;exact⟨_,θ,Q.set P,((ω L).trans n).set F,q⟩
def x4(a:bQ)(w A:Χ)(p z:R)(r:U)(P:fj r a p z w A):
  AC γ 225 [jb a p z] r λc V=>∃d,aC isRow (a.rows.map Β) d/\aw r V 1 (flat d) c:=by
 refine aZ hm Ow ρ ?_;have S:∀g,(R.agg g).cells=g:=λ_=>rfl;have B:=P.gA;have k7:=P.jX;refine ai @S ?_;refine aO λT H=>?_;obtain⟨x,W⟩:∃x:U,x=r.set T (.cells [.v (.int .u8 (a.kind.toNat)),p,z]):=⟨_,rfl⟩;have i:r.sub x:=by rw[W];exact μ θ H
 have k8:x T=β (.cells [.v (.int .u8 (a.kind.toNat)),p,z]):=by rw[W,ν]
 have I:=P.lv.mono i;refine ai (aE @S @ν @B) ?_;rw[show r.set T (.cells (jb a p z).cells)=x from W.symm];refine cz (λk V=>∃(b:Nat)(c:R)(d:Χ),b<=α a.rows/\aC isRow ((a.rows.take b).map Β) d/\aw x V 1 (flat d) c/\k 1=.ptr T 0/\k 3=c/\k 7=p/\k 8=.v (.int .i64 (α a.rows))/\k 9=.v (.int .i64 b))
  (λk _=>match k 9 with|.v (.int _ K)=>α a.rows - K.toNat|_=>0) ⟨0,.J [] .nil,[],δ,trivial,aw.nil θ,?_⟩ ?_
 .exact jN
 rintro k M⟨b,c,d,k9,C,e,D,E,F,G,L⟩;by_cases j:(b:Int)<α a.rows
 .have f:a.rows[b]?=β a.rows[b]:=Ν δ;have l:a.rows.take (b+1)=a.rows.take b++[a.rows[b]]:=by rw[a3W,f];rfl
  generalize a.rows[b]'δ=h at f l;obtain⟨y,N,o,rfl⟩:=P.rows.get f;obtain⟨l0,O,Q⟩:=I.get b _ N;have m:=Q.ld M e.1 η 2 δ (by simp[τ]);have X:aP η 2 (R.agg [.J (ab h.1) o,.v (.bool h.2)]).cells=.agg [.J (ab h.1) o,.v (.bool h.2)]:=rfl;have n:∀c y q s:R,putAt [c,y] 0 [q,s]=[q,s]:=λ_ _ _ _=>rfl;have t:∀c y:R,[c,y].length=2:=λ_ _=>rfl;have Y:∀c y:R,aP ι 1 [c,y]=c:=λ_ _=>rfl;rw[X]at m;refine ai (ff @D @E @F @G @L @j @O @m @S @n @t) ?_;refine aO λl1 Z=>?_;have k0:=aw.mono e (μ (X:=.cells [.J (ab h.1) o,.v (.bool h.2)]) θ Z);refine ai (ff @D @E @F @G @L @S @n @t @Y @σ @ν) ?_;refine iv (by simp[bc,τ]) ρ λl2 k2=>?_;have k3:=aw.mono k0 (μ (X:=.cells (flat [R.J (ab h.1) o])) θ k2);have k4:aC isRow ((a.rows.take b).map Β++[h.1]) (d++[R.J (ab h.1) o]):=C.snoc ⟨_,rfl⟩;have u:(flat d).length=b:=by rw[cT (C.cells λ_ _=>φ),C.len];simp;omega
  refine ai (ba @D @E @F @G @L) ?_;refine fx k3 δ (nK rfl) rfl (by rw[u];simp[flat,τ];omega) (by rw[u];simp[flat,τ];omega) λk5 l3 v=>?_;have k6:flat d++flat [R.J (ab h.1) o]=flat (d++[R.J (ab h.1) o]):=by simp[flat]
  rw[k6]at v;refine ai (ba @D @E @F @G @L) ?_;refine⟨⟨b+1,k5,_,δ,?_,v,ρ⟩,δ⟩;rw[l,a3V];exact k4
 .obtain rfl:b=α a.rows:=δ;rw[a3K]at C;refine ai (bx @D @E @F @G @L @j) ?_;exact⟨_,θ,d,C,e.base i⟩
def hS(b:ad)(c:Nat)(d:an):Option bQ:=
 match dn b c d with
 |none=>ε
 |some a=>if a.kind=2\/a.kind=3 then β a else ε
theorem x5(b:U)(T I:Nat)(V:ad)(k3:bh b T I V)(o:an)(W e f:Own)(K:α o.sum=32)(k4:o.cH)(p:Nat)(k5:1<=p)(k6:p<=8):
  AC γ 223 [dz T p,.agg (ae o W e f)] b λq y=>b.sub y/\match hS V p o with
   |none=>q=.aF [wS,.v (.int .i64 21)]
   |some a=>∃d h,q=.aF [jb a d h,.v (.int .i64 0)]/\gh b y a d h:=by
 refine aZ hm Oq ρ ?_;have c:∀M,(R.agg M).cells=M:=λ_=>rfl;have z:∀C D E d h N:R,putAt [C,D,E] 0 [d,h,N]=[d,h,N]:=λ_ _ _ _ _ _=>rfl;have L:∀C D E,aP η 3 [C,D,E]=.agg [C,D,E]:=λ_ _ _=>rfl;have F:∀C D E:R,[C,D,E].length=3:=λ_ _ _=>rfl;have O:=aN (O:=W) (e4:=e) (h5:=f) K;have s:=O.len;refine ai @c ?_;refine aO λt l5=>?_;refine ai (c2 @c @s) ?_;refine aO λg i=>?_;have u:t≠g:=by rintro rfl;rw[ν]at i;cases i
 have l6:b g=none:=by rw[ξ _ _ (Ζ u)]at i;exact i
 refine ai (c2 @c @s) ?_;refine aO λk j=>?_;have k7:g≠k:=by rintro rfl;rw[ν]at j;cases j
 have k8:t≠k:=by rintro rfl;rw[ξ _ _ u,ν]at j;cases j
 have k9:b k=none:=by simp_all [ξ,Ζ]
 obtain⟨P,Q⟩:∃P:U,P=((b.set t (.cells [.ptr T 0,.v (.int .i64 (p))])).set g (.cells (ae o W e f))).set k (.cells [.v (.int .u8 0),.J [] .nil,.J [] .nil]):=⟨_,rfl⟩;have v:b.sub P:=by grind[μ,θ]
 have aL:P k=β (.cells [.v (.int .u8 0),.J [] .nil,.J [] .nil]):=by rw[Q,ν]
 have l:∀(y)(X),b.sub y->b.sub (y.set k X):=λy X w=>μ w k9;refine ai (bs @c @s @ξ @u @k8 @k7 @ν O.t37) ?_;rw[<-Q];refine ak (tJ P T I V (k3.mono v) o W e f K (λ_=>k4) p k5 k6) ?_;rintro q l7⟨Y,m⟩;have l0:=ο v Y;have G:=Y _ _ aL;unfold hS;cases Z:dn V p o with
 |none=>
  rw[Z]at m;obtain rfl:=m;refine ai (aE @c @z @F) ?_;refine aO λA r=>?_;have x:k≠A:=by rintro rfl;rw[G]at r;cases r
  have S:=Ζ x;refine ai (cW @c @z @F @L @σ @ξ @x @S (χ G)) ?_;grind[θ,ο,μ]
 |some a=>
  rw[Z]at m;obtain⟨d,h,rfl,l1⟩:=m;simp -dsimp -implicitDefEqProofs (disch:=first|omega|assumption|(simp only[aR,Nat.reduceAdd];try omega)) only[go_sem,simprocAttr,-List.reduceReplicate,c,z,F,L];refine aO λA r=>?_;have x:k≠A:=by rintro rfl;rw[G]at r;cases r
  have S:=Ζ x;have l2:=(l1.mono (μ (X:=.cells [.v (.int .u8 (a.kind.toNat)),d,h]) θ r)).set (ob:=.cells [.v (.int .u8 (a.kind.toNat)),d,h]) aL;have l8:=l2.base (l _ _ v);have B:=ο l0 (μ (X:=.cells [.v (.int .u8 (a.kind.toNat)),d,h]) θ r);have l3:=hP a.kind 2 δ;have l4:=hP a.kind 3 δ;simp only[a5N]at l3 l4;simp only;by_cases k0:a.kind=2
  .have n:((a.kind.toNat:Int)=2)=True:=by rw[k0];simp
   refine ai (ff @c @z @F @L @σ @ν @ξ @x @S (χ G) @n) ?_;refine⟨_,θ,l _ _ B,?_⟩;grind
  .have n:¬(a.kind.toNat:Int)=2:=λw=>k0 (by simp_all);by_cases k2:a.kind=3
   .have H:((a.kind.toNat:Int)=3)=True:=by rw[k2];simp
    refine ai (fZ @c @z @F @L @σ @ν @ξ @x @S (χ G) @n @H) ?_;refine⟨_,θ,l _ _ B,?_⟩;grind
   .have H:¬(a.kind.toNat:Int)=3:=λw=>k2 (by simp_all);refine ai (fZ @c @z @F @L @σ @ν @ξ @x @S (χ G) @n @H) ?_;refine⟨_,θ,l _ _ B,?_⟩;simp_all
def x6(k:bQ)(L P:Χ)(d h:R)(o:U)(S:fj o k d h L P):
  AC γ 233 [jb k d h] o λi j=>∃a r,i=.agg [.v (.bool (decide (k.kind=2))),a,h]/\aC isRow (k.rows.map Β) r/\aw o j 1 (flat r) a:=by
 refine aZ hm OK ρ ?_;have x:∀T,(R.agg T).cells=T:=λ_=>rfl;have V:∀a b c,aP η 3 [a,b,c]=.agg [a,b,c]:=λ_ _ _=>rfl;have l:∀a b c:R,[a,b,c].length=3:=λ_ _ _=>rfl;have m:∀a b c d h W:R,putAt [a,b,c] 0 [d,h,W]=[d,h,W]:=λ_ _ _ _ _ _=>rfl;have n:∀a b c d:R,putAt [a,b,c] 0 [d]=[d,b,c]:=λ_ _ _ _=>rfl;have q:∀a b c d:R,putAt [a,b,c] 1 [d]=[a,d,c]:=λ_ _ _ _=>rfl;have s:∀a b c d:R,putAt [a,b,c] 2 [d]=[a,b,d]:=λ_ _ _ _=>rfl;have t:∀b:Bool,(R.v (.bool b)).cells=[.v (.bool b)]:=λ_=>rfl;have u:∀a b c:R,aP ι 1 ([a,b,c].drop 2)=c:=λ_ _ _=>rfl;have e:∀a b c:R,List.take 3 [a,b,c]=[a,b,c]:=λ_ _ _=>rfl;refine ai @x ?_;refine aO λE v=>?_;refine ai @x ?_;refine aO λy z=>?_;have F:E≠y:=by rintro rfl;rw[ν]at z;cases z
 have f:o y=none:=by rw[ξ _ _ (Ζ F)]at z;exact z
 obtain⟨p,C⟩:∃p:U,p=(o.set E (.cells [.v (.int .u8 (k.kind.toNat)),d,h])).set y (.cells [.v (.bool ι),.J [] .nil,.J [] .nil]):=⟨_,rfl⟩;have g:o.sub p:=by rw[C];exact μ (μ θ v) f
 have w:p E=β (.cells [.v (.int .u8 (k.kind.toNat)),d,h]):=by rw[C,ξ _ _ F,ν]
 have c2:p y=β (.cells [.v (.bool ι),.J [] .nil,.J [] .nil]):=by rw[C,ν]
 have G:=hP k.kind 2 δ;simp only[a5N]at G;have A:ς 2=2:=rfl;rw[A]at G;refine ai (bx @x @ξ @F @ν @V @e) ?_;rw[<-C];refine ak (x4 k L P d h p (S.mono g)) ?_;rintro a N⟨r,B,D⟩;have H:=D.1 _ _ w;have I:=D.1 _ _ c2;have K:=fi D;have M:=S.hh.one;refine ai (Bg @x (κ H) (χ I) @V @e @u @t @K @M @n @q @s @l @m @G) ?_;refine⟨_,θ,a,r,rfl,B,?_⟩;exact(ja D c2).base (μ g f)
theorem Xp(h:R)(c d:R)(a b:Nat)(E:c.cells=[c])(F:d.cells=[d])(G:h.cells=[h])(r:fY c=β (.v (.int .i64 (a:Int))))(x:fY d=β (.v (.int .i64 (b:Int))))(L:a<=1000000000000)(P:b<=1000000000000)(k:U):
  AC γ 283 [.agg [h,c,d]] k λy z=>z=k/\y=.v (.bool (decide (a+b<2))):=by
 refine aZ hm PY ρ ?_;have o:∀p,(R.agg p).cells=p:=λ_=>rfl;refine ai @o ?_;refine aO λS C=>?_;refine ai (aE @o @r @x) ?_;have D:decide ((a:Int)+b<2)=decide (a+b<2):=by grind
 exact⟨k,μ θ C,rfl,by rw[D]⟩
def lL(a:ad)(b:Nat)(c:Bool)(d:List Ρ)(h:List an):Except Int an×ad:=if c=η then dr a b (cR d)else dr a b (dT h)
theorem CN(a:U)(b d:Nat)(E:ad)(s:bh a b d E)(F:Bool)(G:List Ρ)(t:Χ)(g:R)(L:List an)(u:Χ)(i:R)(c:Nat)(K:1<=c)(M:c<=8)(k5:aC isRow G t)(k6:bM a 1 g t)(k7:α G<=100000)(k8:aC bu L u)(k9:bM a 37 i u)(l0:α L<=100000):
  AC γ 173 [dz b c,.agg [.v (.bool F),g,i]] a λy N=>bh N b d (lL E c F G L).2/\Ext b d a N/\gj (lL E c F G L).1 y:=by
 refine aZ hm Nc ρ ?_;have h:∀O,(R.agg O).cells=O:=λ_=>rfl;have Q:=(aN (O:=.nil) (e4:=.nil) (h5:=.nil) bg).len;have X:∀P S:R,List.take 2 [P,S]=[P,S]:=λ_ _=>rfl;have Y:∀P S,aP η 2 [P,S]=.agg [P,S]:=λ_ _=>rfl;refine ai @h ?_;refine aO λv l3=>?_;refine ai @h ?_;refine aO λj l=>?_;have m:v≠j:=by rintro rfl;rw[ν]at l;cases l
 have l4:a j=none:=by rw[ξ _ _ (Ζ m)]at l;exact l
 refine ai (c2 @h @cm) ?_;refine aO λz n=>?_;have Z:j≠z:=by rintro rfl;rw[ν]at n;cases n
 have k0:v≠z:=by rintro rfl;rw[ξ _ _ m,ν]at n;cases n
 have w:a z=none:=by simp_all [ξ,Ζ]
 obtain⟨k,A⟩:∃k:U,k=((a.set v (.cells [.ptr b 0,.v (.int .i64 (c))])).set j (.cells [.v (.bool F),g,i])).set z (.cells (ae aB .nil .nil .nil)):=⟨_,rfl⟩;have C:a.sub k:=by grind[μ,θ]
 have aL:k z=β (.cells (ae aB .nil .nil .nil)):=by rw[A,ν]
 have q:=s.ct w;unfold lL;have k2:∀(k3)(k4)(y)(D),bh D b d k4->Ext b d k D->gj k3 y->D z=β (.cells (ae aB .nil .nil .nil)):=λk3 k4 y D _ l1 _=>l1 _ _ q.1 q.2 aL;cases F with
 |true=>refine ai (cW @h @cm @ξ @m @k0 @Z @ν @X @Y) ?_;rw[<-A];refine ak (x3 k b d E (s.mono C) G t g c K M k5 (k6.mono C) k7) ?_;rintro y D⟨T,V,o⟩;have B:=k2 _ _ _ _ T V o;obtain⟨W,p,r,x,l2,e,rfl⟩:=o.shape;have f:=aN (O:=p) (e4:=r) (h5:=x) e;have H:=f.len;have I:putAt (ae aB .nil .nil .nil) 0 (ae W p r x)=ae W p r x:=cC bg e;refine ai (bx @h (χ B) @I @H @Q f.t37) ?_;exact⟨_,θ,T.set q,((ω C).trans V).set w,o⟩
 |false=>refine ai (cW @h @cm @ξ @m @k0 @Z @ν @X @Y) ?_;rw[<-A];refine ak (CM k b d E (s.mono C) L u i c K M k8 (k9.mono C) l0) ?_;rintro y D⟨T,V,o⟩;have B:=k2 _ _ _ _ T V o;obtain⟨W,p,r,x,l2,e,rfl⟩:=o.shape;have f:=aN (O:=p) (e4:=r) (h5:=x) e;have H:=f.len;have I:putAt (ae aB .nil .nil .nil) 0 (ae W p r x)=ae W p r x:=cC bg e;refine ai (bx @h (χ B) @I @H @Q f.t37) ?_;exact⟨_,θ,T.set q,((ω C).trans V).set w,o⟩
abbrev gV(a:Ρ)(b:bQ):Nat:=a1.cL bq a (b.kids.map (·.key))
variable{N:List Ρ}{n b6:Ρ}
def Xq{a:Ρ}:a1.cL bq n (a::b6::N)=if bq n b6=η then 0 else a1.cL bq n (b6::N)+1:=rfl
theorem CO(a:bQ)(B H:Χ)(r x:R)(c:Ρ)(P:Own)(d:U)(z:fj d a r x B H):
  AC γ 228 [jb a r x,.J (ab c) P] d λI S=>S=d/\I=.v (.int .i64 (gV c a:Int)):=by
 refine aZ hm OC ρ ?_;have V:∀W,(R.agg W).cells=W:=λ_=>rfl;have e:=z.rO;have k6:=z.hn;refine ai @V ?_;refine aO λC K=>?_;obtain⟨h,T⟩:∃h:U,h=d.set C (.cells [.v (.int .u8 (a.kind.toNat)),r,x]):=⟨_,rfl⟩;have M:d.sub h:=by rw[T];exact μ θ K
 have c2:h C=β (.cells [.v (.int .u8 (a.kind.toNat)),r,x]):=by rw[T,ν]
 have N:=z.hh.mono M;refine ai @V ?_;rw[show d.set C (.cells (jb a r x).cells)=h from T.symm];refine cz (λk S=>∃b:Nat,S=h/\gV c a=b+a1.cL bq c ((a.kids.map (·.key)).drop b)/\b<=α a.kids/\k 1=.J (ab c) P/\k 2=.ptr C 0/\k 5=.v (.int .i64 b))
  (λk _=>match k 5 with|.v (.int _ O)=>α a.kids - O.toNat|_=>0) ⟨0,rfl,ρ,δ,?_⟩ ?_
 .exact jN
 rintro k f⟨b,rfl,y,k7,D,E,F⟩;have g:∀i Q j:R,aP ι 1 ([i,Q,j].drop 2)=j:=λ_ _ _=>rfl;by_cases l:(b:Int)+1<α a.kids
 .have m:a.kids[b+1]?=β a.kids[b+1]:=Ν δ;have n:(a.kids.map (·.key)).drop b=(a.kids[b]'δ).key::(a.kids[b+1]'δ).key::(a.kids.map (·.key)).drop (b+2):=by grind[List.drop_eq_getElem_cons,List.length_map]
  have q:(a.kids.map (·.key)).drop (b+1)=(a.kids[b+1]'δ).key::(a.kids.map (·.key)).drop (b+2):=by rw[a3z (by rw[a3k];omega)];simp
  rw[n,Xq,<-q]at y;clear n q;generalize a.kids[b+1]'δ=o at m y;obtain⟨i,X,Y,k8,G,L,p,rfl⟩:=z.kids.get m;obtain⟨k9,s,t⟩:=N.get (b+1) _ X;have u:=aN (O:=G) (e4:=L) (h5:=p) Y;have Z:(R.agg (ae o G L p)).cells=ae o G L p:=rfl;rw[Z]at t;obtain⟨l0,k0,v⟩:=t.kq f θ 36 ι 1 δ (by rw[u.len];omega);have k2:aP ι 1 ((ae o G L p).drop 36)=.J (ab o.key) p:=by rw[u.d36];rfl
  rw[k2]at v;have k3:((b+1:Nat))=(b:Int)+1:=δ;rw[k3]at s;refine ai (ck @D @E @F (κ c2) @g @e @l @s @k0 @v) ?_;refine ak (wT c o.key P p _) ?_;rintro _ f⟨rfl,rfl⟩;cases w:bq c o.key with
  |true=>rw[if_pos w]at y;refine ai (aL @D @E @F @a3E) ?_;simp_all
  |false=>rw[if_neg (by simp[w])]at y;refine ai (aL @D @E @F @a3H) ?_;grind
 .have k4:a1.cL bq c ((a.kids.map (·.key)).drop b)=0:=by
   have A:((a.kids.map (·.key)).drop b).length<=1:=by grind
   generalize (a.kids.map (·.key)).drop b=k5 at A
   match k5,A with
   |[],_=>rfl
   |[_],_=>rfl
  rw[k4]at y;refine ai (cd @D @E @F (κ c2) @g @e @l) ?_;simp_all
def lM(c:List Ρ)(d:Ρ):Nat->Nat->Nat->Nat
 |0,a,_=>a
 |h+1,a,b=>if a<b then(match c[(a+b)/2]? with
  |some k=>if jY k d<0 then lM c d h ((a+b)/2+1) b else lM c d h a ((a+b)/2)
  |none=>a)else a
def eu(a:List Ρ)(b:Ρ):Nat:=lM a b (α a) 0 (α a)
def k1(a:List Ρ)(b:Ρ):Bool:=match a[eu a b]? with|some c=>decide (jY c b=0)|none=>ι
theorem CP(b:List Ρ)(n:Χ)(V:R)(d:Ρ)(L:Own)(P:U)(W:aC isRow b n)(e:bM P 1 V n)(N:α b<=1000000000000):
  AC γ 224 [V,.J (ab d) L,.bA 47 [] []] P λh f=>f=P/\eu b d<=α b/\h=.aF [.v (.int .i64 (eu b d:Int)),.v (.bool (k1 b d))]:=by
 refine aZ hm Ou ρ ?_;have q:=e.len;rw[W.len]at q;refine ai @q ?_;have s:fa γ 47=true:=by rfl
 refine cz (λk f=>∃(r a c:Nat),f=P/\eu b d=lM b d r a c/\a<=c/\c<=α b/\c - a<=r/\k 0=V/\k 1=.J (ab d) L/\k 2=.bA 47 [] []/\k 8=.v (.int .i64 (α b))/\k 9=.v (.int .i64 a)/\k 10=.v (.int .i64 c))
  (λk _=>match k 9,k 10 with|.v (.int _ a),.v (.int _ c)=>(c - a).toNat|_,_=>0) ⟨α b,0,α b,rfl,rfl,δ,δ,δ,?_⟩ ?_
 .exact jN
 rintro k S⟨r,a,c,rfl,x,O,Q,X,y,z,C,D,E,F⟩;by_cases g:(a)<(c:Int)
 .obtain⟨Y,rfl⟩:∃v,r=v+1:=⟨r - 1,δ⟩;have w:a<c:=δ;have t:(a+c)/2<α b:=δ;have o:=Ν t;rw[lM,if_pos w,o]at x;simp only at x;generalize b[(a+c)/2]'t=h at o x;obtain⟨A,i,p,rfl⟩:=W.get o;obtain⟨B,j,l⟩:=e.get _ _ i;have G:=l.ld S θ ι 1 δ (by simp[τ]);have m:aP ι 1 (R.J (ab h) p).cells=.J (ab h) p:=rfl;rw[m]at G;have H:IntKind.u64.wrap ((a)+c)=((a+c:Nat)):=by rw[wrap_u64 δ δ];omega
  have I:br .shr (.int .u64 ((a+c:Nat))) (.int .u64 1)=β (.int .u64 (((a+c)/2:Nat))):=by rw[rk _ _ _ δ δ];rfl
  have K:IntKind.i64.wrap (((a+c)/2:Nat))=(((a+c)/2:Nat)):=wrap_i64 δ δ;generalize Z:(a+c)/2=k0 at*;refine ai (fZ @y @z @C @D @E @F @g @H @I @K @j @G) ?_;refine eC s (wU h d p L _) ?_;rintro _ S⟨rfl,rfl⟩;by_cases T:jY h d<0
  .rw[if_pos T]at x;refine ai (cd @y @z @C @D @E @F @T) ?_;grind
  .rw[if_neg T]at x;refine ai (cd @y @z @C @D @E @F @T) ?_;grind
 .obtain rfl:a=c:=δ;have M:eu b d=a:=by rw[x];cases r<;>simp[lM]
  unfold k1;rw[M];by_cases u:(a:Int)<α b
  .have o:b[a]?=β b[a]:=Ν δ;rw[o];generalize b[a]'δ=h at o;obtain⟨A,i,p,rfl⟩:=W.get o;obtain⟨B,j,l⟩:=e.get _ _ i;have G:=l.ld S θ ι 1 δ (by simp[τ]);have m:aP ι 1 (R.J (ab h) p).cells=.J (ab h) p:=rfl;rw[m]at G;refine ai (ck @y @z @C @D @E @F @g @u @j @G) ?_;refine eC s (wU h d p L _) ?_;rintro _ S⟨rfl,rfl⟩;refine ai (bx @y @z @C @D @E @F) ?_;exact⟨_,θ,rfl,δ⟩
  .have o:b[a]?=none:=a6W δ;rw[o];refine ai (bs @y @z @C @D @E @F @g @u) ?_;exact⟨_,θ,rfl,δ⟩
def dd(d h:U)(b c:Nat)(k:ad)(o:Nat)(p:Χ)(r:R):Prop:=∃a,aw a h o p r/\bh a b c k/\Ext b c d a
theorem dd.nil{a:U}{b c h:Nat}{d:ad}(k:bh a b c d):dd a a b c d h [] (.J [] .nil):=⟨a,aw.nil θ,k,Ext.refl⟩
def dd.fl(a:dd u f e i H v g q):bh f e i H:=by obtain⟨d,b,c,_⟩:=a;exact c.mono b.1
def dd.ext(a:dd f u e i H v g q):Ext e i f u:=by obtain⟨d,b,_,c⟩:=a;exact c.trans (ω b.1)
theorem dd.of{s:U}{l lM:Nat}(a:aw f s e g q)(b:bh f l lM H)(c:Ext l lM u f):dd u s l lM H e g q:=⟨f,a,b,c⟩
def dd.mono{b c d:U}{h k:Nat}{o:ad}{p:Nat}{r:Χ}{a:R}(x:dd b c h k o p r a)(y:c.sub d):dd b d h k o p r a:=by obtain⟨z,C,D⟩:=x;exact⟨z,C.mono y,D⟩
theorem dd.base(a:dd f e1 e i H v g q)(b:Ext e i u f):dd u e1 e i H v g q:=by obtain⟨c,d,h,k⟩:=a;exact⟨c,d,h,b.trans k⟩
theorem dd.step{r x h:U}{a b:Nat}{S y:ad}{z:Nat}{C:Χ}{D:R}(T:dd r x a b S z C D)(E:Ext a b x h)(F:bh h a b y):dd r h a b y z C D:=by
 obtain⟨V,⟨W,o⟩,e,f⟩:=T;have g:=F.ne;refine⟨λc=>if c=a then h a else if c=b then h b else V c,⟨λc i d=>?_,?_⟩,F.other ρ (by simp[Ζ g]),λc i G L d=>?_⟩
 .by_cases k:c=a
  .subst k;simpa using d
  .by_cases p:c=b
   .subst p;simpa[k] using d
   .simp only[k,p,if_false]at d;exact E _ _ k p (W _ _ d)
 .rcases o with o|⟨j,l,m,n,q,s,t,u⟩
  .exact .inl o
  .have P:=e.ct s;exact .inr ⟨j,l,m,n,q,by grind,E _ _ P.1 P.2 t,u⟩
 .simp only[G,L,if_false];exact f _ _ G L d
theorem x7(k:e≠1):∀ {a:Χ},(∀c∈a,∃b,c=.agg b/\α b=e)->ez e (α a) (flat a)=a:=by
 intro a d;have o:bc e a:=λc p=>by obtain⟨b,rfl,r⟩:=d c p;exact r
 unfold ez;rw[if_neg k];refine a6r λx=>?_;rw[a3u];by_cases aS:x<α a
 .rw[a4Z aS];have h:=Ν aS;have:=Ce o h;obtain⟨b,y,_⟩:=d _ (a3r aS);rw[h,a3P,this,y];rfl
 simp_all
theorem CQ{h:List an}(a:aC bu h g):∀b∈g,∃c,b=.agg c/\α c=37:=by intro b k;obtain⟨o,p,rfl⟩:=a3B k;have z:=a.len;obtain⟨C,d,r⟩:=a.get (Ν (i:=o) δ);rw[Ν p]at d;obtain rfl:=Δ d;obtain⟨x,_,D,E,F,y⟩:=r;exact⟨_,y,(aN x).len⟩
def dd.view(d:dd f u e i H v g q):∃b a,α g=b*v/\View u q a (.J (ez v b g) .any)/\bh a e i H/\Ext e i f a:=by obtain⟨x,h,k,o⟩:=d;obtain⟨b,a,p,c,r⟩:=View.dC h;exact⟨b,a,p,r,k.mono c,o.trans (ω c)⟩
theorem dd.rW{b:List an}(c:dd f u e i H 37 (flat g) q)(d:aC bu b g):∃a,View u q a (.J g .any)/\bh a e i H/\Ext e i f a:=by obtain⟨k,a,h,o,p⟩:=c.view;rw[cT (d.cells λ_ _=>Η)]at h;grind[x7,CQ]
theorem aw.rW{b:List an}(c:aw f u 37 (flat g) q)(d:aC bu b g):∃a,View u q a (.J g .any)/\f.sub a:=by obtain⟨k,a,h,o,p⟩:=View.dC c;rw[cT (d.cells λ_ _=>Η)]at h;grind[x7,CQ]
theorem mJ(a:aC isRow N g):flat g=g:=by
 induction N generalizing g with
 |nil=>cases g with
  |nil=>rfl
  |cons=>exact a.elim
 |cons b N ih=>cases g with
  |nil=>rfl
  |cons c g=>obtain⟨d,rfl⟩:=a.1;have:=ih a.2;simp only[flat,a3A]at this|-;rw[this];rfl
theorem aw.CR(b:aw f u 1 (flat g) q)(c:aC isRow N g):∃a,View u q a (.J g .any)/\f.sub a:=by grind[View.dC,mJ,lE,Θ]
def dp{c:Type}(d:List c->bQ)(h:Nat):ad->List (List c)->List an->Except Int (List an)×ad
 |a,[],acc=>(.ok acc,a)
 |a,k::gs,acc=>
  match dr a h (d k)with
  |(.error o,b)=>(.error o,b)
  |(.ok p,b)=>dp d h b gs (acc++[p])
def CS(d:Except Int (List an))(a:R):Prop:=
 match d with
 |.error b=>b≠0/\a=.aF [.J [] .nil,.v (.int .i64 b)]
 |.ok bw=>∃c h,aC bu bw c/\a=.aF [.J c h,.v (.int .i64 0)]
variable{b0:Type}
def gE(b:b0->R->Prop)(c:List b0)(d:R):Prop:=∃a h,d=.J a h/\aC b c a
theorem gE.cells{a:Type}{c:a->R->Prop}{d:List a}{b:R}(h:gE c d b):α b.cells=1:=by obtain⟨_,_,rfl,_⟩:=h;rfl
theorem aC.x8{b:b0->R->Prop}{a:List b0}(c:aC b a []):a=[]:=by cases a with|nil=>rfl|cons=>exact c.elim
def CT(a:0<e)(c:i<=100000):i/e+(if 0<i%e then 1 else 0)<=i:=by
 have d:=a5I i e;by_cases b:0<i%e
 .rw[if_pos b];have:i/e<=e*(i/e):=a6O _ a;omega
 .rw[if_neg b];have:i/e<=e*(i/e):=a6O _ a;omega
theorem x9(d:List Ρ)(a:Χ)(h:Own)(c:U)(k:aC isRow d a)(F:α d<=100000):
  AC γ 45 [.J a h] c λp r=>∃o,bj c r 1 a o/\p=.J a o:=by
 refine nu λG=>?_;have x:h=.nil->a=[]:=λy=>by subst y;simp_all
 refine aZ hm JK ρ ?_;simp -dsimp -implicitDefEqProofs (disch:=first|omega|assumption|(simp only[aR,Nat.reduceAdd];try omega)) only[go_sem,simprocAttr,-List.reduceReplicate,↓nD];refine nE (λb=>by rw[x b]) (λb=>?_) ?_
 .have z:a=[]:=by trivial
  subst z;refine ai @a3H ?_;exact⟨c,θ,.nil,bj.nil θ,rfl⟩
 .refine bJ ?_;refine eb θ (by simp[bc]) λL P C=>?_;refine bJ ?_;have S:=k.len;refine ei C (λ_ b=>by cases b) (k.cells λ_ _=>φ) (by rw[a3a];omega) (by rw[a3a];omega) λD E T=>?_;refine ai @a3l.{0} ?_;exact⟨E,θ,D,by trivial,rfl⟩
theorem CU(L:List Ρ)(S:Χ)(u:Own)(c:Nat)(T:U)(M:aC isRow L S)(N:α L<=100000)(k6:c<=100000):
  AC γ 50 [.J S u,.v (.int .i64 (c:Int))] T λO V=>T.sub V/\∃gs Q,O=.J gs Q/\aC (gE isRow) (a1.dW c L) gs:=by
 refine aZ hm JW ρ ?_;refine bJ ?_;refine cz (λz V=>∃(d:Nat)(b:List Ρ)(h:Χ)(E:Own)(gs:Χ)(P:Own)(F:List (List Ρ)),d<=c/\F++a1.dW (c - d) b=a1.dW c L/\aC isRow b h/\α b<=100000/\α F=d/\aC (gE isRow) F gs/\bj T V 1 gs P/\
   z 0=.J h E/\z 1=.v (.int .i64 c)/\z 5=.J gs P/\z 8=.v (.int .i64 c)/\z 9=.v (.int .i64 d))
  (λz _=>match z 9 with|.v (.int _ X)=>c - X.toNat|_=>0) ⟨0,L,S,u,[],.nil,[],δ,rfl,M,N,rfl,trivial,bj.nil θ,?_⟩ ?_
 .exact jN
 rintro z k7⟨d,b,h,E,gs,P,F,k8,C,k,Y,v,D,W,o,p,r,x,y⟩;by_cases e:(d)<(c:Int)
 .have w:=k.len;have Z:=CT (e:=c - d) δ Y;have A:(c) -(d)=((c - d:Nat):Int):=δ;rw[show c - d=(c -(d+1))+1 by omega,a1.dW]at C;rw[show c -(d+1)+1=c - d by omega]at C;generalize k9:c - d=G at*;have B:¬(G:Int)=0:=δ;have l0:=a6I (α b) G;have H:(α b:Int).tdiv (G:Int)=((α b/G:Nat)):=rfl;have I:(α b:Int).tmod (G:Int)=((α b%G:Nat)):=rfl;obtain⟨a,f⟩:∃a,a=α b/G+(if 0<α b%G then 1 else 0):=⟨_,rfl⟩;rw[<-f]at Z C;by_cases K:0<α b%G
  .have g:((0)<((α b%G:Nat):Int))=True:=eq_true δ;have i:((α b/G:Nat))+1=(a:Int):=by rw[f,if_pos K];omega
   have j:dN 1 (.J h E) ε (β (.v (.int .i64 (a))))=β (.J (h.take a) .any):=ns δ δ (k.cells λ_ _=>φ);have l:dN 1 (.J h E) (β (.v (.int .i64 (a)))) ε=β (.J (h.drop a) .any):=pS δ δ (k.cells λ_ _=>φ);refine ai (ga @o @p @r @x @y @e @w @A @H @I @B @g @i @j) ?_;refine ak (x9 (b.take a) (h.take a) .any _ (k.take a) (by rw[a2X];omega)) ?_;rintro _ k0⟨m,n,rfl⟩;refine ai (ba @o @p @r @x @y) ?_;refine eb θ (by simp[bc,τ]) λk2 k3 q=>?_;refine ai (ba @o @p @r @x @y) ?_;have k4:=D.len;refine ei (W.mono (ο n.sub q.sub)) (D.cells λ_ _=>gE.cells) (by simp[bc,τ]) (by grind) (by grind) λs k5 t=>?_;refine ai (bx @o @p @r @x @y @l) ?_;refine⟨⟨d+1,b.drop a,h.drop a,.any,gs++[.J (h.take a) m],s,F++[b.take a],δ,?_,k.drop a,by rw[a3i];omega,by simp[v],D.snoc ⟨_,_,rfl,k.take a⟩,t,ρ⟩,δ⟩;rw[<-C,a3o];rfl
  .have g:((0)<((α b%G:Nat):Int))=False:=eq_false δ;have i:((α b/G:Nat))=(a:Int):=by rw[f,if_neg K];omega
   have j:dN 1 (.J h E) ε (β (.v (.int .i64 (a))))=β (.J (h.take a) .any):=ns δ δ (k.cells λ_ _=>φ);have l:dN 1 (.J h E) (β (.v (.int .i64 (a)))) ε=β (.J (h.drop a) .any):=pS δ δ (k.cells λ_ _=>φ);refine ai (ga @o @p @r @x @y @e @w @A @H @I @B @g @i @j) ?_;refine ak (x9 (b.take a) (h.take a) .any _ (k.take a) (by rw[a2X];omega)) ?_;rintro _ k0⟨m,n,rfl⟩;refine ai (ba @o @p @r @x @y) ?_;refine eb θ (by simp[bc,τ]) λk2 k3 q=>?_;refine ai (ba @o @p @r @x @y) ?_;have k4:=D.len;refine ei (W.mono (ο n.sub q.sub)) (D.cells λ_ _=>gE.cells) (by simp[bc,τ]) (by grind) (by grind) λs k5 t=>?_;refine ai (bx @o @p @r @x @y @l) ?_;refine⟨⟨d+1,b.drop a,h.drop a,.any,gs++[.J (h.take a) m],s,F++[b.take a],δ,?_,k.drop a,by rw[a3i];omega,by simp[v],D.snoc ⟨_,_,rfl,k.take a⟩,t,ρ⟩,δ⟩;rw[<-C,a3o];rfl
 .obtain rfl:d=c:=δ;rw[a5d,a1.dW,a3Y]at C;refine ai (bx @o @p @r @x @y @e) ?_;exact⟨_,θ,W.sub,gs,P,rfl,by rw[<-C];exact D⟩
theorem CV(d:List (an))(a:Χ)(h:Own)(c:U)(k:aC bu d a)(F:α d<=100000):
  AC γ 157 [.J a h] c λp r=>∃o,bj c r 37 a o/\p=.J a o:=by
 refine nu λG=>?_;have x:h=.nil->a=[]:=λy=>by subst y;simp_all
 refine aZ hm MH ρ ?_;simp -dsimp -implicitDefEqProofs (disch:=first|omega|assumption|(simp only[aR,Nat.reduceAdd];try omega)) only[go_sem,simprocAttr,-List.reduceReplicate,↓nD];refine nE (λb=>by rw[x b]) (λb=>?_) ?_
 .have z:a=[]:=by trivial
  subst z;refine ai @a3H ?_;exact⟨c,θ,.nil,bj.nil θ,rfl⟩
 .refine bJ ?_;refine eb θ (by simp[bc]) λL P C=>?_;refine bJ ?_;have S:=k.len;refine ei C (λ_ b=>by cases b) (k.cells λ_ _=>Η) (by rw[a3a];omega) (by rw[a3a];omega) λD E T=>?_;refine ai @a3l.{0} ?_;exact⟨E,θ,D,by trivial,rfl⟩
theorem CW(L:List (an))(S:Χ)(u:Own)(c:Nat)(T:U)(M:aC bu L S)(N:α L<=100000)(k6:c<=100000):
  AC γ 95 [.J S u,.v (.int .i64 (c:Int))] T λO V=>T.sub V/\∃gs Q,O=.J gs Q/\aC (gE bu) (a1.dW c L) gs:=by
 refine aZ hm La ρ ?_;refine bJ ?_;refine cz (λz V=>∃(d:Nat)(b:List (an))(h:Χ)(E:Own)(gs:Χ)(P:Own)(F:List (List (an))),d<=c/\F++a1.dW (c - d) b=a1.dW c L/\aC bu b h/\α b<=100000/\α F=d/\aC (gE bu) F gs/\bj T V 1 gs P/\
   z 0=.J h E/\z 1=.v (.int .i64 c)/\z 5=.J gs P/\z 8=.v (.int .i64 c)/\z 9=.v (.int .i64 d))
  (λz _=>match z 9 with|.v (.int _ X)=>c - X.toNat|_=>0) ⟨0,L,S,u,[],.nil,[],δ,rfl,M,N,rfl,trivial,bj.nil θ,?_⟩ ?_
 .exact jN
 rintro z k7⟨d,b,h,E,gs,P,F,k8,C,k,Y,v,D,W,o,p,r,x,y⟩;by_cases e:(d)<(c:Int)
 .have w:=k.len;have Z:=CT (e:=c - d) δ Y;have A:(c) -(d)=((c - d:Nat):Int):=δ;rw[show c - d=(c -(d+1))+1 by omega,a1.dW]at C;rw[show c -(d+1)+1=c - d by omega]at C;generalize k9:c - d=G at*;have B:¬(G:Int)=0:=δ;have l0:=a6I (α b) G;have H:(α b:Int).tdiv (G:Int)=((α b/G:Nat)):=rfl;have I:(α b:Int).tmod (G:Int)=((α b%G:Nat)):=rfl;obtain⟨a,f⟩:∃a,a=α b/G+(if 0<α b%G then 1 else 0):=⟨_,rfl⟩;rw[<-f]at Z C;by_cases K:0<α b%G
  .have g:((0)<((α b%G:Nat):Int))=True:=eq_true δ;have i:((α b/G:Nat))+1=(a:Int):=by rw[f,if_pos K];omega
   have j:dN 37 (.J h E) ε (β (.v (.int .i64 (a))))=β (.J (h.take a) .any):=ns δ δ (k.cells λ_ _=>Η);have l:dN 37 (.J h E) (β (.v (.int .i64 (a)))) ε=β (.J (h.drop a) .any):=pS δ δ (k.cells λ_ _=>Η);refine ai (ga @o @p @r @x @y @e @w @A @H @I @B @g @i @j) ?_;refine ak (CV (b.take a) (h.take a) .any _ (k.take a) (by rw[a2X];omega)) ?_;rintro _ k0⟨m,n,rfl⟩;refine ai (ba @o @p @r @x @y) ?_;refine eb θ (by simp[bc,τ]) λk2 k3 q=>?_;refine ai (ba @o @p @r @x @y) ?_;have k4:=D.len;refine ei (W.mono (ο n.sub q.sub)) (D.cells λ_ _=>gE.cells) (by simp[bc,τ]) (by grind) (by grind) λs k5 t=>?_;refine ai (bx @o @p @r @x @y @l) ?_;refine⟨⟨d+1,b.drop a,h.drop a,.any,gs++[.J (h.take a) m],s,F++[b.take a],δ,?_,k.drop a,by rw[a3i];omega,by simp[v],D.snoc ⟨_,_,rfl,k.take a⟩,t,ρ⟩,δ⟩;rw[<-C,a3o];rfl
  .have g:((0)<((α b%G:Nat):Int))=False:=eq_false δ;have i:((α b/G:Nat))=(a:Int):=by rw[f,if_neg K];omega
   have j:dN 37 (.J h E) ε (β (.v (.int .i64 (a))))=β (.J (h.take a) .any):=ns δ δ (k.cells λ_ _=>Η);have l:dN 37 (.J h E) (β (.v (.int .i64 (a)))) ε=β (.J (h.drop a) .any):=pS δ δ (k.cells λ_ _=>Η);refine ai (ga @o @p @r @x @y @e @w @A @H @I @B @g @i @j) ?_;refine ak (CV (b.take a) (h.take a) .any _ (k.take a) (by rw[a2X];omega)) ?_;rintro _ k0⟨m,n,rfl⟩;refine ai (ba @o @p @r @x @y) ?_;refine eb θ (by simp[bc,τ]) λk2 k3 q=>?_;refine ai (ba @o @p @r @x @y) ?_;have k4:=D.len;refine ei (W.mono (ο n.sub q.sub)) (D.cells λ_ _=>gE.cells) (by simp[bc,τ]) (by grind) (by grind) λs k5 t=>?_;refine ai (bx @o @p @r @x @y @l) ?_;refine⟨⟨d+1,b.drop a,h.drop a,.any,gs++[.J (h.take a) m],s,F++[b.take a],δ,?_,k.drop a,by rw[a3i];omega,by simp[v],D.snoc ⟨_,_,rfl,k.take a⟩,t,ρ⟩,δ⟩;rw[<-C,a3o];rfl
 .obtain rfl:d=c:=δ;rw[a5d,a1.dW,a3Y]at C;refine ai (bx @o @p @r @x @y @e) ?_;exact⟨_,θ,W.sub,gs,P,rfl,by rw[<-C];exact D⟩
theorem lN{b:Type}:∀ {g:Nat}{l:List b},(a1.dW g l).length=g/\∀a∈a1.dW g l,α a<=α l
 |0,l=>⟨rfl,λa c=>by cases c⟩
 |g+1,l=>by
  have ih:=lN (g:=g) (l:=l.drop (α l/(g+1)+if 0<α l%(g+1)then 1 else 0));refine⟨by rw[a1.dW,a3e,ih.1],λa d=>?_⟩;rw[a1.dW]at d;grind
def CX(T:U)(y V:Nat)(W:ad)(l0:bh T y V W)(a:List (List Ρ))(j:Χ)(e:Own)(c:Nat)(l1:1<=c)(l2:c<=8)(l:aC (gE isRow) a j)(l3:∀m∈a,α m<=100000)(a16:α a<=100000):
  AC γ 49 [.J j e,.bA 52 [dz y c] []] T λu f=>match(dp cR c W a []).1 with
   |.error v=>bh f y V (dp cR c W a []).2/\Ext y V T f/\v≠0/\u=.aF [.J [] .nil,.v (.int .i64 v)]
   |.ok bw=>∃d h,aC bu bw d/\u=.aF [h,.v (.int .i64 0)]/\dd T f y V (dp cR c W a []).2 37 (flat d) h/\(bw=[]->h=.J [] .nil):=by
 refine aZ hm JU ρ ?_;have w:∀N,(R.agg N).cells=N:=λ_=>rfl;have A:=(aN (O:=.nil) (e4:=.nil) (h5:=.nil) bg).len;have O:=l.len;have l4:fa γ 52=true:=Ο;have a18:=bM.J (s:=T) (o:=e) (l.cells λ_ _=>gE.cells);refine ai @O ?_;refine cz (λk f=>∃(b:Nat)(g:ad)(z:List an)(d:Χ)(h:R),b<=α a/\dp cR c g (a.drop b) z=dp cR c W a []/\aC bu z d/\α z=b/\dd T f y V g 37 (flat d) h/\(z=[]->h=.J [] .nil)/\
   k 0=.J j e/\k 1=.bA 52 [dz y c] []/\k 6=h/\k 11=.J j e/\k 12=.v (.int .i64 (α a))/\k 13=.v (.int .i64 b))
  (λk _=>match k 13 with|.v (.int _ l5)=>α a - l5.toNat|_=>0) ⟨0,W,[],[],.J [] .nil,δ,rfl,trivial,rfl,dd.nil l0,λ_=>rfl,?_⟩ ?_
 .exact cn @O
 rintro k B⟨b,g,z,d,h,a19,D,n,l6,H,l7,E,F,G,L,P,S⟩;by_cases Q:(b:Int)<α a
 .have X:a[b]?=β a[b]:=Ν δ;have Y:a.drop b=a[b]::a.drop (b+1):=a3z δ;have Z:=l3 _ (a3r (n:=b) δ);rw[Y,dp]at D;clear Y;generalize a[b]'δ=m at X D Z;obtain⟨a27,l8,q,I,rfl,k0⟩:=l.get X;obtain⟨a29,l9,n0⟩:=(bM.J (s:=B) (o:=e) (l.cells λ_ _=>gE.cells)).get b _ l8;have k2:=n0.ld B θ ι 1 δ (by simp[τ]);have n1:aP ι 1 (R.J q I).cells=.J q I:=rfl;rw[n1]at k2;refine ai (cW @E @F @G @L @P @S @Q @l9 @k2) ?_;refine eC l4 (x3 B y V g H.fl m q (.J q I) c l1 l2 k0 (bM.J (k0.cells λ_ _=>φ)) Z) ?_;rintro u a30⟨k3,n2,s⟩;have k4:=H.step n2 k3;generalize a34:dr g c (cR m)=n3 at*;obtain⟨res,n4⟩:=n3;simp only at D k3 s k4;obtain⟨C,o,p,r,v,k5,x⟩:=s.shape;have k6:=aN (O:=o) (e4:=p) (h5:=r) k5;have i:=k6.len;have K:putAt (ae aB .nil .nil .nil) 0 (ae C o p r)=ae C o p r:=cC bg k5;subst x;refine ai (ff @E @F @G @L @P @S @cm @w @A @i @K) ?_;refine aO λa36 n5=>?_;have M:=k4.mono (μ (X:=.cells (ae C o p r)) θ n5);cases res with
  |error a38=>obtain⟨n9,x⟩:=s;simp only[R.aF.injEq,a5g,R.v.injEq,Value.int.injEq,true_and,and_true]at x;obtain⟨_,rfl⟩:=x;rw[<-D];refine ai (kD @E @F @G @L @P @S @cm @w @A @i @K @σ @n9) ?_;exact⟨_,θ,M.fl,M.ext⟩
  |ok k7=>
   obtain⟨a00,a01,a02,a03,a04,x⟩:=s;simp only[R.aF.injEq,a5g,R.v.injEq,Value.int.injEq,true_and,and_true,R.agg.injEq]at x;obtain⟨x,rfl⟩:=x;obtain⟨a05,a06,a07,a08⟩:=M;refine ai (ga @E @F @G @L @P @S @cm @w @A @i @K @σ @ν k6.t37) ?_;refine iv (by simp[bc,τ,i]) ρ λa42 a09=>?_;have a10:=aw.mono a06 (μ (X:=.cells (flat [R.agg (ae C o p r)])) θ a09);have a11:aC bu (z++[k7]) (d++[R.agg (ae C o p r)]):=n.snoc ⟨a00,a01,a02,a03,a04,by rw[x]⟩;have k8:(flat d).length=α z*37:=by rw[cT (n.cells λ_ _=>Η),n.len]
   have t:(flat [R.agg (ae C o p r)]).length=1*37:=by simp[flat,τ,i]
   refine ai (bx @E @F @G @L @P @S) ?_;refine fx a10 δ (nK t) t (by rw[k8,t];omega) (by rw[k8,t];omega) λa13 a43 k9=>?_;have a14:flat d++flat [R.agg (ae C o p r)]=flat (d++[R.agg (ae C o p r)]):=by simp[flat]
   rw[a14]at k9;refine ai (bx @E @F @G @L @P @S) ?_;exact⟨⟨b+1,n4,z++[k7],_,a13,δ,D,a11,by simp[l6],⟨a05,k9,a07,a08⟩,(λa15=>by simp at a15),ρ⟩,δ⟩
 .obtain rfl:b=α a:=δ;rw[a6z,dp]at D;rw[<-D];refine ai (cd @E @F @G @L @P @S @Q) ?_;exact⟨_,θ,d,h,n,rfl,H,l7⟩
def Xr(h:U)(c k:Nat)(d:ad)(C:bh h c k d)(a:List (List Ρ))(p:Χ)(r:Own)(b:Nat)(D:1<=b)(E:b<=8)(F:aC (gE isRow) a p)(G:∀L∈a,α L<=100000)(P:α a<=100000):
  AC γ 49 [.J p r,.bA 52 [dz c b] []] h λx o=>bh o c k (dp cR b d a []).2/\Ext c k h o/\CS (dp cR b d a []).1 x:=by
 refine(CX h c k d C a p r b D E F G P).view λx o y=>?_;generalize dp cR b d a []=S at*;obtain⟨res,m⟩:=S;cases res with
 |error n=>obtain⟨T,V,W,rfl⟩:=y;exact⟨_,o,View.refl,T,V,W,rfl⟩
 |ok bw=>obtain⟨e,q,z,rfl,f,_⟩:=y;obtain⟨g,i,j,l⟩:=f.rW z;exact⟨_,g,View.aF (a:=[]) i,j,l,e,.any,z,rfl⟩
def nP(a:ad)(b:Nat)(c:List Ρ):Except Int (List an)×ad:=dp cR b a (a1.chunks c) []
def CY(T:U)(y V:Nat)(W:ad)(l0:bh T y V W)(a:List (List (an)))(j:Χ)(e:Own)(c:Nat)(l1:1<=c)(l2:c<=8)(l:aC (gE bu) a j)(l3:∀m∈a,α m<=100000)(a16:α a<=100000):
  AC γ 94 [.J j e,.bA 96 [dz y c] []] T λu f=>match(dp dT c W a []).1 with
   |.error v=>bh f y V (dp dT c W a []).2/\Ext y V T f/\v≠0/\u=.aF [.J [] .nil,.v (.int .i64 v)]
   |.ok bw=>∃d h,aC bu bw d/\u=.aF [h,.v (.int .i64 0)]/\dd T f y V (dp dT c W a []).2 37 (flat d) h/\(bw=[]->h=.J [] .nil):=by
 refine aZ hm L8 ρ ?_;have w:∀N,(R.agg N).cells=N:=λ_=>rfl;have A:=(aN (O:=.nil) (e4:=.nil) (h5:=.nil) bg).len;have O:=l.len;have l4:fa γ 96=true:=Ο;have a18:=bM.J (s:=T) (o:=e) (l.cells λ_ _=>gE.cells);refine ai @O ?_;refine cz (λk f=>∃(b:Nat)(g:ad)(z:List an)(d:Χ)(h:R),b<=α a/\dp dT c g (a.drop b) z=dp dT c W a []/\aC bu z d/\α z=b/\dd T f y V g 37 (flat d) h/\(z=[]->h=.J [] .nil)/\
   k 0=.J j e/\k 1=.bA 96 [dz y c] []/\k 6=h/\k 11=.J j e/\k 12=.v (.int .i64 (α a))/\k 13=.v (.int .i64 b))
  (λk _=>match k 13 with|.v (.int _ l5)=>α a - l5.toNat|_=>0) ⟨0,W,[],[],.J [] .nil,δ,rfl,trivial,rfl,dd.nil l0,λ_=>rfl,?_⟩ ?_
 .exact cn @O
 rintro k B⟨b,g,z,d,h,a19,D,n,l6,H,l7,E,F,G,L,P,S⟩;by_cases Q:(b:Int)<α a
 .have X:a[b]?=β a[b]:=Ν δ;have Y:a.drop b=a[b]::a.drop (b+1):=a3z δ;have Z:=l3 _ (a3r (n:=b) δ);rw[Y,dp]at D;clear Y;generalize a[b]'δ=m at X D Z;obtain⟨a27,l8,q,I,rfl,k0⟩:=l.get X;obtain⟨a29,l9,n0⟩:=(bM.J (s:=B) (o:=e) (l.cells λ_ _=>gE.cells)).get b _ l8;have k2:=n0.ld B θ ι 1 δ (by simp[τ]);have n1:aP ι 1 (R.J q I).cells=.J q I:=rfl;rw[n1]at k2;refine ai (cW @E @F @G @L @P @S @Q @l9 @k2) ?_;refine eC l4 (CM B y V g H.fl m q (.J q I) c l1 l2 k0 (bM.J (k0.cells λ_ _=>Η)) Z) ?_;rintro u a30⟨k3,n2,s⟩;have k4:=H.step n2 k3;generalize a34:dr g c (dT m)=n3 at*;obtain⟨res,n4⟩:=n3;simp only at D k3 s k4;obtain⟨C,o,p,r,v,k5,x⟩:=s.shape;have k6:=aN (O:=o) (e4:=p) (h5:=r) k5;have i:=k6.len;have K:putAt (ae aB .nil .nil .nil) 0 (ae C o p r)=ae C o p r:=cC bg k5;subst x;refine ai (ff @E @F @G @L @P @S @cm @w @A @i @K) ?_;refine aO λa36 n5=>?_;have M:=k4.mono (μ (X:=.cells (ae C o p r)) θ n5);cases res with
  |error a38=>obtain⟨n9,x⟩:=s;simp only[R.aF.injEq,a5g,R.v.injEq,Value.int.injEq,true_and,and_true]at x;obtain⟨_,rfl⟩:=x;rw[<-D];refine ai (kD @E @F @G @L @P @S @cm @w @A @i @K @σ @n9) ?_;exact⟨_,θ,M.fl,M.ext⟩
  |ok k7=>
   obtain⟨a00,a01,a02,a03,a04,x⟩:=s;simp only[R.aF.injEq,a5g,R.v.injEq,Value.int.injEq,true_and,and_true,R.agg.injEq]at x;obtain⟨x,rfl⟩:=x;obtain⟨a05,a06,a07,a08⟩:=M;refine ai (ga @E @F @G @L @P @S @cm @w @A @i @K @σ @ν k6.t37) ?_;refine iv (by simp[bc,τ,i]) ρ λa42 a09=>?_;have a10:=aw.mono a06 (μ (X:=.cells (flat [R.agg (ae C o p r)])) θ a09);have a11:aC bu (z++[k7]) (d++[R.agg (ae C o p r)]):=n.snoc ⟨a00,a01,a02,a03,a04,by rw[x]⟩;have k8:(flat d).length=α z*37:=by rw[cT (n.cells λ_ _=>Η),n.len]
   have t:(flat [R.agg (ae C o p r)]).length=1*37:=by simp[flat,τ,i]
   refine ai (bx @E @F @G @L @P @S) ?_;refine fx a10 δ (nK t) t (by rw[k8,t];omega) (by rw[k8,t];omega) λa13 a43 k9=>?_;have a14:flat d++flat [R.agg (ae C o p r)]=flat (d++[R.agg (ae C o p r)]):=by simp[flat]
   rw[a14]at k9;refine ai (bx @E @F @G @L @P @S) ?_;exact⟨⟨b+1,n4,z++[k7],_,a13,δ,D,a11,by simp[l6],⟨a05,k9,a07,a08⟩,(λa15=>by simp at a15),ρ⟩,δ⟩
 .obtain rfl:b=α a:=δ;rw[a6z,dp]at D;rw[<-D];refine ai (cd @E @F @G @L @P @S @Q) ?_;exact⟨_,θ,d,h,n,rfl,H,l7⟩
def Xs(h:U)(c k:Nat)(d:ad)(C:bh h c k d)(a:List (List (an)))(p:Χ)(r:Own)(b:Nat)(D:1<=b)(E:b<=8)(F:aC (gE bu) a p)(G:∀L∈a,α L<=100000)(P:α a<=100000):
  AC γ 94 [.J p r,.bA 96 [dz c b] []] h λx o=>bh o c k (dp dT b d a []).2/\Ext c k h o/\CS (dp dT b d a []).1 x:=by
 refine(CY h c k d C a p r b D E F G P).view λx o y=>?_;generalize dp dT b d a []=S at*;obtain⟨res,m⟩:=S;cases res with
 |error n=>obtain⟨T,V,W,rfl⟩:=y;exact⟨_,o,View.refl,T,V,W,rfl⟩
 |ok bw=>obtain⟨e,q,z,rfl,f,_⟩:=y;obtain⟨g,i,j,l⟩:=f.rW z;exact⟨_,g,View.aF (a:=[]) i,j,l,e,.any,z,rfl⟩
def je(a:ad)(b:Nat)(c:List (an)):Except Int (List an)×ad:=dp dT b a (a1.chunks c) []
theorem oW{b:Type}{c:List b->bQ}{d:Nat}:∀ {gs:List (List b)}{S S':ad}{acc ks:List an},dp c d S gs acc=(.ok ks,S')->α ks=α acc+α gs
 |[],S,S',acc,ks,a=>by
  grind[dp,Prod.mk.inj,Except.ok.inj]
 |h::gs,S,S',acc,ks,a=>by
  rw[dp]at a;split at a
  .simp_all
  .have:=oW a;rw[this];simp;omega
def gF(c:Nat):Nat->ad->List an->Except Int an×ad
 |0,a,_=>(.error 1,a)
 |d+1,a,bw=>
  if 1<α bw then match je a c bw with
   |(.error h,b)=>(.error h,b)
   |(.ok up,b)=>gF c d b up
  else(.ok (bw.headD aB),a)
def CZ(k:U)(c o:Nat)(g:ad)(H:bh k c o g)(d:List an)(i:Χ)(k6:Own)(b:Nat)(a00:1<=b)(a01:b<=8)(a02:aC bu d i)(a36:α d<=100000):
  AC γ 53 [dz c b,.J i k6] k λk7 h=>bh h c o (gF b (α d+1) g d).2/\Ext c o k h/\gj (gF b (α d+1) g d).1 k7:=by
 refine aZ hm K2 ρ ?_;have T:∀k8,(R.agg k8).cells=k8:=λ_=>rfl;have I:=(aN (O:=.nil) (e4:=.nil) (h5:=.nil) bg).len;have K:∀E V:R,List.take 2 [E,V]=[E,V]:=λ_ _=>rfl;have M:∀E V,aP η 2 [E,V]=.agg [E,V]:=λ_ _=>rfl;refine ai @T ?_;refine aO λj k9=>?_;refine ai (c2 @T @cm) ?_;refine aO λF q=>?_;have l0:j≠F:=by rintro rfl;rw[ν]at q;cases q
 have N:k F=none:=by rw[ξ _ _ (Ζ l0)]at q;exact q
 obtain⟨p,s⟩:∃p:U,p=(k.set j (.cells [.ptr c 0,.v (.int .i64 (b))])).set F (.cells (ae aB .nil .nil .nil)):=⟨_,rfl⟩;have l1:k.sub p:=by rw[s];exact μ (μ θ k9) N
 have aL:p F=β (.cells (ae aB .nil .nil .nil)):=by rw[s,ν]
 have c2:p j=β (.cells [.ptr c 0,.v (.int .i64 (b))]):=by rw[s,ξ _ _ l0,ν]
 have G:=H.ct N;have l2:=H.ct k9;have l3:=(aN (O:=.nil) (e4:=.nil) (h5:=.nil) bg).t37;have l4:putAt (ae aB .nil .nil .nil) 0 (ae aB .nil .nil .nil)=ae aB .nil .nil .nil:=cC bg bg;have O:∀(h)(l5),Ext c o p h->Ext c o k (h.set F l5):=λh l5 Q=>((ω l1).trans Q).set N;simp -dsimp -implicitDefEqProofs (disch:=first|omega|assumption|(simp only[aR,Nat.reduceAdd];try omega)) only[go_sem,simprocAttr,-List.reduceReplicate,T,cm];rw[show(k.set j (.cells (dz c b).cells)).set F (.cells (ζ 32 (R.v (.int .u8 0))++[R.J [] .nil,.J [] .nil]++[R.v (.int .i64 0),.v (.int .i64 0)]++[R.J [] .nil]))=p by rw[s,<-cm];rfl];refine cz (λW h=>∃(e:Nat)(r:ad)(a:List an)(t:Χ)(u:Own),gF b e r a=gF b (α d+1) g d/\α a<e/\e<=100001/\aC bu a t/\bh h c o r/\Ext c o p h/\W 1=.J t u/\W 2=.ptr j 0/\W 4=.ptr F 0)
  (λW _=>match W 1 with|.J i _=>α i|_=>0) ⟨α d+1,g,d,i,k6,rfl,δ,δ,a02,H.mono l1,Ext.refl,?_⟩ ?_
 .exact jN
 rintro W l⟨e,r,a,t,u,x,a38,a42,v,X,m,L,P,S⟩;have w:=v.len;have Y:=m _ _ l2.1 l2.2 c2;have l6:=m _ _ G.1 G.2 aL;obtain⟨Z,rfl⟩:∃Z,e=Z+1:=⟨e - 1,δ⟩;rw[gF]at x;by_cases A:(1:Int)<α a
 .rw[if_pos δ]at x;refine ai (bs @L @P @S @w @A (κ Y) @K @M) ?_;refine ak (tL (α a) δ l) ?_;rintro _ l⟨rfl,rfl⟩;refine ai (bs @L @P @S @w @A (κ Y) @K @M) ?_;have l7:a1.bI (α a)<=100000:=by unfold a1.bI;omega
  refine ak (CW a t u (a1.bI (α a)) l v δ l7) ?_;rintro _ a03⟨k0,gs,a04,rfl,a05⟩;have a06:=k0 _ _ Y;refine ai (bx @L @P @S (κ a06) @K @M) ?_;have k2:=lN (g:=a1.bI (α a)) (l:=a);refine ak (Xs a03 c o r (X.mono k0) _ gs a04 b a00 a01 a05 (λa07 a08=>by have:=k2.2 a07 a08;omega) (by rw[k2.1];exact l7)) ?_;rintro k7 a43⟨n,a09,y⟩;have l8:je r b a=dp dT b r (a1.dW (a1.bI (α a)) a) []:=rfl;rw[<-l8]at n y;have l9:=λB a10 Q=>oW (c:=dT) (d:=b) (gs:=a1.dW (a1.bI (α a)) a) (S:=r) (S':=B) (acc:=[]) (ks:=a10) Q;rw[<-l8]at l9;have k3:=m.trans ((ω k0).trans a09);have a11:=k3 _ _ G.1 G.2 aL;generalize je r b a=a13 at*;obtain⟨res,B⟩:=a13;cases res with
  |error a47=>obtain⟨n0,rfl⟩:=y;simp only at x n;rw[<-x];refine ai (ck @L @P @S @n0 @cm @T (χ a11) @I @l3 @l4) ?_;exact⟨_,θ,n.set G,O _ _ k3,n0,rfl⟩
  |ok up=>
   obtain⟨a14,a15,n1,rfl⟩:=y;have n2:=l9 B up rfl;rw[k2.1]at n2;have a48:α up<α a:=by rw[n2];unfold a1.bI;simp;omega
   have a52:=n1.len;simp only at x n;refine ai (aE @L @P @S) ?_;exact⟨⟨Z,B,up,a14,a15,x,δ,δ,n1,n,k3,rfl⟩,δ⟩
 .rw[if_neg δ]at x;rw[<-x];by_cases k4:(α a:Int)=0
  .have:a=[]:=a2Y δ;subst this;refine ai (fZ @L @P @S @w @A @k4 @cm @T (χ l6) @I @l3 @l4) ?_;exact⟨_,θ,X.set G,O _ _ m,bg,oU,.nil,.nil,.nil,rfl⟩
  .have n3:a[0]?=β a[0]:=Ν δ;have a16:a.headD aB=a[0]'δ:=by cases a with|nil=>simp at k4|cons E V=>rfl
   rw[a16];generalize a[0]'δ=f at n3;obtain⟨E,a18,k5,a19,z,C,D,rfl⟩:=v.get n3;obtain⟨a56,n4,n5⟩:=(bM.J (s:=l) (o:=u) (v.cells λ_ _=>Η)).get 0 _ a18;have y:=aN (O:=z) (e4:=C) (h5:=D) k5;have a27:=y.len;have a29:(R.agg (ae f z C D)).cells=ae f z C D:=rfl;rw[a29]at n5;have n9:=n5.ld l θ η 37 δ (by rw[y.len];omega);rw[show aP η 37 (ae f z C D)=.agg (ae f z C D) by rw[aP,if_pos rfl,y.t37]]at n9;have a30:((0:Nat):Int)=0:=rfl;rw[a30]at n4;have a34:putAt (ae aB .nil .nil .nil) 0 (ae f z C D)=ae f z C D:=cC bg k5;refine ai (ga @L @P @S @w @A @k4 @n4 @n9 @T (χ l6) @I @a27 @a34 y.t37) ?_;exact⟨_,θ,X.set G,O _ _ m,k5,a19,z,C,D,rfl⟩
end Go.Proofs.YtcfpcblgmmeioaaGreat
namespace Go.bt
open Go
variable{g A c0:Χ}{e i v M b9 h9:Nat}
theorem oX{a:Χ}{v:Nat}(b:g.take e=a)(c:α A=v)(d:α c0=i)(h:e+v+i<=α g):
  (putAt (putAt g (e+v) c0) e A).take (e+v+i)=a++(A++c0)/\(putAt (putAt g e A) (e+v) c0).take (e+v+i)=a++(A++c0):=by
 have k:α a=e:=by rw[<-b,a2X];omega
 constructor
 .have o:(g.take (e+v)).length=e+v:=by rw[a2X];omega
  grind[putAt,List.append_assoc,Nat.min_eq_left,List.drop_left',List.take_left',Γ]
 grind[putAt,List.take_left',Γ,List.append_assoc]
variable{e0:IntKind}
theorem nQ(k:e<=M)(o:M<=b9):∃v,c9 i (.aq h9 M b9 i) (β (.v (.int e0 (e:Int)))) ε ε=β v/\fY v=β (.v (.int .i64 ((M - e:Nat):Int)))/\
  ∀(c:U)(a b:Χ),c h9=β (.cells a)->M*i<=α a->a.take (M*i)=b->c8 c i v=β (M - e,b.drop (e*i)):=by
 by_cases p:e<b9
 .refine⟨_,fK k o p,rfl,λc a b d r h=>?_⟩;have x:e*i+(M - e)*i=M*i:=by rw[<-a3U];congr 1;omega
  simp only[c8,κ d];grind
 .obtain rfl:e=M:=δ;obtain rfl:e=b9:=δ;refine⟨_,tf rfl,by simp[fY],λc a b d r h=>?_⟩;have:b.drop (e*i)=[]:=a3D (by rw[<-h,a2X];omega);rw[this,a5d];rfl
theorem D0{a:Nat}{b:IntKind}(c:b9<=e)(d:e<=M):∃v,c9 i (.aq h9 a M i) (β (.v (.int e0 (b9:Int)))) (β (.v (.int b (e:Int)))) ε=β v:=by simp_all [c9,cA,Go.bt.intOf]
theorem D1{a b:Nat}{c d:IntKind}(h:h9<=e)(k:e<=i)(o:i<=b9):∃v,c9 M (.aq a b b9 M) (β (.v (.int e0 (h9:Int)))) (β (.v (.int c (e:Int)))) (β (.v (.int d (i:Int))))=β v:=by simp_all [c9,cA,Go.bt.intOf]
variable{f u e1:U}
theorem aw.first(c:aw f u e g (.aq v M b9 e))(d:i<=M):aw f u e (g.take (i*e)) (.aq v i b9 e):=by
 obtain⟨h,a⟩:=c;rcases a with⟨_,a|a⟩|⟨y,z,C,k,b,o,p,r,D,E,F,x⟩
 .cases a
 .cases a
 simp only[R.aq.injEq,and_true]at b;obtain⟨rfl,rfl,rfl⟩:=b;have G:i*e<=M*e:=a3g _ d;exact⟨h,.inr ⟨v,i,b9,k,rfl,o,p,r,by grind,by simp_all,δ,x⟩⟩
theorem aw.aq{o p:U}{k:Nat}{a:Χ}{r:R}(y:aw o p k a r)(z:a≠[]):∃d b c h,r=.aq d b c k/\o d=ε/\p d=β (.cells h)/\α h=c*k/\h.take (b*k)=a/\α a=b*k/\b<=c/\c<=maxLen:=by
 rcases y.2 with⟨x,_⟩|x
 .trivial
 .exact x
variable{q b7:R}{X j6:bl}
theorem aw.add(o:aw u f i g q)(E:f e=β X)(p:∀a b c,q=.aq a b c i->a≠e):aw (u.set e X) f i g q:=by
 obtain⟨r,d⟩:=o;refine⟨λx F h=>?_,?_⟩
 .by_cases y:x=e;grind[ν]
  .rw[ξ _ _ y]at h;exact r _ _ h
 .rcases d with d|⟨a,b,c,z,k,C,D⟩
  .exact .inl d
  .exact .inr ⟨a,b,c,z,k,by rw[ξ _ _ (p _ _ _ k)];exact C,D⟩
variable{s Z:R -> U -> Prop}
theorem tM{a:cy s}(b:f M=β (.cells g))(c:α g=b9*e)(d:c8 f e q=β (v,A))(h:i+v<=b9)(k:(i+v)*h9<=140737488355328)(o:i+v<=9223372036854775807)
  (p:s (.aq M (i+v) b9 e) (f.set M (.cells (putAt g (i*e) A)))):lC e h9 f (.aq M i b9 e) q (bX s a):=by
 simp_all [lC,uX,bX]
end Go.bt
namespace Go.Proofs.YtcfpcblgmmeioaaGreat
open Go Go.bt
theorem Xt(z o:U)(c:Χ)(C:R)(D:aw z o 1 c C)(a:Nat)(E:a<α c)(u:α c<=100000):
  AC γ 234 [C,.v (.int .i64 (a:Int)),.v (.int .i64 ((a:Int)+1))] o λT V=>aw z V 1 (c.take a++c.drop (a+1)) T:=by
 obtain⟨d,b,h,F,rfl,G,L,P,W,v,p,e⟩:=D.aq (λf=>by rw[f]at E;simp at E);refine aZ hm OM ρ ?_;have w:b=α c:=δ;have g:(a)+1=((a+1:Nat):Int):=δ;rw[g];obtain⟨A,i⟩:=D1 (M:=1) (a:=d) (b:=b) (h9:=a) (e:=a+1) (e0:=.i64) (c:=.i64) (d:=.i64) δ δ p;have j:c9 1 (.aq d b h 1) ε (β (.v (.int .i64 (a)))) ε=β (.aq d a h 1):=hi δ;obtain⟨B,l,_,r⟩:=nQ (i:=1) (h9:=d) (e:=a+1) (e0:=.i64) δ p;have r:=r o F c L (by rw[P];omega) W;have m:¬(a)=((a+1:Nat):Int):=δ;refine dt (aL @i @j @l @m) ?_;refine tM L P r δ δ δ ?_;have n:a+(b -(a+1))=b - 1:=δ;rw[n,a3M];have H:(c.drop ((a+1)*1)).length=b -(a+1):=by rw[a3i];omega
 obtain⟨k,x⟩:∃k,k=putAt F a (c.drop ((a+1)*1)):=⟨_,rfl⟩;have y:α k=h:=by rw[x,eh _ _ _ δ];omega
 have q:k.take (b - 1)=c.take a++c.drop (a+1):=by rw[x,putAt];grind
 rw[<-x];have s:(o.set d (.cells k)) d=β (.cells k):=ν _ _ _;have S:c9 1 (.aq d (b - 1) h 1) (β (.v (.int .i64 ((b - 1:Nat))))) (β (.v (.int .i64 ((b))))) ε=β (.bB d ((b - 1)*1) (b -(b - 1)) (h -(b - 1)) 1):=Bh δ p δ;have t:=w7 (e:=1) (M:=b -(b - 1)) (v:=b - 1) (b9:=h -(b - 1)) (A:=[R.J [] .nil]) s (by rw[y];omega);rw[a3M]at S;refine dt (aE @S @t @σ) ?_;refine⟨_,θ,μ D.1 G,.inr ⟨d,b - 1,h,_,rfl,G,ν _ _ _,?_,?_,?_,δ,e⟩⟩
 .rw[eh _ _ _ (by rw[kv,y];simp;omega),y,a3M]
 .rw[putAt,a3M,a3o,a4F (by rw[a2X];omega),a4a,a4V,q]
 grind
theorem Xu(l o:U)(d:Χ)(H:R)(y:aw l o 1 d H)(O:d≠[])(a:Nat)(l3:a<=α d)(l4:α d<=100000)(k:R)(z:Nat)(m:l z=β (.cells [k])):
  AC γ 227 [H,.v (.int .i64 (a:Int)),.aq z 1 1 1] o λQ G=>aw l G 1 (d.take a++k::d.drop a) Q:=by
 obtain⟨c,b,h,x,rfl,n,D,q,s,l5,X,Y⟩:=y.aq O;refine aZ hm OA ρ ?_;have l6:b=α d:=δ;have L:=y.1 _ _ m;have I:c≠z:=by rintro rfl;rw[n]at m;cases m
 have W:((1:Nat):Int)=1:=rfl;obtain⟨l7,e,_,K⟩:=nQ (i:=1) (h9:=c) (e:=a) (e0:=.i64) δ X;have t:∀G:U,G z=β (.cells [k])->c8 G 1 (.aq z 1 1 1)=β (1,[k]):=λG y=>by simp[c8,κ y]
 by_cases c1:(a:Int)=b
 .have Z:=eq_true c1;refine dt (aE @e @Z @W) ?_;refine fx y δ (t o L) rfl (by grind) (by grind) λl8 G l9=>?_;refine Bl ?_;grind[θ,Θ,List.drop_eq_nil_of_le]
 have n0:a<b:=δ;have k0:=K o x d D δ s;rw[a3M]at k0;have M:(d.drop a).length=b - a:=by rw[a3i];omega
 by_cases c2:(h)<(b:Int)+1
 .have f:c9 1 (.aq c b h 1) ε (β (.v (.int .i64 (a)))) ε=β (.aq c a h 1):=hi δ;have N:(b)+1 -(a)=((b+1 - a:Nat):Int):=δ;refine dt (bx @e @c1 @W @c2 @f @N) ?_;refine w9 D q δ δ δ λp C k2 g i k3 k4=>?_;have k5:a+(b+1 - a)=b+1:=δ;rw[k5]at i k4|-;have k6:p≠c:=by rintro rfl;rw[g]at D;cases D
  have k7:p≠z:=by rintro rfl;rw[g]at L;cases L
  obtain⟨E,k8⟩:∃E,E=x.take (a*1)++(ζ (b+1 - a) [R.J [] .nil]).flatten++k2:=⟨_,rfl⟩;have k9:α E=C:=by grind[Γ,kv,List.length_take]
  have u:E.take a=d.take a:=by grind
  rw[<-k8];have V:c9 1 (.aq p (b+1) C 1) (β (.v (.int .i64 (a)))) ε ε=β (.bB p (a*1) (b+1 - a) (C - a) 1):=fK δ i δ;have F:c9 1 (.aq p (b+1) C 1) (β (.v (.int .i64 ((a)+1)))) ε ε=β (.bB p ((a+1)*1) (b+1 -(a+1)) (C -(a+1)) 1):=by rw[show(a)+1=((a+1:Nat):Int) by omega];exact fK δ i δ
  rw[a3M]at V F;rw[a6X]at F;have v:(o.set p (.cells E)) z=β (.cells [k]):=by rw[ξ _ _ (Ζ k7)];exact L
  have P:=gP (M:=a) (h9:=C - a) (i:=b+1 - a) (t _ v) (ν o p (.cells E)) δ;have w:[k].take ((b+1 - a)*1)=[k]:=a2U Κ;rw[w]at P;obtain⟨r,S⟩:∃r,r=putAt E a [k]:=⟨_,rfl⟩;have A:α r=C:=by rw[S,eh _ _ _ Κ,k9]
  rw[<-S]at P;have l0:(o.set p (.cells r)) c=β (.cells x):=by rw[ξ _ _ (Ζ k6)];exact D
  have j:=K _ x d l0 δ s;rw[a3M]at j;have T:=gP (M:=a+1) (h9:=C -(a+1)) (i:=b - a) j (ν o p (.cells r)) δ;have B:(d.drop a).take ((b - a)*1)=d.drop a:=a2U δ;rw[B]at T;refine dt (ff @e @c1 @W @c2 @f @N @V @F @P @T @σ) ?_;refine⟨_,θ,μ y.1 (Μ y.1 g),.inr ⟨p,b+1,C,_,rfl,Μ y.1 g,ν _ _ _,?_,?_,?_,i,k3⟩⟩
  .rw[eh _ _ _ δ,A,a3M]
  .have:=(oX (A:=[k]) (v:=1) u rfl M δ).2;rw[show(b+1)*1=a+1+(b - a) by omega,S];exact this
  grind
 .have f:c9 1 (.aq c b h 1) ε (β (.v (.int .i64 ((b)+1)))) ε=β (.aq c (b+1) h 1):=by rw[show(b)+1=((b+1:Nat):Int) by omega];exact hi δ
  have V:c9 1 (.aq c (b+1) h 1) (β (.v (.int .i64 (a)))) ε ε=β (.bB c (a*1) (b+1 - a) (h - a) 1):=fK δ δ δ;have F:c9 1 (.aq c (b+1) h 1) (β (.v (.int .i64 ((a)+1)))) ε ε=β (.bB c ((a+1)*1) (b+1 -(a+1)) (h -(a+1)) 1):=by rw[show(a)+1=((a+1:Nat):Int) by omega];exact fK δ δ δ
  rw[a3M]at V F;rw[a6X]at F;have l1:x≠[]:=by rintro rfl;simp at q;omega
  have l2:ku (.aq z 1 1 1) (.bB c (a+1) (b - a) (h -(a+1)) 1) o=β (.v (.bool ι)):=w8 rfl rfl (Ζ I) (pX L ρ) (pX D l1);have j:c8 o 1 (.bB c a (b+1 - a) (h - a) 1)=β (b+1 - a,(x.drop a).take (b+1 - a)):=by simp only[c8,κ D,a3M];grind
  have T:=gP (M:=a+1) (h9:=h -(a+1)) (i:=b - a) j D δ;have B:((x.drop a).take (b+1 - a)).take ((b - a)*1)=d.drop a:=by rw[a4a,<-s,a4i];congr 1;omega
  rw[B]at T;obtain⟨r,S⟩:∃r,r=putAt x (a+1) (d.drop a):=⟨_,rfl⟩;rw[<-S]at T;have A:α r=α x:=by rw[S,eh _ _ _ δ]
  have v:(o.set c (.cells r)) z=β (.cells [k]):=by rw[ξ _ _ (Ζ I)];exact L
  have P:=gP (M:=a) (h9:=h - a) (i:=b+1 - a) (t _ v) (ν o c (.cells r)) δ;have w:[k].take ((b+1 - a)*1)=[k]:=a2U Κ;rw[w]at P;refine dt (ff @e @c1 @W @c2 @f @V @F @l2 @T @P @σ) ?_;refine⟨_,θ,μ y.1 n,.inr ⟨c,b+1,h,_,rfl,n,ν _ _ _,?_,?_,?_,δ,Y⟩⟩
  .rw[eh _ _ _ Κ,A,q]
  .have u:x.take a=d.take a:=by grind
   have:=(oX (A:=[k]) (v:=1) u rfl M δ).1;grind
  grind
end Go.Proofs.YtcfpcblgmmeioaaGreat
namespace Go.bt
open Go
variable{f u e1:U}{e i v M b9 h9:Nat}{X j6:bl}
theorem U.rX(a:f e=β X):f.set e X=f:=by grind[ν,ξ]
variable{e0:IntKind}{g A c0:Χ}
def tN(k:i<=M)(h:M<=b9)(o:α g=e):∃v,c9 e (.aq h9 M b9 e) (β (.v (.int e0 (i:Int)))) ε ε=β v/\
  ∀(b:U)(a:Χ),b h9=β (.cells a)->α a=b9*e->∃c,kt e g v b=β (b.set h9 (.cells c))/\α c=α a/\c.take (i*e)=a.take (i*e):=by
 by_cases p:i<b9
 .refine⟨_,fK k h p,λb a d r=>?_⟩;have x:i*e+(M - i)*e=M*e:=by rw[<-a3U];congr 1;omega
  have y:M*e<=b9*e:=a3g _ h;have z:i*e<=α a:=δ;refine⟨_,w7 d δ,?_,?_⟩
  .rw[eh _ _ _ (by rw[kv,o];omega)]
  .rw[putAt,a3o,a4F (by rw[a2X];omega),a4a,a4V]
 .obtain rfl:i=M:=δ;obtain rfl:i=b9:=δ;exact⟨_,tf rfl,λb a d r=>⟨a,by rw[US,U.rX d],rfl,rfl⟩⟩
end Go.bt
namespace Go.Proofs.YtcfpcblgmmeioaaGreat
open Go Go.bt
theorem D2(n0 X r:U)(x G:Χ)(k9 v:R)(o b a c:Nat)(l0:Int)(n1:l0=(c:Int))(C:aw X r 37 x k9)(l1:α x=o*37)(n2:aw n0 X 37 G v)(V:α G=b*37)(a47:0<b)(a48:a<c)(a52:c<=o)(a56:o<=100000)(a57:b<=100000):
  AC γ 230 [k9,.v (.int .i64 (a:Int)),.v (.int .i64 l0),v] r λn3 g=>aw X g 37 (x.take (a*37)++(G++x.drop (c*37))) n3:=by
 subst n1;obtain⟨h,n4,p,z,rfl,e,E,t,Y,a61,Z,k0⟩:=C.aq (λk2=>by rw[k2]at l1;simp at l1;omega);obtain⟨f,n5,l2,u,rfl,a62,k3,n9,a63,a65,a68,a69⟩:=n2.aq (λk2=>by rw[k2]at V;simp at V;omega);obtain rfl:o=n4:=δ;obtain rfl:b=n5:=δ;have L:=C.1 _ _ k3;have l3:h≠f:=by rintro rfl;rw[e]at k3;cases k3
 have m:∀g:U,g f=β (.cells u)->c8 g 37 (.aq f b l2 37)=β (b,G):=λg C=>by
  simp only[c8,κ C];grind
 refine aZ hm Ap ρ ?_;obtain⟨a71,n⟩:=D0 (i:=37) (h9:=h) (a:=o) (M:=p) (b9:=a) (e:=c) (e0:=.i64) (b:=.i64) δ δ;have q:¬(a:Int)=c:=δ;have s:c9 37 (.aq h o p 37) ε (β (.v (.int .i64 (a)))) ε=β (.aq h a p 37):=hi δ;have l4:(ζ 32 (R.v (.int .u8 0))++[R.J [] .nil,.J [] .nil]++[R.v (.int .i64 0),.v (.int .i64 0)]++[R.J [] .nil]).length=37:=ρ;have w:(x.take (a*37)).length=a*37:=by rw[a2X];omega
 by_cases c1:(c:Int)=o
 .have a00:=eq_true c1;obtain rfl:c=o:=δ;have a01:x.drop (c*37)=[]:=a3D δ;rw[a01,a3Y];refine dt (aL @n @q @a00 @s) ?_;by_cases aE:a+b<c
  .refine tM E t (m r L) δ δ δ ?_;obtain⟨k,y⟩:∃k,k=putAt z (a*37) G:=⟨_,rfl⟩;have i:α k=α z:=by rw[y,eh _ _ _ δ]
   rw[<-y];obtain⟨a02,F,P⟩:=tN (h9:=h) (i:=a+b) (e0:=.i64) δ Z l4;obtain⟨j,k4,a03,l5⟩:=P (r.set h (.cells k)) k (ν _ _ _) δ;have k5:((a+b:Nat))<(c:Int):=δ;refine dt (aL @k5 @F @k4 @σ) ?_;refine⟨_,θ,μ C.1 e,.inr ⟨h,a+b,p,_,rfl,e,ν _ _ _,δ,?_,by rw[a2V,w];omega,δ,k0⟩⟩;grind[putAt,List.take_left',Γ,List.length_take]
  .refine fx (C.first δ) δ (m r L) V (by rw[w];omega) (by rw[w];omega) λa73 g l6=>?_;obtain⟨a04,a05,a74,a06⟩:=l6.src;rw[a2V,w,V]at a05;obtain rfl:a04=a+b:=δ;have k5:¬((a+b:Nat))<(c:Int):=δ;refine dt (c2 @a06 @k5) ?_;exact⟨_,θ,l6⟩
 have a81:c<o:=δ;obtain⟨a07,A,B,l7⟩:=nQ (i:=37) (h9:=h) (e0:=.i64) δ Z;have k6:(x.drop (c*37)).length=(o - c)*37:=by rw[a3i];omega
 obtain⟨d,a83⟩:∃a08,a08=a+b+(o - c):=⟨_,rfl⟩;have a84:(a)+(b)+((o - c:Nat))=(d:Int):=δ;have H:(a)+(b)=((a+b:Nat):Int):=δ;have I:((a+b:Nat))+((o - c:Nat))=(d:Int):=δ;by_cases c2:(p)<(d:Int)
 .have l8:(d) -(a)=((d - a:Nat):Int):=δ;refine dt (ck @n @q @c1 @s @A @B @H @I @c2 @l8) ?_;refine w9 E t δ δ δ λD S a09 K M a10 a11=>?_;have a13:a+(d - a)=d:=δ;rw[a13]at M a11|-;have a14:D≠h:=by rintro rfl;rw[K]at E;cases E
  have a15:D≠f:=by rintro rfl;rw[K]at L;cases L
  obtain⟨T,a16⟩:∃T,T=z.take (a*37)++(ζ (d - a) (ζ 32 (R.v (.int .u8 0))++[R.J [] .nil,.J [] .nil]++[R.v (.int .i64 0),.v (.int .i64 0)]++[R.J [] .nil])).flatten++a09:=⟨_,rfl⟩;have a18:α T=S*37:=by grind[Γ,kv,List.length_take]
  have N:T.take (a*37)=x.take (a*37):=by grind
  rw[<-a16];have O:c9 37 (.aq D d S 37) (β (.v (.int .i64 (a)))) ε ε=β (.bB D (a*37) (d - a) (S - a) 37):=fK δ M δ;have Q:c9 37 (.aq D d S 37) (β (.v (.int .i64 ((a+b:Nat))))) ε ε=β (.bB D ((a+b)*37) (d -(a+b)) (S -(a+b)) 37):=fK δ M δ;have k7:(r.set D (.cells T)) f=β (.cells u):=by rw[ξ _ _ (Ζ a15)];exact L
  have l:=gP (M:=a*37) (h9:=S - a) (i:=d - a) (m _ k7) (ν r D (.cells T)) δ;rw[a2U δ]at l;obtain⟨k,y⟩:∃k,k=putAt T (a*37) G:=⟨_,rfl⟩;have i:α k=α T:=by rw[y,eh _ _ _ δ]
  rw[<-y]at l;have a19:(r.set D (.cells k)) h=β (.cells z):=by rw[ξ _ _ (Ζ a14)];exact E
  have l9:=gP (M:=(a+b)*37) (h9:=S -(a+b)) (i:=d -(a+b)) (l7 _ z x a19 δ Y) (ν r D (.cells k)) δ;rw[a2U δ]at l9;refine dt (Bg @n @q @c1 @s @A @B @H @I @c2 @l8 @O @Q @l @l9 @σ) ?_;refine⟨_,θ,μ C.1 (Μ C.1 K),.inr ⟨D,d,S,_,rfl,Μ C.1 K,ν _ _ _,?_,?_,?_,M,a10⟩⟩
  .rw[eh _ _ _ δ,i,a18]
  .have:=(oX N V k6 δ).2;rw[show d*37=a*37+b*37+(o - c)*37 by omega,y,show(a+b)*37=a*37+b*37 by omega];exact this
  grind
 have O:c9 37 (.aq h o p 37) ε (β (.v (.int .i64 (d)))) ε=β (.aq h d p 37):=hi δ;have Q:c9 37 (.aq h d p 37) (β (.v (.int .i64 (a)))) ε ε=β (.bB h (a*37) (d - a) (p - a) 37):=fK δ δ δ;have l:c9 37 (.aq h d p 37) (β (.v (.int .i64 ((a+b:Nat))))) ε ε=β (.bB h ((a+b)*37) (d -(a+b)) (p -(a+b)) 37):=fK δ δ δ;have N:z.take (a*37)=x.take (a*37):=by grind
 by_cases aE:((a+b:Nat))<=(c:Int)
 .have F:=gP (M:=a*37) (h9:=p - a) (i:=d - a) (m r L) E δ;rw[a2U δ]at F;obtain⟨k,y⟩:∃k,k=putAt z (a*37) G:=⟨_,rfl⟩;have i:α k=α z:=by rw[y,eh _ _ _ δ]
  have a86:(k.drop (c*37)).take ((o - c)*37)=x.drop (c*37):=by
   have a27:(z.take (a*37)++G).length=(a+b)*37:=by grind
   rw[y,putAt,show c*37=(a+b)*37+(c*37 -(a+b)*37) by omega,<-a3G,a5J a27,a3G,<-Y,a4i];congr 1
   .omega
   .congr 1;omega
  rw[<-y]at F;have a88:c9 37 (.aq h o p 37) (β (.v (.int .i64 (c)))) ε ε=β (.bB h (c*37) (o - c) (p - c) 37):=fK δ δ δ;have a29:c8 (r.set h (.cells k)) 37 (.bB h (c*37) (o - c) (p - c) 37)=β (o - c,x.drop (c*37)):=by simp only[c8,κ (ν r h (.cells k))];grind
  have P:=gP (M:=(a+b)*37) (h9:=p -(a+b)) (i:=d -(a+b)) a29 (ν r h (.cells k)) δ;rw[a2U δ,σ]at P;obtain⟨j,k8⟩:∃j,j=putAt k ((a+b)*37) (x.drop (c*37)):=⟨_,rfl⟩;have a89:α j=α z:=by rw[k8,eh _ _ _ δ,i]
  rw[<-k8]at P;obtain⟨a02,a30,a34⟩:=tN (h9:=h) (i:=d) (e0:=.i64) δ Z l4;obtain⟨W,k4,a03,l5⟩:=a34 (r.set h (.cells j)) j (ν _ _ _) δ;have a36:a07=.bB h (c*37) (o - c) (p - c) 37:=by grind
  subst a36;refine dt (UF @n @q @c1 @s @A @B @H @I @c2 @aE @O @Q @l @F @P @a30 @k4 @σ) ?_;refine⟨_,θ,μ C.1 e,.inr ⟨h,d,p,_,rfl,e,ν _ _ _,δ,?_,?_,δ,k0⟩⟩
  .rw[l5,k8,y,show d*37=a*37+b*37+(o - c)*37 by omega,show(a+b)*37=a*37+b*37 by omega];exact(oX N V k6 δ).2
  grind
 .have a38:z≠[]:=by rintro rfl;simp at t;omega
  have a42:u≠[]:=by rintro rfl;simp at n9;omega
  have a43:ku (.bB h ((a+b)*37) (d -(a+b)) (p -(a+b)) 37) (.aq f b l2 37) r=β (.v (.bool ι)):=w8 rfl rfl l3 (pX E a38) (pX L a42);have F:=gP (M:=(a+b)*37) (h9:=p -(a+b)) (i:=d -(a+b)) (l7 r z x E δ Y) E δ;rw[a2U δ]at F;obtain⟨k,y⟩:∃k,k=putAt z ((a+b)*37) (x.drop (c*37)):=⟨_,rfl⟩;have i:α k=α z:=by rw[y,eh _ _ _ δ]
  rw[<-y]at F;have k7:(r.set h (.cells k)) f=β (.cells u):=by rw[ξ _ _ (Ζ l3)];exact L
  have P:=gP (M:=a*37) (h9:=p - a) (i:=d - a) (m _ k7) (ν r h (.cells k)) δ;rw[a2U δ,σ]at P;refine dt (nx @n @q @c1 @s @A @B @H @I @c2 @aE @O @Q @l @a43 @F @P @σ) ?_;refine⟨_,θ,μ C.1 e,.inr ⟨h,d,p,_,rfl,e,ν _ _ _,?_,?_,?_,δ,k0⟩⟩
  .rw[eh _ _ _ δ,i,t]
  .rw[y,show d*37=a*37+b*37+(o - c)*37 by omega,show(a+b)*37=a*37+b*37 by omega];exact(oX N V k6 δ).1
  grind
theorem Xv(S r:U)(k:Χ)(T:R)(c a b:Nat)(V:Int)(s:V=(b:Int))(F:aw S r 37 k T)(e:α k=c*37)(k7:a<b)(k8:b<=c)(k9:c<=100000):
  AC γ 230 [T,.v (.int .i64 (a:Int)),.v (.int .i64 V),.J [] .nil] r λt C=>aw S C 37 (k.take (a*37)++k.drop (b*37)) t:=by
 subst s;obtain⟨d,u,h,p,rfl,D,x,f,v,l0,G,g⟩:=F.aq (λw=>by rw[w]at e;simp at e;omega);obtain rfl:c=u:=δ;have i:∀C:U,c8 C 37 (.J [] .nil)=β (0,[]):=λC=>rfl;refine aZ hm Ap ρ ?_;obtain⟨l1,j⟩:=D0 (i:=37) (h9:=d) (a:=c) (M:=h) (b9:=a) (e:=b) (e0:=.i64) (b:=.i64) δ δ;have l:¬(a:Int)=b:=δ;have m:c9 37 (.aq d c h 37) ε (β (.v (.int .i64 (a)))) ε=β (.aq d a h 37):=hi δ;have n:(ζ 32 (R.v (.int .u8 0))++[R.J [] .nil,.J [] .nil]++[R.v (.int .i64 0),.v (.int .i64 0)]++[R.J [] .nil]).length=37:=ρ;have A:(k.take (a*37)).length=a*37:=by rw[a2X];omega
 by_cases c1:(b:Int)=c
 .have B:=eq_true c1;obtain rfl:b=c:=δ;have H:k.drop (b*37)=[]:=a3D δ;rw[H,a3Y];refine dt (aL @j @l @B @m) ?_;refine tM x f (i r) δ δ δ ?_;have L:putAt p (a*37) []=p:=by simp[putAt]
  rw[L,U.rX x];obtain⟨I,E,z⟩:=tN (h9:=d) (i:=a) (e0:=.i64) δ G n;obtain⟨y,P,K,M⟩:=z r p x f;have N:(a)<(b:Int):=δ;refine dt (aL @a4K @N @E @P) ?_;refine⟨_,θ,μ F.1 D,.inr ⟨d,a,h,_,rfl,D,ν _ _ _,δ,?_,A,δ,g⟩⟩;grind
 have l2:b<c:=δ;obtain⟨O,Q,X,Y⟩:=nQ (i:=37) (h9:=d) (e0:=.i64) δ G;have l3:(k.drop (b*37)).length=(c - b)*37:=by rw[a3i];omega
 obtain⟨o,l4⟩:∃Z,Z=a+(c - b):=⟨_,rfl⟩;have k0:(a)+((c - b:Nat))=(o:Int):=δ;have c2:¬(h)<(o:Int):=δ;have k2:c9 37 (.aq d c h 37) ε (β (.v (.int .i64 (o)))) ε=β (.aq d o h 37):=hi δ;have k3:c9 37 (.aq d o h 37) (β (.v (.int .i64 (a)))) ε ε=β (.bB d (a*37) (o - a) (h - a) 37):=fK δ δ δ;have l5:p.take (a*37)=k.take (a*37):=by grind
 have aE:(a)<=(b:Int):=δ;have L:putAt p (a*37) ([])=p:=by simp[putAt]
 have E:=gP (M:=a*37) (h9:=h - a) (i:=o - a) (i r) x δ;rw[List.take_nil,L,U.rX x]at E;have l6:c9 37 (.aq d c h 37) (β (.v (.int .i64 (b)))) ε ε=β (.bB d (b*37) (c - b) (h - b) 37):=fK δ δ δ;have k4:O=.bB d (b*37) (c - b) (h - b) 37:=by simp_all
 subst k4;have z:=gP (M:=a*37) (h9:=h - a) (i:=o - a) (Y r p k x δ v) x δ;rw[a2U δ]at z;obtain⟨y,q⟩:∃y,y=putAt p (a*37) (k.drop (b*37)):=⟨_,rfl⟩;have l7:α y=α p:=by rw[q,eh _ _ _ δ]
 rw[<-q]at z;obtain⟨I,k5,k6⟩:=tN (h9:=d) (i:=o) (e0:=.i64) δ G n;obtain⟨W,P,K,M⟩:=k6 (r.set d (.cells y)) y (ν _ _ _) δ;have l8:(([]:Χ).length:Int)=0:=rfl;refine dt (nx @j @l @c1 @m @Q @X @Int.add_zero @k0 @c2 @aE @k2 @k3 @E @z @k5 @P @σ) ?_;refine⟨_,θ,μ F.1 D,.inr ⟨d,o,h,_,rfl,D,ν _ _ _,δ,?_,?_,δ,g⟩⟩;grind[putAt,List.take_left',Γ];grind
end Go.Proofs.YtcfpcblgmmeioaaGreat
namespace Go.bt
open Go
structure jf(c:U)(k:Nat)(a:R)(n:Nat)(us:Χ):Prop where
 src:∀b,c.sub b->c8 b k a=β (n,us)
 len:fY a=β (.v (.int .i64 (n:Int)))
 one:a.cells=[a]
 full:α us=n*k
variable{f u e1:U}{g A c0:Χ}{e i v M b9 h9:Nat}
def jf.mono{a:R}(b:jf f e a i g)(c:f.sub u):jf u e a i g:=⟨λd h=>b.src d (ο c h),b.len,b.one,b.full⟩
theorem jf.J{s:U}{b:Nat}{a:Χ}{o:Own}(c:bc b a):jf s b (.J a o) (α a) (flat a):=⟨λk _=>by
 have:=a3h.2 λd h=>decide_eq_true (c d h);simp only[c8,this,if_true],rfl,rfl,cT c⟩
variable{q b7:R}
theorem aw.ai(b:aw u f e g q)(k:0<e):∃a,α g=a*e/\jf f e q a g:=by
 obtain⟨a,c,_,d⟩:=b.src;refine⟨a,c,λo h=>?_,d,?_,c⟩
 .obtain⟨p,r,x,_⟩:=(aw.mono b h).src;grind
 .rcases b.2 with⟨_,rfl|rfl⟩|⟨y,a,z,C,rfl,_⟩<;>rfl
variable{s Z:R -> U -> Prop}{b4:FuncId}{m:Program}
theorem AC.mK(h:View f q u b7)(k:AC m b4 (g++b7::A) u s):AC m b4 (g++q::A) f s:=by
 refine k.pre λC o p a r=>?_;have x:=a.2 (α g) q ρ;obtain⟨y,b,D⟩:=h p o _ r x;refine⟨y,?_,b⟩;have c:=a.mono b.le;refine⟨by rw[c.1];simp,λd z E=>?_⟩;by_cases F:d=α g;simp_all
 .refine c.2 d z ?_;grind
end Go.bt
namespace Go.Proofs.YtcfpcblgmmeioaaGreat
open Go Go.bt
theorem Xw(a:Nat)(C:a<=100000000)(d:U):
  AC γ 337 [.J [] .nil,.v (.int .i64 (a:Int))] d λr x=>aw d x 1 [] r:=by
 refine aZ hm R0 ρ ?_;have h:¬(a:Int)<0:=δ;have k:(a:Int) -(0 - 0)=a:=δ;have o:c9 1 (.J [] .nil) ε (β (.v (.int .i64 0))) ε=β (.J [] .nil):=w6;by_cases c1:(0:Int)<a
 .refine dt (ba @h @k @c1 @o @a6A) ?_;refine Bk δ δ δ λb c D p E y F=>?_;have z:c9 1 (.aq b a c 1) ε (β (.v (.int .i64 0))) ε=β (.aq b 0 c 1):=hi (v:=0) δ;refine dt @z ?_;refine⟨_,θ,μ θ p,.inr ⟨b,0,c,_,rfl,p,ν _ _ _,?_,ρ,ρ,δ,y⟩⟩;simp_all
 .refine dt (ba @h @k @c1 @o @a6A) ?_;exact⟨_,θ,aw.nil θ⟩
def Xx(d:U)(h k:R)(D:Own)(o r:Nat)(V i:Χ)(z:jf d 1 h o V)(C:jf d 1 k r i)(k5:o<=100000)(k6:r<=100000):
  AC γ 318 [.J [h,k] D] d λB b=>aw d b 1 (V++i) B:=by
 refine aZ hm QG ρ ?_;have H:=z.len;have I:=C.len;have u:bM d 1 (.J [h,k] D) [h,k]:=bM.J λk7 v=>by
  simp only[a3n,a4r,or_false]at v;rcases v with rfl|rfl
  .rw[z.one];rfl
  .rw[C.one];rfl
 have W:(([h,k].length):Int)=2:=rfl;obtain⟨K,e,M⟩:=u.get 0 h rfl;obtain⟨N,f,O⟩:=u.get 1 k rfl;have w:∀b,d.sub b->cV ι 1 b K=β h:=λb j=>by rw[M.ld b j ι 1 δ (by rw[z.one];simp),z.one];rfl
 have A:∀b,d.sub b->cV ι 1 b N=β k:=λb j=>by rw[O.ld b j ι 1 δ (by rw[C.one];simp),C.one];rfl
 have Q:((0:Nat):Int)=0:=rfl;have X:((1:Nat):Int)=1:=rfl;rw[Q]at e;rw[X]at f;have Y:=w d θ;have Z:=A d θ;have ba:¬(o:Int)<0:=δ;have bx:¬(o)+(r:Int)<0:=δ;refine dt @W ?_;refine cz (λa b=>b=d/\a 0=.J [h,k] D/\a 9=.J [h,k] D/\a 10=.v (.int .i64 2)/\((a 11=.v (.int .i64 0)/\a 3=.v (.int .i64 0))\/(a 11=.v (.int .i64 1)/\a 3=.v (.int .i64 o))\/(a 11=.v (.int .i64 2)/\a 3=.v (.int .i64 ((o)+(r))))))
  (λa _=>match a 11 with|.v (.int _ l)=>2 - l.toNat|_=>0) ⟨rfl,?_⟩ ?_
 .refine dt @W ?_;simp
 rintro a m⟨rfl,E,F,G,n⟩;rcases n with⟨x,p⟩|⟨x,p⟩|⟨x,p⟩
 .refine dt (ck @E @F @G @x @p @e @Y @H @ba @a6x) ?_;simp
 .refine dt (cW @E @F @G @x @p @f @Z @I @bx) ?_;simp
 .have k0:(o)+(r)=((o+r:Nat):Int):=δ;rw[k0]at p;simp -dsimp -implicitDefEqProofs (disch:=first|omega|assumption|(simp only[aR,Nat.reduceAdd];try omega)) only[go_sem,simprocAttr,-List.reduceReplicate,↓ep,E,F,G,x,p];refine ak (Xw (o+r) δ _) ?_;intro k8 k9 k2;simp -dsimp -implicitDefEqProofs (disch:=first|omega|assumption|(simp only[aR,Nat.reduceAdd];try omega)) only[go_sem,simprocAttr,-List.reduceReplicate,↓ep,E,F,G,x,p,W];refine cz (λa b=>a 25=.J [h,k] D/\a 26=.v (.int .i64 2)/\((a 27=.v (.int .i64 0)/\aw m b 1 [] (a 6))\/(a 27=.v (.int .i64 1)/\aw m b 1 V (a 6))\/(a 27=.v (.int .i64 2)/\aw m b 1 (V++i) (a 6))))
   (λa _=>match a 27 with|.v (.int _ l)=>2 - l.toNat|_=>0) ?_ ?_
  .simp -dsimp -implicitDefEqProofs (disch:=first|omega|assumption|(simp only[aR,Nat.reduceAdd];try omega)) only[go_sem,simprocAttr,-List.reduceReplicate,↓ep,E,F,G,x,p,W];exact .inl k2
  rintro a g⟨L,P,n⟩;have S:=z.full;have q:=C.full;rcases n with⟨y,c⟩|⟨y,c⟩|⟨y,c⟩
  .have T:=w g c.1;generalize s:a 6=k3 at c;simp -dsimp -implicitDefEqProofs (disch:=first|omega|assumption|(simp only[aR,Nat.reduceAdd];try omega)) only[go_sem,simprocAttr,-List.reduceReplicate,↓ep,L,P,y,e,T,s];refine fx c δ (z.src g c.1) S (by rw[a3a,S];omega) (by rw[a3a,S];omega) λk4 b t=>?_;simp -dsimp -implicitDefEqProofs (disch:=first|omega|assumption|(simp only[aR,Nat.reduceAdd];try omega)) only[go_sem,simprocAttr,-List.reduceReplicate,↓ep,L,P,y,e,T];exact .inr (.inl t)
  .have T:=A g c.1;generalize s:a 6=k3 at c;simp -dsimp -implicitDefEqProofs (disch:=first|omega|assumption|(simp only[aR,Nat.reduceAdd];try omega)) only[go_sem,simprocAttr,-List.reduceReplicate,↓ep,L,P,y,f,T,s];refine fx c δ (C.src g c.1) q (by rw[S,q];omega) (by rw[S,q];omega) λk4 b t=>?_;simp -dsimp -implicitDefEqProofs (disch:=first|omega|assumption|(simp only[aR,Nat.reduceAdd];try omega)) only[go_sem,simprocAttr,-List.reduceReplicate,↓ep,L,P,y,f,T];exact .inr (.inr t)
  .refine dt (aE @L @P @y) ?_;exact⟨_,θ,c⟩
def Xy(a:Nat)(D:a<=100000000)(d:U):
  AC γ 338 [.J [] .nil,.v (.int .i64 (a:Int))] d λr x=>aw d x 37 [] r:=by
 refine aZ hm R2 ρ ?_;have h:¬(a:Int)<0:=δ;have k:(a:Int) -(0 - 0)=a:=δ;have o:c9 37 (.J [] .nil) ε (β (.v (.int .i64 0))) ε=β (.J [] .nil):=w6;by_cases c1:(0:Int)<a
 .refine dt (ba @h @k @c1 @o @a6A) ?_;refine Bk δ δ δ λb c E p F y z=>?_;have C:c9 37 (.aq b a c 37) ε (β (.v (.int .i64 0))) ε=β (.aq b 0 c 37):=hi (v:=0) δ;refine dt @C ?_;refine⟨_,θ,μ θ p,.inr ⟨b,0,c,_,rfl,p,ν _ _ _,?_,ρ,ρ,δ,y⟩⟩;rw[a2V,kv,z];simp;omega
 .refine dt (ba @h @k @c1 @o @a6A) ?_;exact⟨_,θ,aw.nil θ⟩
def Xz(d:U)(h k:R)(D:Own)(o r:Nat)(V i:Χ)(z:jf d 37 h o V)(C:jf d 37 k r i)(k5:o<=100000)(k6:r<=100000):
  AC γ 319 [.J [h,k] D] d λB b=>aw d b 37 (V++i) B:=by
 refine aZ hm QI ρ ?_;have H:=z.len;have I:=C.len;have u:bM d 1 (.J [h,k] D) [h,k]:=bM.J λk7 v=>by
  simp only[a3n,a4r,or_false]at v;rcases v with rfl|rfl
  .rw[z.one];rfl
  .rw[C.one];rfl
 have W:(([h,k].length):Int)=2:=rfl;obtain⟨K,e,M⟩:=u.get 0 h rfl;obtain⟨N,f,O⟩:=u.get 1 k rfl;have w:∀b,d.sub b->cV ι 1 b K=β h:=λb j=>by rw[M.ld b j ι 1 δ (by rw[z.one];simp),z.one];rfl
 have A:∀b,d.sub b->cV ι 1 b N=β k:=λb j=>by rw[O.ld b j ι 1 δ (by rw[C.one];simp),C.one];rfl
 have Q:((0:Nat):Int)=0:=rfl;have X:((1:Nat):Int)=1:=rfl;rw[Q]at e;rw[X]at f;have Y:=w d θ;have Z:=A d θ;have ba:¬(o:Int)<0:=δ;have bx:¬(o)+(r:Int)<0:=δ;refine dt @W ?_;refine cz (λa b=>b=d/\a 0=.J [h,k] D/\a 9=.J [h,k] D/\a 10=.v (.int .i64 2)/\((a 11=.v (.int .i64 0)/\a 3=.v (.int .i64 0))\/(a 11=.v (.int .i64 1)/\a 3=.v (.int .i64 o))\/(a 11=.v (.int .i64 2)/\a 3=.v (.int .i64 ((o)+(r))))))
  (λa _=>match a 11 with|.v (.int _ l)=>2 - l.toNat|_=>0) ⟨rfl,?_⟩ ?_
 .refine dt @W ?_;simp
 rintro a m⟨rfl,E,F,G,n⟩;rcases n with⟨x,p⟩|⟨x,p⟩|⟨x,p⟩
 .refine dt (ck @E @F @G @x @p @e @Y @H @ba @a6x) ?_;simp
 .refine dt (cW @E @F @G @x @p @f @Z @I @bx) ?_;simp
 .have k0:(o)+(r)=((o+r:Nat):Int):=δ;rw[k0]at p;simp -dsimp -implicitDefEqProofs (disch:=first|omega|assumption|(simp only[aR,Nat.reduceAdd];try omega)) only[go_sem,simprocAttr,-List.reduceReplicate,↓ep,E,F,G,x,p];refine ak (Xy (o+r) δ _) ?_;intro k8 k9 k2;simp -dsimp -implicitDefEqProofs (disch:=first|omega|assumption|(simp only[aR,Nat.reduceAdd];try omega)) only[go_sem,simprocAttr,-List.reduceReplicate,↓ep,E,F,G,x,p,W];refine cz (λa b=>a 25=.J [h,k] D/\a 26=.v (.int .i64 2)/\((a 27=.v (.int .i64 0)/\aw m b 37 [] (a 6))\/(a 27=.v (.int .i64 1)/\aw m b 37 V (a 6))\/(a 27=.v (.int .i64 2)/\aw m b 37 (V++i) (a 6))))
   (λa _=>match a 27 with|.v (.int _ l)=>2 - l.toNat|_=>0) ?_ ?_
  .simp -dsimp -implicitDefEqProofs (disch:=first|omega|assumption|(simp only[aR,Nat.reduceAdd];try omega)) only[go_sem,simprocAttr,-List.reduceReplicate,↓ep,E,F,G,x,p,W];exact .inl k2
  rintro a g⟨L,P,n⟩;have S:=z.full;have q:=C.full;rcases n with⟨y,c⟩|⟨y,c⟩|⟨y,c⟩
  .have T:=w g c.1;generalize s:a 6=k3 at c;simp -dsimp -implicitDefEqProofs (disch:=first|omega|assumption|(simp only[aR,Nat.reduceAdd];try omega)) only[go_sem,simprocAttr,-List.reduceReplicate,↓ep,L,P,y,e,T,s];refine fx c δ (z.src g c.1) S (by rw[a3a,S];omega) (by rw[a3a,S];omega) λk4 b t=>?_;simp -dsimp -implicitDefEqProofs (disch:=first|omega|assumption|(simp only[aR,Nat.reduceAdd];try omega)) only[go_sem,simprocAttr,-List.reduceReplicate,↓ep,L,P,y,e,T];exact .inr (.inl t)
  .have T:=A g c.1;generalize s:a 6=k3 at c;simp -dsimp -implicitDefEqProofs (disch:=first|omega|assumption|(simp only[aR,Nat.reduceAdd];try omega)) only[go_sem,simprocAttr,-List.reduceReplicate,↓ep,L,P,y,f,T,s];refine fx c δ (C.src g c.1) q (by rw[S,q];omega) (by rw[S,q];omega) λk4 b t=>?_;simp -dsimp -implicitDefEqProofs (disch:=first|omega|assumption|(simp only[aR,Nat.reduceAdd];try omega)) only[go_sem,simprocAttr,-List.reduceReplicate,↓ep,L,P,y,f,T];exact .inr (.inr t)
  .refine dt (aE @L @P @y) ?_;exact⟨_,θ,c⟩
def fm(k a:U)(b c:Nat)(d:Except Int (List an)×ad)(o:R):Prop:=
 match d.1 with
 |.error p=>bh a b c d.2/\Ext b c k a/\p≠0/\o=.aF [.J [] .nil,.v (.int .i64 p)]
 |.ok bw=>∃r h,aC bu bw r/\o=.aF [h,.v (.int .i64 0)]/\dd k a b c d.2 37 (flat r) h/\(bw=[]->h=.J [] .nil)
theorem fm.base{d h k:U}{b c:Nat}{o:Except Int (List an)×ad}{p:R}(a:fm h k b c o p)(r:Ext b c d h):fm d k b c o p:=by
 unfold fm at a|-;split at a
 .exact⟨a.1,r.trans a.2.1,a.2.2⟩
 grind[dd.base]
variable{q b7:R}{f u e1:U}{e i v M b9 h9:Nat}
theorem fm.shape{a:Except Int (List an)×ad}(d:fm f u e i a q):∃b c,q=.aF [b,.v (.int .i64 c)]:=by grind[fm]
def XA(b:U)(d k:Nat)(h:ad)(E:bh b d k h)(a:List Ρ)(o:Χ)(p:Own)(c:Nat)(F:1<=c)(G:c<=8)(r:aC isRow a o)(L:α a<=100000):
  AC γ 226 [.J o p,.bA 52 [dz d c] []] b λx P=>fm b P d k (nP h c a) x:=by
 refine aZ hm Oy ρ ?_;have S:=r.len;refine ai @S ?_;refine ak (tL (α a) δ b) ?_;rintro _ b⟨rfl,rfl⟩;refine bJ ?_;have y:a1.bI (α a)<=100000:=by unfold a1.bI;omega
 refine ak (CU a o p (a1.bI (α a)) b r L y) ?_;rintro _ T⟨z,gs,V,rfl,W⟩;refine bJ ?_;have C:=lN (g:=a1.bI (α a)) (l:=a);refine ak (CX T d k h (E.mono z) _ gs V c F G W (λe f=>by have:=C.2 e f;omega) (by rw[C.1];exact y)) ?_;intro x i g;have D:=fm.base (o:=nP h c a) g (ω z);obtain⟨j,l,rfl⟩:=D.shape;refine bJ ?_;exact⟨_,θ,D⟩
def D3(d p:U)(b h:Nat)(k:ad)(D:bh d b h k)(c:List Ρ)(o:Χ)(r:R)(E:aw d p 1 (flat o) r)(a:Nat)(F:1<=a)(G:a<=8)(x:aC isRow c o)(L:α c<=100000):
  AC γ 226 [r,.bA 52 [dz b a] []] p λy z=>fm d z b h (nP k a c) y:=by
 obtain⟨P,S,C⟩:=aw.CR E x;refine AC.mK (g:=[]) S ?_;exact(XA P b h k (D.mono C) c o .any a F G x L).mono λy z T=>fm.base T (ω C)
def XB(b:U)(d k:Nat)(h:ad)(E:bh b d k h)(a:List (an))(o:Χ)(p:Own)(c:Nat)(F:1<=c)(G:c<=8)(r:aC bu a o)(L:α a<=100000):
  AC γ 229 [.J o p,.bA 96 [dz d c] []] b λx P=>fm b P d k (je h c a) x:=by
 refine aZ hm OE ρ ?_;have S:=r.len;refine ai @S ?_;refine ak (tL (α a) δ b) ?_;rintro _ b⟨rfl,rfl⟩;refine bJ ?_;have y:a1.bI (α a)<=100000:=by unfold a1.bI;omega
 refine ak (CW a o p (a1.bI (α a)) b r L y) ?_;rintro _ T⟨z,gs,V,rfl,W⟩;refine bJ ?_;have C:=lN (g:=a1.bI (α a)) (l:=a);refine ak (CY T d k h (E.mono z) _ gs V c F G W (λe f=>by have:=C.2 e f;omega) (by rw[C.1];exact y)) ?_;intro x i g;have D:=fm.base (o:=je h c a) g (ω z);obtain⟨j,l,rfl⟩:=D.shape;refine bJ ?_;exact⟨_,θ,D⟩
def D4(d p:U)(b h:Nat)(k:ad)(D:bh d b h k)(c:List (an))(o:Χ)(r:R)(E:aw d p 37 (flat o) r)(a:Nat)(F:1<=a)(G:a<=8)(x:aC bu c o)(L:α c<=100000):
  AC γ 229 [r,.bA 96 [dz b a] []] p λy z=>fm d z b h (je k a c) y:=by
 obtain⟨P,S,C⟩:=aw.rW E x;refine AC.mK (g:=[]) S ?_;exact(XB P b h k (D.mono C) c o .any a F G x L).mono λy z T=>fm.base T (ω C)
def D5:∀(a:List an)(b:gy),(a.foldl gd b).size=b.size+(a.map (·.size)).sum
 |[],b=>by simp
 |c::a,b=>by rw[a3I,D5 a];simp[gd];omega
def D6:∀(b:List (Ρ×Bool))(a:gy),(b.foldl fy a).size=a.size
 |[],a=>rfl
 |c::b,a=>by rw[a3I,D6 b];unfold fy;split<;>rfl
def xa(a:bQ):(fz a).size=α a.rows+(a.kids.map (·.size)).sum:=by unfold fz;rw[D5,D6]
structure oY(d:Nat)(k:an)(n:bQ):Prop where
 ok:dE d n=η
 eq:k=gf n
 size:k.size=α n.rows+(n.kids.map (·.size)).sum
 nB:k.size<=1048576
variable{w j0:an}{b3:bQ}
def tO(a:fg e b3=β w):oY e w b3:=by
 unfold fg at a;split at a
 .rename_i b;split at a
  .cases a
  .rename_i c;obtain rfl:=Δ a;exact⟨b,rfl,xa b3,by show(fz b3).size<= _;omega⟩
 .cases a
variable{H:ad}
def rY(a:hS H e w=β b3):oY e w b3/\(b3.kind=2\/b3.kind=3):=by
 unfold hS at a;split at a
 .cases a
 .rename_i d hm;split at a
  .rename_i b;obtain rfl:=Δ a;refine⟨?_,b⟩;unfold dn at hm;split at hm
   .cases hm
   .split at hm
    .cases hm
    .split at hm
     .rename_i c;obtain rfl:=Δ hm;exact tO c
     .cases hm
  .cases a
theorem oY.leaf(b:oY e w b3)(c:b3.kind=2):1<=α b3.rows/\α b3.rows<=4/\b3.kids=[]/\(∀a∈b3.rows,α a.1=e/\a.2=η):=by have:=b.ok;simp_all [dE]
theorem oY.inner(k:oY e w b3)(h:b3.kind=3):b3.rows=[]/\2<=α b3.kids/\α b3.kids<=4/\(∀a∈b3.kids,α a.key=e/\a≠aB/\eK e a=η/\1<=a.size/\a.size<w.size):=by
 have d:=k.ok;unfold dE at d;have x:¬b3.kind=1:=by rw[h];decide
 have y:¬b3.kind=2:=by rw[h];decide
 rw[if_neg x,if_neg y,if_pos h]at d;simp only[Ξ,a3h,decide_eq_true_eq,a4p,decide_eq_false_iff_not]at d;obtain⟨⟨_,z⟩,⟨⟨C,D⟩,E⟩,o⟩:=d;have p:=a2Y C;have F:∀a∈b3.kids,1<=a.size:=λa b=>by
  simp_all [eK]
 refine⟨p,D,E,λa b=>⟨(o a b).1,(o a b).2,z a b,F a b,?_⟩⟩;have r:=k.size;rw[p]at r;simp only[a3a]at r;have G:∀(c:List an),(∀a∈c,1<=a.size)->(α c:Int)<=(c.map (·.size)).sum:=by
  intro c
  induction c with
  |nil=>intro _;simp
  |cons L c ih=>grind
 obtain⟨P,S,T⟩:=a5f b;grind
def fM(d:Nat)(b:Ρ):Nat->ad->an->Except Int (List an)×ad
  |0,c,_=>(.error 21,c)
  |k+1,c,o=>match hS c d o with
    |none=>(.error 21,c)
    |some a=>
      if a.kind=2 then
        (if k1 (a.rows.map Β) b=η then(.error 8,c)
         else nP c d ((a.rows.map Β).take (eu (a.rows.map Β) b)++b::(a.rows.map Β).drop (eu (a.rows.map Β) b)))
      else match a.kids[gV b a]? with
        |none=>(.error 21,c)
        |some p=>match fM d b k c p with
          |(.error r,h)=>(.error r,h)
          |(.ok x,h)=>je h d (a.kids.take (gV b a)++(x++a.kids.drop (gV b a+1)))
theorem xb(b:Ρ):∀(a:List Ρ),a≠[]->a1.cL bq b a<α a
 |[],c=>absurd rfl c
 |[_],_=>by simp[a1.cL]
 |_::d::h,_=>by
  have:=xb b (d::h) ρ;grind[a1.cL,List.length_cons]
theorem xc(p:Nat)(r:Ρ):∀(d:Nat)(c h:ad)(k:an)(b:List an),fM p r d c k=(.ok b,h)->1<=α b/\α b<=3
 |0,c,h,k,b,a=>by rw[fM]at a;simp_all
 |d+1,c,h,k,b,a=>by
  rw[fM]at a;split at a
  .simp_all
  rename_i P y;obtain⟨x,z⟩:=rY y;split at a
  .rename_i o;obtain⟨C,D,_⟩:=x.leaf o;split at a
   .simp_all
   .have:=oW a;rw[this];simp only[a3a,a3t,a1.chunks,(lN).1,a1.bI,a2V,a3e,a2X,a3i,a3k];omega
  .rename_i o;obtain⟨_,C,D,_⟩:=x.inner (z.resolve_left o);split at a
   .simp_all
   .rename_i E S;split at a
    .simp_all
    .rename_i F G L;have ih:=xc p r d c G E F L;have:=oW a;rw[this];simp only[a3a,a3t,a1.chunks,(lN).1,a1.bI,a2V,a2X,a3i];omega
theorem XC(D m:Nat)(p:Ρ)(E:Own)(x:Nat)(n4:1<=x)(n5:x<=8):∀(S:Nat)(T:U)(F:ad)(z:an)(n q s:Own),bh T D m F->α z.sum=32->z.cH->0<S->z.size<S->
  AC γ 169 [dz D x,.agg (ae z n q s),.J (ab p) E] T λZ b03=>fm T b03 D m (fM x p S F z) Z:=by
 intro S
 induction S with
 |zero=>intro T F z n q s f n9 a30 b63 b04;omega
 |succ S ih=>
 intro T F z n q s f n9 a30 b64 b04;refine aZ hm N4 ρ ?_;have h:∀a34,(R.agg a34).cells=a34:=λ_=>rfl;have B:∀d b c C y a36:R,putAt [d,b,c] 0 [C,y,a36]=[C,y,a36]:=λ_ _ _ _ _ _=>rfl;have G:∀d b c,aP η 3 [d,b,c]=.agg [d,b,c]:=λ_ _ _=>rfl;have g:∀d b,aP η 2 [d,b]=.agg [d,b]:=λ_ _=>rfl;have i:∀d b:R,List.take 2 [d,b]=[d,b]:=λ_ _=>rfl;have V:∀d b c:R,List.take 3 [d,b,c]=[d,b,c]:=λ_ _ _=>rfl;have H:∀d b c:R,[d,b,c].length=3:=λ_ _ _=>rfl;have b05:∀d b c:R,aP ι 1 [d,b,c]=d:=λ_ _ _=>rfl;have a38:∀d b c:R,aP ι 1 ([d,b,c].drop 2)=c:=λ_ _ _=>rfl;have a42:=aN (O:=n) (e4:=q) (h5:=s) n9;have a43:=a42.len;refine ai @h ?_;refine aO λk0 a47=>?_;refine ai (c2 @h @a43) ?_;refine aO λl0 l1=>?_;have a00:k0≠l0:=by rintro rfl;rw[ν]at l1;cases l1
 have b06:T l0=none:=by rw[ξ _ _ (Ζ a00)]at l1;exact l1
 obtain⟨I,l2⟩:∃I:U,I=(T.set k0 (.cells [.ptr D 0,.v (.int .i64 (x))])).set l0 (.cells (ae z n q s)):=⟨_,rfl⟩;have k2:T.sub I:=by rw[l2];exact μ (μ θ a47) b06
 have aL:I l0=β (.cells (ae z n q s)):=by rw[l2,ν]
 have aE:I k0=β (.cells [.ptr D 0,.v (.int .i64 (x))]):=by rw[l2,ξ _ _ a00,ν]
 refine ai (bs @h @a43 @ξ @a00 @ν a42.t37 @i @g) ?_;rw[<-l2];refine ak (x5 I D m F (f.mono k2) z n q s n9 a30 x n4 n5) ?_;rintro Z a01⟨l3,l4⟩;obtain⟨a48,k⟩:∃a48,a48=fM x p (S+1) F z:=⟨_,rfl⟩;rw[<-k];rw[fM]at k;cases a02:hS F x z with
 |none=>rw[a02]at l4 k;obtain rfl:=l4;simp only at k;subst k;simp -dsimp -implicitDefEqProofs (disch:=first|omega|assumption|(simp only[aR,Nat.reduceAdd];try omega)) only[go_sem,simprocAttr,-List.reduceReplicate,h,B,H];refine aO λK M=>?_;refine ai (ba @h @B @H @G @σ) ?_;have a52:=ο (ο k2 l3) (μ (X:=.cells [.v (.int .u8 0),.J [] .nil,.J [] .nil]) θ M);exact⟨_,θ,f.mono a52,ω a52,Λ,rfl⟩
 |some a=>
  rw[a02]at l4 k;simp only at k;obtain⟨C,y,rfl,b07⟩:=l4;obtain⟨a56,b08⟩:=rY a02;simp -dsimp -implicitDefEqProofs (disch:=first|omega|assumption|(simp only[aR,Nat.reduceAdd];try omega)) only[go_sem,simprocAttr,-List.reduceReplicate,h,B,H];refine aO λK M=>?_;obtain⟨L,l5⟩:∃L:U,L=a01.set K (.cells [.v (.int .u8 (a.kind.toNat)),C,y]):=⟨_,rfl⟩;have a03:a01.sub L:=by rw[l5];exact μ θ M
  have bs:L K=β (.cells [.v (.int .u8 (a.kind.toNat)),C,y]):=by rw[l5,ν]
  have a57:=hP a.kind 2 δ;simp only[a5N]at a57;rw[show ς 2=2 from rfl]at a57;refine ai (cd @h @B @H @G @σ @ν @b05) ?_;rw[σ,<-l5];obtain⟨b09,l6,P,a04,l7,a61,j,b10,b11⟩:=b07;have b12:fj a01 a C y l6 P:=⟨a61,j,(bM.dC a04 δ rfl (a61.cells λ_ _=>dy.cells)).mono l7.1,bM.dC l7 δ rfl (j.cells λ_ _=>Η),b10,b11⟩;have k3:=b12.mono a03;have a62:=(f.mono (ο k2 l3)).ct M;have a63:=f.ct a47;have l8:=ο k2 (ο l3 a03);have a65:=a03 _ _ (l3 _ _ aE);have a68:=f.mono l8;by_cases N:a.kind=2
  .rw[if_pos N]at k;have a05:((a.kind.toNat:Int)=2)=True:=by rw[N];simp
   refine ai (cd @h @B @H @G (κ bs) @a05 @V) ?_;refine ak (x4 a l6 P C y L k3) ?_;rintro d t⟨b13,a69,u⟩;have b14:=bM.dC u δ rfl (a69.cells λ_ _=>φ);refine ai @h ?_;have b65:(a.rows.map Β).length=α a.rows:=a3k _;obtain⟨b15,b16,_,_⟩:=a56.leaf N;generalize b17:a.rows.map Β=k4 at*;refine ak (CP k4 b13 d p E t a69 b14 δ) ?_;rintro _ t⟨rfl,b66,rfl⟩;have b18:=u.1 _ _ bs;have a06:=u.1 _ _ a65;generalize eu k4 p=o at*;cases a71:k1 k4 p with
   |true=>rw[if_pos a71]at k;subst k;refine ai @h ?_;exact⟨_,θ,a68.mono u.1,ω (ο l8 u.1),Λ,rfl⟩
   |false=>
    rw[if_neg (by simp[a71])]at k;have b19:oI 1 U.emp [R.J (ab p) E] (bX (λ_ _=>True) ())=True:=eq_true (iv (by simp[bc,τ]) ρ λ_ _=>trivial);refine ai (cW @h (κ b18) (κ a06) @G @g @i @V @b19 @r9) ?_;refine ak (x4 a l6 P C y t (k3.mono u.1)) ?_;rintro a4 b67⟨a07,k5,k6⟩;have b20:=k6.1 _ _ a06;refine ai (bx @h (κ b20) @G @g @i @V) ?_;rw[b17]at k5;refine iv (by simp[bc,τ]) ρ λa08 a73=>?_;have b21:flat [R.J (ab p) E]=[R.J (ab p) E]:=rfl;rw[b21,a4u];have W:=aw.new (ob:=.cells [R.J (ab p) E]) k6 a73;have b22:=Μ k6.1 a73;rw[mJ k5]at W;obtain⟨r,l⟩:∃r:U,r=t.set a08 (.cells [R.J (ab p) E]):=⟨_,rfl⟩;have a74:t.sub r:=by rw[l];exact μ θ b22
    have b23:r a08=β (.cells [R.J (ab p) E]):=by rw[l,ν]
    rw[<-l]at W;have b68:=k5.len;have l9:=a74 _ _ a06;have a09:=W.1 _ _ l9;refine ai (bx @h (κ a09) @G @g @i @V) ?_;refine ak (Xu r _ a07 a4 W (by grind) o δ δ _ a08 b23) ?_;intro du a10 v;have b24:=v.1 _ _ l9;have n0:aC isRow (k4.take o++p::k4.drop o) (a07.take o++R.J (ab p) E::a07.drop o):=(k5.take o).append ⟨⟨E,rfl⟩,k5.drop o⟩;rw[<-mJ n0]at v;refine ai (bx @h (κ b24) @G @g @i @V) ?_;have a81:=ο l8 (ο u.1 a74);refine ak (D3 r a10 D m F (f.mono a81) _ _ du v x n4 n5 n0 Κ) ?_;intro Z b25 w;rw[<-k]at w;obtain⟨b26,b27,rfl⟩:=w.shape;refine ai @h ?_;exact⟨_,θ,fm.base w (ω a81)⟩
  .have l9:=b08.resolve_left N;rw[if_neg N]at k;have a05:¬(a.kind.toNat:Int)=2:=λe=>N (by simp_all);refine ai (cd @h @B @H @G (κ bs) @a05 @V) ?_;refine ak (CO a l6 P C y p E L k3) ?_;rintro _ L⟨rfl,rfl⟩;obtain⟨b69,b15,b16,b28⟩:=a56.inner l9;have a11:gV p a<α a.kids:=by grind[xb,List.length_map]
   generalize gV p a=o at*;have a13:=Ν a11;have a83:a.kids[o]'a11∈a.kids:=a3r _;rw[a13]at k;simp only at k;generalize a.kids[o]'a11=c at a13 a83 k;obtain⟨b70,b29,a84,b30,O,Q,X,rfl⟩:=k3.kids.get a13;obtain⟨_,_,_,b71,b72⟩:=b28 c a83;obtain⟨Y,n1⟩:∃Y:U,Y=b09.set K (.cells [.v (.int .u8 (a.kind.toNat)),C,y]):=⟨_,rfl⟩;have n2:=aw.new (ob:=.cells [.v (.int .u8 (a.kind.toNat)),C,y]) l7 M;rw[<-l5,<-n1]at n2;have b31:=Μ l7.1 M;have a86:=ο k2 a04.1;have a88:T.sub Y:=by rw[n1];exact μ a86 (Μ a86 b31)
   have b32:Y K=β (.cells [.v (.int .u8 (a.kind.toNat)),C,y]):=by rw[n1,ν]
   have a09:Y k0=β (.cells [.ptr D 0,.v (.int .i64 (x))]):=by
    have:k0≠K:=by grind
    rw[n1,ξ _ _ this];exact a04.1 _ _ aE
   have b33:=dd.of n2 (f.mono a88) Ext.refl;obtain⟨b73,b34,a89⟩:=k3.hh.get o _ b29;have a90:=aN (O:=O) (e4:=Q) (h5:=X) a84;have b35:(R.agg (ae c O Q X)).cells=ae c O Q X:=rfl;rw[b35]at a89;have a92:=a89.ld L θ η 37 δ (by rw[a90.len];omega);rw[show aP η 37 (ae c O Q X)=.agg (ae c O Q X) by rw[aP,if_pos rfl,a90.t37]]at a92;refine ai (ck @h (κ bs) (κ a65) @G @g @i @V @a38 @b34 @a92) ?_;refine ak (ih L F c O Q X a68 a84 b30 δ δ) ?_;intro Z t a14;have a94:=λk7 k8 e=>xc x p S F k7 c k8 e;generalize fM x p S F c=b36 at k a14 a94;obtain⟨res,k7⟩:=b36;cases res with
   |error b74=>obtain⟨n3,b37,a95,rfl⟩:=a14;simp only at k n3;subst k;refine ai (c2 @h @a95) ?_;exact⟨_,θ,n3,(ω l8).trans b37,a95,rfl⟩
   |ok k8=>
    obtain⟨k9,b75,a15,rfl,⟨b76,a16,a18,a96⟩,_⟩:=a14;obtain⟨b77,b78⟩:=a94 k7 k8 rfl;simp only at k a18;have b38:=a15.len;have b39:(flat k9).length=α k8*37:=by rw[cT (a15.cells λ_ _=>Η),b38]
    have b40:(flat P).length=α a.kids*37:=by rw[cT (j.cells λ_ _=>Η),j.len]
    obtain⟨A,a97,a98,a19,rfl,a99,b41,b42,b43,b44,b45,b46⟩:=aw.aq a16 (by grind);have b47:=a96.trans (ω a16.1);have n3:=a18.mono a16.1;obtain⟨b48,k6,b49,b50⟩:=b33.step b47 n3;have a27:=a18.ct a99;have b51:L A=none:=by
     cases b52:L A with
     |none=>rfl
     |some b79=>have:=a96 _ _ a27.1 a27.2 b52;rw[a99]at this;cases this
    have b53:∀b b00 b01,y=.aq b b00 b01 37->b≠A:=by
     rintro b b00 b01 rfl rfl;rcases n2.2 with⟨_,e|e⟩|⟨b80,_,_,_,e,_,b81,_⟩
     .cases e
     .cases e
     simp_all
    obtain⟨r,l⟩:∃r:U,r=b48.set A (.cells a19):=⟨_,rfl⟩;have W:=aw.add k6 b41 b53;rw[<-l]at W;have b54:r A=β (.cells a19):=by rw[l,ν]
    have b55:aw (λ_=>ε) r 37 (flat k9) (.aq A a97 a98 37):=⟨(λ_ _ e=>by cases e),.inr ⟨A,a97,a98,a19,rfl,rfl,b54,b42,b43,b44,b45,b46⟩⟩;have b56:bh r D m k7:=by rw[l];exact b49.set a27
    have b57:=Μ n2.1 b51;have a29:Ext D m Y r:=by rw[l];exact b50.set b57
    have b58:=a29 _ _ a62.1 a62.2 b32;have b02:=a29 _ _ a63.1 a63.2 a09;have b59:=W.1 _ _ b58;have b60:=W.1 _ _ b02;simp -dsimp -implicitDefEqProofs (disch:=first|omega|assumption|(simp only[aR,Nat.reduceAdd];try omega)) only[go_sem,simprocAttr,-List.reduceReplicate,h,κ b59,κ b60,G,g,i,V,a38];refine ak (D2 _ r t (flat P) (flat k9) y _ (α a.kids) (α k8) o (o+1) _ rfl W b40 b55 b39 δ δ δ δ δ) ?_;intro du a10 v;have b61:=v.1 _ _ b02;have b62:(flat P).take (o*37)++(flat k9++(flat P).drop ((o+1)*37))=flat (P.take o++(k9++P.drop (o+1))):=by rw[(fw o (j.cells λ_ _=>Η)).2,(fw (o+1) (j.cells λ_ _=>Η)).1];simp[flat]
    rw[b62]at v;have n0:=(j.take o).append (a15.append (j.drop (o+1)));refine ai (bx @h (κ b61) @G @g @i @V) ?_;refine ak (D4 r a10 D m k7 b56 _ _ du v x n4 n5 n0 Κ) ?_;intro Z b25 w;rw[<-k]at w;obtain⟨b26,b27,rfl⟩:=w.shape;refine ai @h ?_;exact⟨_,θ,fm.base w ((ω a88).trans a29)⟩
def kI(a:Nat)(d:Ρ)(h:ad)(b:an):Except Int an×ad:=
 if b=aB then dr h a (cR [d])
 else match fM a d (b.size.toNat+1) h b with
  |(.error k,c)=>(.error k,c)
  |(.ok bw,c)=>gF a (α bw+1) c bw
variable{g A c0:Χ}{O e4 h5:Own}
def qf.lt(a:qf w O e4 h5 g):α g=37/\g.take 37=g:=⟨a.len,a.t37⟩
def XD(C:U)(d h:Nat)(x:ad)(W:bh C d h x)(b:an)(G L P:Own)(n:α b.sum=32)(M:b.cH)(c:Ρ)(S:Own)(a:Nat)(q:1<=a)(s:a<=8)(a07:α c=a):
  AC γ 106 [.ptr d 0,.agg (ae b G L P),.J (ab c) S,.v (.int .i64 (a:Int))] C λk N=>bh N d h (kI a c x b).2/\Ext d h C N/\gj (kI a c x b).1 k:=by
 have a08:=(aN (O:=G) (e4:=L) (h5:=P) n).lt;have a09:=(aN (O:=.nil) (e4:=.nil) (h5:=.nil) bg).lt;have a10:=cm;have t:=λO Q X Y u=>cC (a:=.nil) (b:=.nil) (c:=.nil) (w:=O) (O:=Q) (e4:=X) (h5:=Y) bg u;have a11:=t aB .nil .nil .nil bg;generalize l3:ae aB .nil .nil .nil=v at*;obtain⟨Z,p⟩:∃Z,kI a c x b=Z:=⟨_,rfl⟩;rw[p];unfold kI at p;have a13:nO (a) [c]=true:=by simp[nO];omega
 have k0:aC isRow [c] [R.J (ab c) S]:=⟨⟨S,rfl⟩,trivial⟩;have k2:bc 1 [R.J (ab c) S]:=by simp[bc,τ]
 refine aM hm Lw ?_;refine bp λk3 l4=>?_;refine dk λT w _ _=>?_;refine tm λl5 l6 _ _ _ _=>?_;generalize e:((C.set k3 _).set T _).set l5 _=D;have k4:C.sub D:=by subst e;exact aV
 have ba:D k3=β (.cells (ae b G L P)):=by subst e;exact aV
 have bs:D T=β (.cells v):=by subst e;exact aV
 clear e;have E:=W.ct w;have a14:=@σ;refine mA (wZ a [c] _ _ D k0 (bM.J k2) ρ) ?_;refine bp λk5 f=>?_;have a15:=U.gu f ba;obtain⟨z,A⟩:∃z,D.set k5 (.cells [.ptr d 0,.v (.int .i64 (a))])=z:=⟨_,rfl⟩;have g:D.sub z:=by rw[<-A];exact μ θ f
 have ck:z k5=β (.cells [.ptr d 0,.v (.int .i64 (a))]):=by rw[<-A,ν]
 have l7:=κ ck;have a16:=rd g ba;have i:=ο k4 g;have k6:=W.ct (Μ k4 f);have k7:∀(y)(r)(res)(k),bh r d h y->Ext d h z r->gj res k->∃o F,α o=37/\o.take 37=o/\putAt v 0 o=o/\k=.aF [.agg o,.v (.int .i64 F)]/\dR r T=β v/\bh (r.set T (.cells o)) d h y/\Ext d h C (r.set T (.cells o)):=by intro y r res k j k8 l8;obtain⟨O,Q,X,Y,F,B,rfl⟩:=l8.shape;exact⟨_,F,(aN B).len,(aN B).t37,t _ _ _ _ B,rfl,χ (k8 _ _ E.1 E.2 (g _ _ bs)),j.set E,((ω i).trans k8).set w⟩
 refine mA (lK b G L P z n λ_=>M) ?_;clear l4 f l6 A t;refine aH (λH=>?_) λH=>?_
 .rw[if_pos H]at p;refine mB λa18 l9=>?_;have j:=μ (X:=.buf 1 1 1) (θ) l9;refine cl (x3 _ d h x (W.mono (ο i j)) [c] _ _ a q s k0 (bM.J k2) ρ) ?_;rintro k r⟨l,m,V⟩;rw[p]at l V;obtain⟨o,F,n0,n1,n2,rfl,n3,I,rZ⟩:=k7 _ r _ k l ((ω j).trans m) V;refine aa ?_;exact⟨_,θ,I,rZ⟩
 rw[if_neg H]at p;refine cl (XC d h c S a q s (b.size.toNat+1) z x b G L P (W.mono i) n M δ δ) ?_;intro k r K;have k9:=λy n4 u=>xc a c (b.size.toNat+1) x y b n4 u;generalize fM a c (b.size.toNat+1) x b=n5 at K k9 p;obtain⟨res,y⟩:=n5;cases res with
 |error F=>obtain⟨l,m,n9,rfl⟩:=K;subst p;have a19:=χ (m _ _ E.1 E.2 (g _ _ bs));refine aa ?_;exact⟨_,θ,l.set E,((ω i).trans m).set w,n9,by rw[l3]⟩
 |ok bw=>
  obtain⟨a00,a27,l0,rfl,l1,_⟩:=K;obtain⟨_,a29⟩:=k9 y bw rfl;have l7:=κ (l1.ext _ _ k6.1 k6.2 ck);obtain⟨a01,a02,a03,a04⟩:=l1.rW l0;refine cl (AC.mK (g:=[_]) a02 (CZ a01 d h y a03 bw a00 .any a q s l0 δ)) ?_;rintro k a05⟨l2,a06,V⟩
  dsimp only at p
  rw[p]at l2 V;obtain⟨o,F,n0,n1,n2,rfl,n3,I,rZ⟩:=k7 _ a05 _ k l2 (a04.trans a06) V;refine aa ?_;exact⟨_,θ,I,rZ⟩
end Go.Proofs.YtcfpcblgmmeioaaGreat
namespace Go.bt
open Go
variable{q b7:R}{f u e1:U}{g A c0:Χ}{e i v M b9 h9:Nat}
theorem aw.emp(b:aw e1 f e g q)(k:∀a c d,q=.aq a c d e->u a=f a):aw (λ_=>ε) u e g q:=by
 refine⟨(λ_ _ b=>by cases b),?_⟩;rcases b.2 with h|⟨a,c,d,o,rfl,p,r,x⟩
 .exact .inl h
 grind
theorem aw.put{a:R}(h:aw u f e (flat g) (.aq v M b9 e))(z:0<e)(d:bc e g)(C:g[i]?=β q)(o:α a.cells=e):
  ∃b,f v=β (.cells b)/\i*e+e<=α b/\M=α g/\aw u (f.set v (.cells (putAt b (i*e) a.cells))) e (flat (g.set i a)) (.aq v M b9 e):=by
 obtain⟨D,c⟩:=h;rcases c with⟨_,c|c⟩|⟨W,j,l,b,p,r,E,F,G,m,x,L⟩
 .cases c
 .cases c
 simp only[R.aq.injEq,and_true]at p;obtain⟨rfl,rfl,rfl⟩:=p;have y:=(a2Z.1 C).1;have n:=cT d;have P:M=α g:=a5i z δ;subst P;have s:i*e+e<=α g*e:=by rw[<-a7i];exact a3g _ y
 have t:α g*e<=b9*e:=a3g _ x;refine⟨b,E,δ,rfl,μ D r,.inr ⟨v,α g,b9,_,rfl,r,ν _ _ _,by rw[eh _ _ _ δ];exact F,?_,?_,x,L⟩⟩
 .have k:g.set i a=g.take i++a::g.drop (i+1):=by rw[a4e,if_pos y]
  have S:flat (g.take i++a::g.drop (i+1))=(flat g).take (i*e)++a.cells++(flat g).drop ((i+1)*e):=by rw[(fw i d).2,(fw (i+1) d).1];simp[flat]
  rw[k,S,putAt,o,<-G];have w:(b.take (i*e)++a.cells).length=i*e+e:=by grind
  grind[List.take_append,Θ,Nat.min_eq_left,List.drop_take,Nat.succ_mul]
 .have T:bc e (g.set i a):=λk V=>by
   rcases a4T V with h|rfl
   .exact d k h
   .exact o
  rw[cT T,a5K]
end Go.bt
namespace Go.Proofs.YtcfpcblgmmeioaaGreat
open Go Go.bt
structure hp where
 leaf:Bool
 rows:List Ρ
 kids:List an
structure hT(a:U)(x:hp)(d h:R)(b c:Χ):Prop where
 r:aC isRow x.rows b
 k:aC bu x.kids c
 ai:bM a 1 d b
 tP:bM a 37 h c
 nR:jf a 1 d (α x.rows) b
 jg:jf a 37 h (α x.kids) (flat c)
 jX:α x.rows<=1000
 hn:α x.kids<=1000
def hT.mono{c d:U}{h:hp}{k o:R}{p r:Χ}(a:hT c h k o p r)(b:c.sub d):hT d h k o p r:=⟨a.r,a.k,a.ai.mono b,a.tP.mono b,a.nR.mono b,a.jg.mono b,a.jX,a.hn⟩
variable{q b7:R}{f u e1:U}{g A c0:Χ}
theorem hT.of{s:U}{a:hp}(b:aC isRow a.rows g)(c:aC bu a.kids A)(d:aw f s 1 (flat g) q)(h:aw u s 37 (flat A) b7)(o:α a.rows<=1000)(p:α a.kids<=1000):hT s a q b7 g A:=by obtain⟨r,x,k⟩:=d.ai δ;obtain⟨y,z,C⟩:=h.ai δ;rw[mJ b]at x k;rw[cT (c.cells λ_ _=>Η)]at z;have:=b.len;have:=c.len;obtain rfl:r=α a.rows:=δ;obtain rfl:y=α a.kids:=δ;exact⟨b,c,bM.dC d δ rfl (b.cells λ_ _=>φ),bM.dC h δ rfl (c.cells λ_ _=>Η),k,C,o,p⟩
def gG(a:bQ):hp:=⟨decide (a.kind=2),a.rows.map Β,a.kids⟩
def ka(b:ad)(c:Nat)(a d:hp):Except Int (List an)×ad:=if a.leaf=η then nP b c (a.rows++d.rows)else je b c (a.kids++d.kids)
theorem XE(d:U)(r W:Nat)(e:ad)(K:bh d r W e)(a b:hp)(f g D i j:R)(k0 k2 k3 k4:Χ)(k:hT d a f g k0 k2)(o:hT d b i j k3 k4)(l0:D.cells=[D])(p:Nat)(M:1<=p)(N:p<=8):
  AC γ 284 [dz r p,.agg [.v (.bool a.leaf),f,g],.agg [D,i,j]] d λv k5=>fm d k5 r W (ka e p a b) v:=by
 refine aZ hm Q0 ρ ?_;have c:∀O,(R.agg O).cells=O:=λ_=>rfl;have l:∀a b:R,List.take 2 [a,b]=[a,b]:=λ_ _=>rfl;have m:∀a b,aP η 2 [a,b]=.agg [a,b]:=λ_ _=>rfl;have Q:∀a b z:R,aP ι 1 [a,b,z]=a:=λ_ _ _=>rfl;have X:∀a b z:R,aP ι 1 ([a,b,z].drop 1)=b:=λ_ _ _=>rfl;have Y:∀a b z:R,aP ι 1 ([a,b,z].drop 2)=z:=λ_ _ _=>rfl;refine ai @c ?_;refine aO λn l1=>?_;refine ai @c ?_;refine aO λE q=>?_;have F:n≠E:=by rintro rfl;rw[ν]at q;cases q
 have l2:d E=none:=by rw[ξ _ _ (Ζ F)]at q;exact q
 refine ai @c ?_;refine aO λG s=>?_;have w:E≠G:=by rintro rfl;rw[ν]at s;cases s
 have A:n≠G:=by rintro rfl;rw[ξ _ _ F,ν]at s;cases s
 have l3:d G=none:=by simp_all [ξ,Ζ]
 obtain⟨C,x⟩:∃C:U,C=((d.set n (.cells [.ptr r 0,.v (.int .i64 (p))])).set E (.cells [.v (.bool a.leaf),f,g])).set G (.cells [D,i,j]):=⟨_,rfl⟩;have Z:d.sub C:=by grind[μ,θ]
 have aE:C n=β (.cells [.ptr r 0,.v (.int .i64 (p))]):=by rw[x,ξ _ _ A,ξ _ _ F,ν]
 have aL:C E=β (.cells [.v (.bool a.leaf),f,g]):=by rw[x,ξ _ _ w,ν]
 have ba:C G=β (.cells [D,i,j]):=by rw[x,ν]
 unfold ka;have l4:=k.jX;have l5:=o.jX;have l6:=k.hn;have l7:=o.hn;cases t:a.leaf with
 |true=>rw[t]at aL x;refine ai (ck @c @ξ @F @A @w @ν @Q @X @Y @t) ?_;rw[<-x];refine eb θ (by intro k6 L;simp only[a3n,a4r,or_false]at L;rcases L with rfl|rfl;(·rw[k.nR.one];rfl);(·rw[o.nR.one];rfl)) λB P S=>?_;have h:=ο Z S.sub;have T:=S.sub _ _ aE;simp -dsimp -implicitDefEqProofs (disch:=first|omega|assumption|(simp only[aR,Nat.reduceAdd];try omega)) only[go_sem,simprocAttr,-List.reduceReplicate,c,κ T,m,l];refine ak (Xx P _ _ B _ _ _ _ (k.nR.mono h) (o.nR.mono h) δ δ) ?_;intro du H y;have I:=y.1 _ _ T;have u:=k.r.append o.r;rw[<-mJ u]at y;simp -dsimp -implicitDefEqProofs (disch:=first|omega|assumption|(simp only[aR,Nat.reduceAdd];try omega)) only[go_sem,simprocAttr,-List.reduceReplicate,c,κ I,m,l];refine ak (D3 P H r W e (K.mono h) _ _ du y p M N u (by rw[a2V];omega)) ?_;intro v k7 V;obtain⟨k8,k9,rfl⟩:=V.shape;refine ai @c ?_;exact⟨_,θ,fm.base V (ω h)⟩
 |false=>rw[t]at aL x;refine ai (ck @c @ξ @F @A @w @ν @Q @X @Y @t) ?_;rw[<-x];refine eb θ (by intro k6 L;simp only[a3n,a4r,or_false]at L;rcases L with rfl|rfl;(·rw[k.jg.one];rfl);(·rw[o.jg.one];rfl)) λB P S=>?_;have h:=ο Z S.sub;have T:=S.sub _ _ aE;simp -dsimp -implicitDefEqProofs (disch:=first|omega|assumption|(simp only[aR,Nat.reduceAdd];try omega)) only[go_sem,simprocAttr,-List.reduceReplicate,c,κ T,m,l];refine ak (Xz P _ _ B _ _ _ _ (k.jg.mono h) (o.jg.mono h) δ δ) ?_;intro du H y;have I:=y.1 _ _ T;have u:=k.k.append o.k;rw[<-ox]at y;simp -dsimp -implicitDefEqProofs (disch:=first|omega|assumption|(simp only[aR,Nat.reduceAdd];try omega)) only[go_sem,simprocAttr,-List.reduceReplicate,c,κ I,m,l];refine ak (D4 P H r W e (K.mono h) _ _ du y p M N u (by rw[a2V];omega)) ?_;intro v k7 V;obtain⟨k8,k9,rfl⟩:=V.shape;refine ai @c ?_;exact⟨_,θ,fm.base V (ω h)⟩
def jh(d:ad)(k:Nat)(h:List an)(a:Nat)(b:hp):Except Int (List an)×ad:=
 if 2<=α b.rows+α b.kids then
  match lL d k b.leaf b.rows b.kids with
  |(.error o,c)=>(.error o,c)
  |(.ok r,c)=>(.ok (h.set a r),c)
 else match h[if a=0 then 1 else a - 1]? with
  |none=>(.error 21,d)
  |some x=>match hS d k x with
   |none=>(.error 21,d)
   |some p=>match ka d k (if a=0 then b else gG p) (if a=0 then gG p else b)with
    |(.error o,c)=>(.error o,c)
    |(.ok y,c)=>(.ok (h.take (a - 1)++(y++h.drop (a - 1+2))),c)
def XF(k b:U)(c d:Nat)(h:Except Int (List an)×ad)(o:R):Prop:=
 match h.1 with
 |.error p=>bh b c d h.2/\Ext c d k b/\p≠0/\∃a,o=.aF [a,.v (.int .i64 p)]/\a.cells=[a]
 |.ok bw=>∃r a,aC bu bw r/\o=.aF [a,.v (.int .i64 0)]/\dd k b c d h.2 37 (flat r) a
theorem aC.set{c:Type}{d:c->R->Prop}:∀ {k:List c}{o:Χ}{p:c}{r:R} (b:Nat),aC d k o->d p r->aC d (k.set b p) (o.set b r)
 |[],[],_,_,_,a,_=>a
 |_:: _,_:: _,_,_,0,a,h=>⟨h,a.2⟩
 |_:: _,_:: _,_,_,b+1,a,h=>⟨a.1,aC.set b a.2 h⟩
variable{e i v M b9 h9:Nat}{H:ad}
theorem D7{h:ad}{b c:hp}{d:List an}(a:ka H e b c=(.ok d,h))(o:α b.rows<=1000/\α c.rows<=1000/\α b.kids<=1000/\α c.kids<=1000):α d<=501:=by
 unfold ka at a;split at a
 .rename_i k;have:=oW a;rw[this];simp only[a3a,a3t,a1.chunks,(lN).1,a1.bI,a2V];omega
 .rename_i k;have:=oW a;rw[this];simp only[a3a,a3t,a1.chunks,(lN).1,a1.bI,a2V];omega
def bu.c{a:List an}(b:aC bu a g):bc 37 g:=b.cells λ_ _=>Η
def Ext.no(b:Ext i v f u)(a:e≠i/\e≠v)(c:u e=ε):f e=none:=by
 cases d:f e with
 |none=>rfl
 |some h=>have:=b _ _ a.1 a.2 d;rw[c]at this;cases this
theorem XG(V C r:U)(D E:Nat)(I W:ad)(d k:List an)(h:Χ)(x e:Nat)(F:R)(G:dd V C D E I 37 (flat h) (.aq x (α d) e 37))(c:aC bu d h)(K:fm C r D E (.ok k,W) (.aF [F,.v (.int .i64 0)]))(b a:Nat)(y:Int)(f:y=(a:Int))(g:b<a)(i:a<=α d)(l3:α d<=1000)(l4:α k<=501):
  AC γ 230 [.aq x (α d) e 37,.v (.int .i64 (b:Int)),.v (.int .i64 y),F] r λM N=>∃j,aC bu (d.take b++(k++d.drop a)) j/\dd V N D E W 37 (flat j) M:=by
 obtain⟨o,F,L,P,⟨l5,S,l,m⟩,O⟩:=K;simp only[R.aF.injEq,a5g,and_true]at P;subst P;have l6:=c.len;have Q:=L.len;have l7:=cT (bu.c c);have X:(flat o).length=α k*37:=by rw[cT (bu.c L),Q]
 have Y:∃n,C x=β (.cells n):=by obtain⟨_,Z,_⟩:=G;obtain⟨_,_,_,n,P,_,q,_⟩:=Z.aq (by grind);simp_all
 obtain⟨k0,s,t,u⟩:=G.step (m.trans (ω S.1)) (l.mono S.1);by_cases v:k=[]
 .subst v;obtain rfl:=O rfl;refine(Xv _ r (flat h) _ (α d) b a y f s δ g i δ).mono λdu k2 p=>?_;rw[(fw b (bu.c c)).2,(fw a (bu.c c)).1,<-ox]at p;exact⟨_,(c.take b).append (c.drop a),_,p,t,u⟩
 have l8:=a3T.2 v;obtain⟨z,w,A,B,rfl,H,k3,k4,k5,k6,k7,k8⟩:=aw.aq S (by grind);have T:=l.ct H;have k9:=m.no T H;obtain⟨l9,n0⟩:=Y;have n1:x≠z:=by grind
 have l0:=aw.add s k3 (by simp_all);have l1:aw (λ_=>ε) (k0.set z (.cells B)) 37 (flat o) (.aq z w A 37):=⟨(λ_ _ q=>by cases q),.inr ⟨z,w,A,B,rfl,rfl,ν _ _ _,k4,k5,k6,k7,k8⟩⟩;refine(D2 _ _ r (flat h) (flat o) _ _ (α d) (α k) b a y f l0 δ l1 X δ g i δ δ).mono λdu k2 p=>?_;have l2:(flat h).take (b*37)++(flat o++(flat h).drop (a*37))=flat (h.take b++(o++h.drop a)):=by rw[(fw b (bu.c c)).2,(fw a (bu.c c)).1];simp[flat]
 rw[l2]at p;exact⟨_,(c.take b).append (L.append (c.drop a)),_,p,t.set T,u.set (G.ext.no T k9)⟩
theorem XH(H I:U)(D W:Nat)(y:ad)(l0:bh H D W y)(z:List an)(K:Χ)(a14:R)(l1:aw H I 37 (flat K) a14)(S:aC bu z K)(b:hp)(E F:R)(a15 a16:Χ)(T:hT I b E F a15 a16)(b43:2<=α z)(a96:α z<=1000)(a:Nat)(b44:a<α z)(d:Nat)(l2:1<=d)(l3:d<=8):
  AC γ 235 [dz D d,a14,.v (.int .i64 (a:Int)),.agg [.v (.bool b.leaf),E,F]] I λl l4=>XF H l4 D W (jh y d z a b) l:=by
 have b45:=S.len;have a97:=l0.mono l1.1;have b46:=cT (bu.c S);obtain⟨l5,a98,a18,b47,rfl,b48,b49,a19,a99,b00,m,b50⟩:=aw.aq l1 (by grind);obtain rfl:a98=α z:=δ;have b51:=T.jX;have b52:=T.hn;have b53:=(aN (O:=.nil) (e4:=.nil) (h5:=.nil) bg).len;obtain⟨a27,h⟩:∃a27,jh y d z a b=a27:=⟨_,rfl⟩;rw[h];rw[jh]at h;clear a19 a99 b00;refine aM hm OO ?_;refine bp λa29 a30=>?_;refine dk λa34 a36 _ _=>?_;have M:=μ (X:=.cells [.v (.bool b.leaf),E,F]) (μ (X:=.cells [.ptr D 0,.v (.int .i64 (d))]) (θ) a30) a36;obtain⟨C,N⟩:∃C:U,(I.set a29 (.cells [.ptr D 0,.v (.int .i64 (d))])).set a34 (.cells [.v (.bool b.leaf),E,F])=C:=⟨_,rfl⟩;rw[N]at M|-;have aL:C a29=β (.cells [.ptr D 0,.v (.int .i64 (d))]):=by rw[<-N,ξ _ _ a7s,ν]
 have cd:C a34=β (.cells [.v (.bool b.leaf),E,F]):=by rw[<-N,ν]
 have b01:=κ aL;have b02:=κ cd;clear N a30 a36;have l6:=aw.mono l1 M;have a38:=dd.of l6 l0 Ext.refl;have n:=T.mono M;have l7:=a97.mono M;refine mA (Xp (.v (.bool b.leaf)) E F _ _ T.nR.one T.jg.one rfl T.nR.len T.jg.len δ δ C) ?_;refine aH (λa42=>?_) λa42=>?_
 .rw[if_pos δ]at h;refine cl (CN C D W y l7 b.leaf b.rows a15 E b.kids a16 F d l2 l3 n.r n.ai δ n.k n.tP δ) ?_;rintro l l8⟨a43,b03,O⟩;generalize lL y d b.leaf b.rows b.kids=l9 at*;obtain⟨res,q⟩:=l9
  dsimp only at a43 O
  obtain⟨Q,o,p,r,b04,n0,rfl⟩:=O.shape;have b05:=(aN (O:=o) (e4:=p) (h5:=r) n0).len;have b54:=(aN (O:=o) (e4:=p) (h5:=r) n0).t37;have b55:putAt (ae aB .nil .nil .nil) 0 (ae Q o p r)=ae Q o p r:=cC bg n0;have b56:=cm;generalize ae aB .nil .nil .nil=b57 at*;refine aa ?_;refine bp λb58 b06=>?_;obtain⟨b07,b08,a47,a48⟩:=dd.mono (a38.step b03 a43) (μ (X:=.cells (ae Q o p r)) θ b06);obtain⟨b59,b09,b60,-,n1⟩:=aw.put (a:=.agg (ae Q o p r)) b08 δ (bu.c S) (Ν (show a<α K by omega)) b05;have b61:cJ 37 (.aq l5 (α z) a18 37) (.v (.int .i64 (a)))=β (.ptr l5 (a*37)):=by simp_all [jL]
  have b62:=χ b09;have b10:=a48.trans (ω n1.1);refine aa ?_;refine⟨_,θ,?_⟩;subst h;cases res with
  |error b63=>obtain⟨n2,x⟩:=O;simp only[R.aF.injEq,a5g,R.v.injEq,Value.int.injEq,true_and,and_true]at x;obtain⟨_,rfl⟩:=x;exact⟨a47.mono n1.1,b10,n2,_,rfl,rfl⟩
  |ok b64=>obtain⟨b11,b12,b13,b14,b15,x⟩:=O;simp only[R.aF.injEq,a5g,R.v.injEq,Value.int.injEq,true_and,and_true,R.agg.injEq]at x;obtain⟨x,rfl⟩:=x;exact⟨_,_,aC.set a S ⟨b11,b12,b13,b14,b15,by rw[x]⟩,rfl,⟨b07,n1,a47,a48⟩⟩
 rw[if_neg δ]at h;have b65:max ((a:Int) - 1) 0=((a - 1:Nat)):=δ;obtain⟨e,f⟩:∃e,(if a=0 then 1 else a - 1)=e:=⟨_,rfl⟩;rw[f]at h;refine nA [1,2,4,7,12] (λ_:Unit=>[(13,.v (.int .i64 (e)))]) (λ_ l4=>l4=C) (λk=>?_) (λk=>?_) ?_
 .rw[if_pos (by have:=of_decide_eq_true k;omega)]at f;subst f;exact aV
 .rw[if_neg (by have:=of_decide_eq_false k;omega)]at f;subst f;exact aV
 rintro _ C rfl b16;have b17:e<α z:=by rw[<-f];split<;>omega
 have n3:=Ν b17;rw[n3]at h
 dsimp only at h
 generalize z[e]=G at*;obtain⟨b66,a52,a56,b18,o,p,r,rfl⟩:=S.get n3;obtain⟨b19,b20,n4⟩:=(bM.dC l6 δ rfl (bu.c S)).get e _ a52;have a57:=aN (O:=o) (e4:=p) (h5:=r) a56;change lJ C b19 (ae G o p r)at n4;have a61:=n4.ld C θ η 37 δ (by rw[a57.len];omega);rw[show aP η 37 (ae G o p r)=.agg (ae G o p r) by rw[aP,if_pos rfl,a57.t37]]at a61;refine cl (x5 C D W y l7 G o p r a56 b18 d l2 l3) ?_;rintro l a62⟨a63,x⟩;cases n5:hS y d G with
 |none=>rw[n5]at x h;obtain rfl:=x;subst h;refine aa ?_;refine bp λn9 X=>?_;have a65:=λG=>ο l6.1 (ο a63 (μ (X:=G) θ X));exact⟨_,θ,l0.mono (a65 _),ω (a65 _),Λ,_,rfl,rfl⟩
 |some c=>
 rw[n5]at x h
 dsimp only at h
 obtain⟨Y,g,rfl,b21⟩:=x;obtain⟨b22,b67⟩:=rY n5;obtain⟨b68,b69,b70⟩:=kF b22.ok;clear a61 b20 n4 b01 b02 a42 a52 n3;refine aa ?_;refine bp λn9 X=>?_;obtain⟨s,a00⟩:∃s,a62.set n9 (.cells [.v (.int .u8 (c.kind.toNat)),Y,g])=s:=⟨_,rfl⟩;have a01:a62.sub s:=by rw[<-a00];exact μ θ X
 have ga:s n9=β (.cells [.v (.int .u8 (c.kind.toNat)),Y,g]):=by rw[<-a00,ν]
 have a02:=ο a63 a01;obtain⟨b71,a68,a69,b23,a03,a71,Z,b24,b25⟩:=b21;have a73:=fj.mono ⟨a71,Z,(bM.dC b23 δ rfl (a71.cells λ_ _=>dy.cells)).mono a03.1,bM.dC a03 δ rfl (bu.c Z),b24,b25⟩ a01;have m:=rd a02 cd;have b26:=κ ga;have b72:=@r9;refine cl (x6 c a68 a69 Y g s a73) ?_;rintro _ k0⟨a74,b73,rfl,b27,a81⟩;clear a00 X;have t:=a81.1;have u:=t _ _ (a02 _ _ cd);have m:=κ u;refine aa ?_;refine bp λw a04=>?_;have b74:=U.gu a04 u;refine dk λA a05 _ _=>?_;have b75:=U.gu a05 u;have b28:=@σ;obtain⟨V,k2⟩:∃V,(k0.set w (.cells [.v (.bool (decide (c.kind=2))),a74,g])).set A (.cells [.v (.bool b.leaf),E,F])=V:=⟨_,rfl⟩;have L:k0.sub V:=by rw[<-k2];exact μ (μ θ a04) a05
 have nv:V w=β (.cells [.v (.bool (decide (c.kind=2))),a74,g]):=by rw[<-k2,ξ _ _ a7s,ν]
 have nx:V A=β (.cells [.v (.bool b.leaf),E,F]):=by rw[<-k2,ν]
 have a83:=ο a02 t;have a84:=n.mono a83;have a86:=aw.mono a03 (ο a01 t);have k3:(gG c).rows.length<=1000/\(gG c).kids.length<=1000:=by simp[gG];omega
 refine aa ?_;clear b28 m;refine nA [1,4,12,16,17] (λ_:Unit=>[]) (λ_ P=>k0.sub P/\∃k4 k5 B k6 k7 a06 a07 a08 a09,P w=β (.cells [.v (.bool (if a=0 then b else gG c).leaf),k4,k5])/\P A=β (.cells [B,k6,k7])/\B.cells=[B]/\hT P (if a=0 then b else gG c) k4 k5 a06 a07/\hT P (if a=0 then gG c else b) k6 k7 a08 a09) (λk=>?_) (λk=>?_) ?_
 .have k:=of_decide_eq_true k;have k:a=0:=δ;simp only[if_pos k];have m:=rd L u;have b26:=rd (ο t L) ga;refine cl (x6 c a68 a69 Y g V (a73.mono (ο t L))) ?_;rintro _ l8⟨b76,b77,rfl,b29,i⟩;have m:=rd i.1 (L _ _ u);have b78:=χ (i.1 _ _ nv);have b79:∀a88,dR (l8.set w a88) A=β [.v (.bool b.leaf),E,F]:=λa88=>χ (by rw[ξ _ _ a7s];exact i.1 _ _ nx);have k8:∀G a89,k0.sub ((l8.set w G).set A a89):=λG a89 b80 v a10=>by
   rw[ξ _ _ (U.gu a05 a10),ξ _ _ (U.gu a04 a10)];exact i.1 _ _ (L _ _ a10)
  refine aa ?_;refine⟨(),_,_,_,_,_,_,_,_,_,rfl,rfl,rfl,a84.mono (k8 _ _),hT.of b29 Z (aw.emp i ?_) (aw.mono a86 (k8 _ _)) k3.1 k3.2⟩;rintro b30 b81 b82 rfl;have a90:V b30=none:=by
   rcases i.2 with⟨_,j|j⟩|⟨b83,_,_,_,j,b84,_⟩
   .cases j
   .cases j
   simp_all
  rw[ξ _ _ (U.gu a90 nx).symm,ξ _ _ (U.gu a90 nv).symm]
 .have k:=of_decide_eq_false k;have k:¬a=0:=δ;simp only[if_neg k];refine aa ?_;subst k2;exact⟨(),_,_,_,_,_,_,_,_,_,rfl,rfl,rfl,hT.of b27 Z (a81.mono L) (a86.mono L) k3.1 k3.2,a84.mono L⟩
 rintro _ P⟨k8,k4,k5,B,k6,k7,a06,a07,a08,a09,nv,nx,b31,b32,b33⟩b16;have b34:(if a=0 then b else gG c).rows.length<=1000/\(if a=0 then gG c else b).rows.length<=1000/\(if a=0 then b else gG c).kids.length<=1000/\(if a=0 then gG c else b).kids.length<=1000:=by split<;>omega
 have b35:=λq k9 j=>D7 (H:=y) (h:=q) (e:=d) (d:=k9) j b34;generalize (if a=0 then b else gG c)=a92 at*;generalize (if a=0 then gG c else b)=a94 at*;have a11:=ο a83 k8;have a19:=rd a11 aL;have b85:=κ nv;have b86:=κ nx;refine cl (XE P D W y (l7.mono a11) a92 a94 k4 k5 B k6 k7 a06 a07 a08 a09 b32 b33 b31 d l2 l3) ?_;intro l b36 a13;generalize ka y d a92 a94=l9 at*;obtain⟨res,q⟩:=l9;have a95:=dd.mono a38 a11;cases res with
 |error b04=>obtain⟨b37,b38,n2,rfl⟩:=a13;subst h;refine aa ?_;exact⟨_,θ,b37,a95.ext.trans b38,n2,_,rfl,rfl⟩
 |ok k9=>obtain⟨_,a3,_,rfl,_⟩:=id a13;have b39:=b35 q k9 rfl;have b40:((a - 1:Nat))+2=((a - 1+2:Nat):Int):=rfl;refine cl (XG H P b36 D W y q z k9 K l5 a18 a3 a95 S a13 (a - 1) (a - 1+2) _ b40 δ δ a96 b39) ?_;rintro l b87⟨b88,b41,b42⟩;subst h;refine aa ?_;exact⟨_,θ,_,_,b41,rfl,b42⟩
end Go.Proofs.YtcfpcblgmmeioaaGreat
set_option maxHeartbeats 1000000
namespace Go.bt
open Go
variable{q b7:R}{f u e1:U}{g A c0:Χ}{e i v M b9 h9:Nat}
theorem aw.nB(x:aw u f e g q):∃d:U,aw d f e g q/\d.sub f/\u.sub d/\∀a,(∀b h k,q=.aq b h k e->b≠a)->d a=f a:=by
 obtain⟨p,o⟩:=x;rcases o with o|⟨b,h,k,y,rfl,z,C,D⟩
 .exact⟨f,⟨θ,.inl o⟩,θ,p,λ_ _=>rfl⟩
 .have r:(f.del b).sub f:=λa E c=>by
   grind[U.hC,U.eg]
  refine⟨f.del b,⟨r,.inr ⟨b,h,k,y,rfl,U.hC _ _,C,D⟩⟩,r,λa E c=>?_,λa c=>U.eg _ (Ζ (c _ _ _ rfl))⟩;have F:a≠b:=by rintro rfl;rw[z]at c;cases c
  rw[U.eg _ F];exact p _ _ c
theorem aw.own(c:aw f u i g (.aq e v M i)):f e=ε/\∃b,u e=β (.cells b):=by
 rcases c.2 with⟨_,a|a⟩|⟨d,h,k,b,o,p,r,_⟩
 .cases a
 .cases a
 simp_all
end Go.bt
namespace Go.Proofs.YtcfpcblgmmeioaaGreat
open Go Go.bt
def hq(d:Nat)(c:Ρ):Nat->ad->an->Except Int hp×ad
  |0,b,_=>(.error 21,b)
  |p+1,b,r=>match hS b d r with
    |none=>(.error 21,b)
    |some a=>
      if a.kind=2 then
        (if k1 (a.rows.map Β) c=η then(.ok ⟨η,(a.rows.map Β).take (eu (a.rows.map Β) c)++(a.rows.map Β).drop (eu (a.rows.map Β) c+1),a.kids⟩,b)
         else(.error 9,b))
      else match a.kids[gV c a]? with
        |none=>(.error 21,b)
        |some x=>match hq d c p b x with
          |(.error h,k)=>(.error h,k)
          |(.ok y,k)=>match jh k d a.kids (gV c a) y with
            |(.error h,o)=>(.error h,o)
            |(.ok bw,o)=>(.ok ⟨ι,a.rows.map Β,bw⟩,o)
def XI(x c:U)(d h:Nat)(k:Except Int hp×ad)(o:R):Prop:=
 bh c d h k.2/\Ext d h x c/\match k.1 with
 |.error p=>p≠0/\∃y a b,o=.aF [.agg [y,a,b],.v (.int .i64 p)]
 |.ok r=>∃a b z C,o=.aF [.agg [.v (.bool r.leaf),a,b],.v (.int .i64 0)]/\hT c r a b z C
variable{e i v M b9 h9:Nat}{H:ad}
theorem XJ{h:ad}{c d:List an}{b:hp}(a:jh H e c i b=(.ok d,h))(o:α c<=4)(p:α b.rows<=1000/\α b.kids<=1000):α d<=1000:=by
 unfold jh at a;split at a;grind
 .rename_i r;split at a
  .simp_all
  .split at a
   .simp_all
   .rename_i x k;obtain⟨y,z,C⟩:=kF (rY k).1.ok;grind[Prod.mk.inj,Except.ok.inj,D7,gG,Γ,List.length_take,List.length_drop]
theorem XK(E T:Nat)(L:Ρ)(a47:Own)(F:Nat)(b00:1<=F)(b01:F<=8):∀(m:Nat)(f:U)(n:ad)(g:an)(l8 l9 n0:Own),bh f E T n->α g.sum=32->g.cH->0<m->g.size<m->
  AC γ 172 [dz E F,.agg (ae g l8 l9 n0),.J (ab L) a47] f λn1 b29=>XI f b29 E T (hq F L m n g) n1:=by
 intro m
 induction m with
 |zero=>intros;omega
 |succ m ih=>
 intro f n g l8 l9 n0 P b02 b30 b66 b67;have n2:=(aN (O:=l8) (e4:=l9) (h5:=n0) b02).lt;have b31:=@σ;have b68:=@r9;obtain⟨b03,b⟩:∃b03,hq F L (m+1) n g=b03:=⟨_,rfl⟩;rw[b];rw[hq]at b;refine aM hm Na ?_;refine bp λa48 b04=>?_;refine dk λb32 b33 _ _=>?_;refine hG λx Q _ _ _ _=>?_;generalize A:((f.set a48 _).set b32 _).set x _=n3;have n4:f.sub n3:=by subst A;exact aV
 have aE:n3 a48=β (.cells [.ptr E 0,.v (.int .i64 (F))]):=by subst A;exact aV
 have bx:n3 x=β (.cells [.v (.bool ι),.J [] .nil,.J [] .nil]):=by subst A;exact aV
 clear A;have b05:=P.ct b04;have C:=P.ct Q;refine cl (x5 n3 E T n (P.mono n4) g l8 l9 n0 b02 b30 F b00 b01) ?_;rintro n1 a52⟨a56,n5⟩;have k5:=a56 _ _ bx;have b06:=ο n4 a56;clear b04 b33;cases a57:hS n F g with
 |none=>rw[a57]at n5 b;obtain rfl:=n5;subst b;refine aa ?_;refine bp λn9 k6=>?_;have b07:=λb34=>ο b06 (μ (X:=b34) θ k6);have b35:=U.gu k6 k5;have k7:∀k,dR (a52.set n9 k) x=β [.v (.bool ι),.J [] .nil,.J [] .nil]:=λk=>χ (by rw[ξ _ _ b35];exact k5);refine aa ?_;exact⟨_,θ,(P.mono (b07 _)).set C,(ω (b07 _)).set Q,Λ,_,_,_,rfl⟩
 |some p=>
  rw[a57]at n5 b
  dsimp only at b
  obtain⟨a00,y,rfl,b69,b08,a01,k8,q,b09,X,b36,b37⟩:=n5;obtain⟨b10,b38⟩:=rY a57;obtain⟨b70,b71,b72⟩:=kF b10.ok;refine aa ?_;refine bp λn9 k6=>?_;obtain⟨k9,a61⟩:∃k9,a52.set n9 (.cells [.v (.int .u8 (p.kind.toNat)),a00,y])=k9:=⟨_,rfl⟩;have B:a52.sub k9:=by rw[<-a61];exact μ θ k6
  have bs:k9 n9=β (.cells [.v (.int .u8 (p.kind.toNat)),a00,y]):=by rw[<-a61,ν]
  have b11:=fj.mono ⟨b09,X,(bM.dC k8 δ rfl (b09.cells λ_ _=>dy.cells)).mono q.1,bM.dC q δ rfl (bu.c X),b36,b37⟩ B;have a62:=κ bs;refine cl (x6 p b08 a01 a00 y k9 b11) ?_;rintro _ b12⟨S,a63,rfl,s,H⟩;clear a61 k6 a62;refine aa ?_;refine bp λG l0=>?_;obtain⟨D,a02⟩:∃D,b12.set G (.cells [.v (.bool (decide (p.kind=2))),S,y])=D:=⟨_,rfl⟩;rw[b31,a02];have i:b12.sub D:=by rw[<-a02];exact μ θ l0
  have ck:D G=β (.cells [.v (.bool (decide (p.kind=2))),S,y]):=by rw[<-a02,ν]
  clear a02;have I:=H.1;have a03:=ο b06 B;have Y:=ο a03 (ο I i);have a04:=ο B (ο I i);have a65:=Μ (ο a03 I) l0;have V:=P.ct a65;have a05:=a04 _ _ k5;have a68:=a04 _ _ (a56 _ _ aE);have a69:=U.gu l0 (I _ _ (B _ _ k5));have l1:=κ ck;have k7:=χ a05;have a06:∀a c d,y=.aq a c d 37->a≠E/\a≠T/\a≠x/\a≠G/\a≠a48:=by
   rintro a c d rfl;obtain⟨h,a71,z⟩:=q.own;have a73:=k8.1 _ _ bx;have a74:=k8.1 _ _ aE;have K:=(P.mono (ο n4 k8.1)).ct h;refine⟨K.1,K.2,?_,?_,?_⟩
   .rintro rfl;rw[a73]at h;cases h
   .rintro rfl;rw[I _ _ (B _ _ z)]at l0;cases l0
   .rintro rfl;rw[a74]at h;cases h
  have a07:∀a c d,S=.aq a c d 1->a≠E/\a≠T/\a≠x/\a≠G/\∀M Z k0,y=.aq M Z k0 37->M≠a:=by
   rintro a c d rfl;obtain⟨h,a71,z⟩:=H.own;have K:=(P.mono a03).ct h;refine⟨K.1,K.2,?_,?_,?_⟩
   .rintro rfl;rw[B _ _ k5]at h;cases h
   grind
   .rintro M Z k0 rfl rfl;obtain⟨_,b73,r⟩:=q.own;rw[B _ _ r]at h;cases h
  refine aH (λl2=>?_) λl2=>?_
  .rw[if_pos l2]at b;have b74:(p.rows.map Β).length=α p.rows:=a3k _;generalize b39:p.rows.map Β=l3 at*;refine cl (CP l3 a63 S L a47 D s ((bM.dC H δ rfl (s.cells λ_ _=>φ)).mono i) δ) ?_;rintro _ D⟨rfl,b75,rfl⟩;have b40:k1 l3 L=η->eu l3 L<α l3:=λo=>by
    grind[k1,Ε]
   generalize eu l3 L=W at*;refine aa ?_;refine aH (λa08=>?_) λa08=>?_
   .rw[if_neg (by simp[a08])]at b;subst b;exact⟨_,θ,(P.mono Y).set C,(ω Y).set Q,Λ,_,_,_,rfl⟩
   .rw[if_pos a08]at b;have b76:=b40 a08;obtain⟨b41,b13,b77,_,b42⟩:=aw.nB (aw.mono H i);rw[mJ s]at b13;have b78:=s.len;refine cl (Xt b41 D a63 S b13 W δ δ) ?_;intro a5 t N;have b14:=(s.take W).append (s.drop (W+1));rw[<-mJ b14]at N;have a09:∀j k,D j=β k->(∀a c d,S=.aq a c d 1->a≠j)->t j=β k:=λj k o b43=>N.1 _ _ (by rw[b42 j b43];exact o);have a10:=a09 _ _ ck λa c d o=>(a07 a c d o).2.2.2.1;have a11:=a09 _ _ a05 λa c d o=>(a07 a c d o).2.2.1;have u:f.sub t:=λj k l4=>a09 j k (Y _ _ l4) (by
     rintro a c d rfl rfl;have:=H.own.1;rw[a03 _ _ l4]at this;cases this)
    have b79:=fi N;obtain⟨e,l⟩:∃e,(t.set G (.cells [.v (.bool η),a5,y])).set x (.cells [.v (.bool η),a5,y])=e:=⟨_,rfl⟩;have k7:∀k,dR (t.set G k) x=β [.v (.bool ι),.J [] .nil,.J [] .nil]:=λk=>χ (by rw[ξ _ _ a69];exact a11);have b15:=χ a10;have b16:e.read x=β [.v (.bool η),a5,y]:=κ (by rw[<-l,ν]);clear b39 l1;refine aa ?_;refine⟨e,θ,?_⟩;subst b;refine⟨by rw[<-l];exact((P.mono u).set V).set C,by rw[<-l];exact((ω u).set a65).set Q,a5,y,_,a01,rfl,hT.of b14 X (aw.emp N ?_) (aw.emp q ?_) Κ Κ⟩
    .rintro a c d rfl;have l5:=N.own.1;have h:a≠G:=by grind
     have z:a≠x:=by grind
     rw[<-l,ξ _ _ z,ξ _ _ h]
    .rintro a c d rfl;obtain⟨_,a71,r⟩:=q.own;have v:=a06 _ _ _ rfl;rw[<-l,ξ _ _ v.2.2.1,ξ _ _ v.2.2.2.1,r];exact a09 _ _ (a04 _ _ r) λM Z k0 o=>Ζ ((a07 M Z k0 o).2.2.2.2 _ _ _ rfl)
  .rw[if_neg l2]at b;rw[decide_eq_false l2]at ck l1;have b80:=s.len;have a62:=rd (ο I i) bs;refine cl (CO p b08 a01 a00 y L a47 D (b11.mono (ο I i))) ?_;rintro _ D⟨rfl,rfl⟩;obtain⟨-,a73,a74,K⟩:=b10.inner (b38.resolve_left l2);have a13:gV L p<α p.kids:=by grind[xb,List.length_map]
   generalize gV L p=W at*;have a81:=Ν a13;have b17:p.kids[W]'a13∈p.kids:=a3r _;rw[a81]at b;simp only at b;generalize p.kids[W]'a13=k2 at a81 b17 b;obtain⟨b81,b44,b18,b45,h,z,r,rfl⟩:=X.get a81;obtain⟨_,_,_,b82,b83⟩:=K k2 b17;have b19:=aw.mono q a04;obtain⟨b46,b47,b84,_,l6⟩:=b19.nB;have b20:f.sub b46:=λj k l4=>by
    rw[l6 j (by
     rintro a c d rfl rfl;have:=q.own.1;rw[k8.1 _ _ (n4 _ _ l4)]at this;cases this)]
    exact Y _ _ l4
   have b21:=(l6 _ λa c d o=>(a06 a c d o).2.2.2.1).trans ck;have b22:=(l6 _ λa c d o=>(a06 a c d o).2.2.1).trans a05;have b85:=(l6 _ λa c d o=>(a06 a c d o).2.2.2.2).trans a68;have b48:=P.mono Y;have a83:=κ a68;obtain⟨b49,b50,a84⟩:=(bM.dC b19 δ rfl (bu.c X)).get W _ b44;have b23:=aN (O:=h) (e4:=z) (h5:=r) b18;change lJ D b49 (ae k2 h z r)at a84;have b24:=a84.ld D θ η 37 δ (by rw[b23.len];omega);rw[show aP η 37 (ae k2 h z r)=.agg (ae k2 h z r) by rw[aP,if_pos rfl,b23.t37]]at b24;refine aa ?_;refine cl (ih D n k2 h z r b48 b18 b45 δ δ) ?_;intro n1 t k3;generalize hq F L m n k2=a86 at k3 b;obtain⟨res,a88⟩:=a86;obtain⟨a14,u,k3⟩:=k3
   dsimp only at a14 k3 b
   have a11:=u _ _ C.1 C.2 a05;have a10:=u _ _ V.1 V.2 ck;have b25:=u _ _ b05.1 b05.2 a68;clear a83 a62 l1 b24 b50 a84;cases res with
   |error b51=>obtain⟨a89,a,a15,a16,rfl⟩:=k3;subst b;refine aa ?_;refine bp λa18 w=>?_;have b52:=U.gu w a11;have k7:∀k,dR (t.set a18 k) x=β [.v (.bool ι),.J [] .nil,.J [] .nil]:=λk=>χ (by rw[ξ _ _ b52];exact a11);have b26:=a14.ct w;have A:=(ω Y).trans u;refine aa ?_;exact⟨_,θ,(a14.set b26).set C,(A.set (A.no b26 w)).set Q,a89,_,_,_,rfl⟩
   |ok a19=>
    obtain⟨a15,a16,b53,b54,rfl,a90⟩:=k3
    dsimp only at b
    refine aa ?_;refine bp λa18 w=>?_;obtain⟨e,l⟩:∃e,t.set a18 (.cells [.v (.bool a19.leaf),a15,a16])=e:=⟨_,rfl⟩;have a27:t.sub e:=by rw[<-l];exact μ θ w
    have b55:e.read a18=β [.v (.bool a19.leaf),a15,a16]:=κ (by rw[<-l,ν]);have l1:=rd a27 a10;have a83:=rd a27 b25;have b86:=U.gu w a10;have b87:=U.gu w b25;have b56:=dd.mono ((dd.of b47 (P.mono b20) Ext.refl).step u a14) a27;obtain⟨b27,N,b57,a29⟩:=b56;refine cl (XH b27 e E T a88 b57 p.kids a01 y N X a19 a15 a16 b53 b54 (a90.mono a27) a73 δ W a13 F b00 b01) ?_;intro n1 O n2;clear l w b55 l1 a83;have a30:=λl7 a92 o=>XJ (H:=a88) (h:=l7) (e:=F) (i:=W) (d:=a92) o a74 ⟨a90.jX,a90.hn⟩;generalize jh a88 F p.kids W a19=a86 at b n2 a30;obtain⟨res,l7⟩:=a86;have a34:∀(a36),bh O E T l7->Ext E T b27 O->O x=β (.cells [.v (.bool ι),.J [] .nil,.J [] .nil])/\O G=β (.cells [.v (.bool ι),S,y])/\
      ∃k4:U,(O.set G (.cells [.v (.bool ι),S,a36])).set x (.cells [.v (.bool ι),S,a36])=k4/\k4.read x=β [.v (.bool ι),S,a36]/\bh k4 E T l7/\Ext E T f k4:=by
     intro a36 h z;have r:=a29.trans z;exact⟨r _ _ C.1 C.2 b22,r _ _ V.1 V.2 b21,_,rfl,κ (ν _ _ _),(h.set V).set C,((((ω b20).trans r).set a65).set Q)⟩
    cases res with
    |error b51=>
     obtain⟨b28,b58,a89,a38,rfl,b59⟩:=n2
     dsimp only at b b28
     subst b;obtain⟨a94,a95,k4,a96,b16,a97,a98⟩:=a34 a38 b28 b58;have k7:∀k,dR (O.set G k) x=β [.v (.bool ι),.J [] .nil,.J [] .nil]:=λk=>χ (by rw[ξ _ _ a69];exact a94);have b15:=χ a95;clear a30 a34;refine aa ?_;exact⟨_,θ,a97,a98,a89,_,_,_,rfl⟩
    |ok a92=>
     obtain⟨b60,a38,b61,rfl,a42⟩:=n2;have b62:=a30 l7 a92 rfl
     dsimp only at b a42
     subst b;obtain⟨a94,a95,k4,a96,b16,a97,a98⟩:=a34 a38 a42.fl a42.ext;have k7:∀k,dR (O.set G k) x=β [.v (.bool ι),.J [] .nil,.J [] .nil]:=λk=>χ (by rw[ξ _ _ a69];exact a94);have b15:=χ a95;obtain⟨b88,a43,b89,a99⟩:=a42;have b59:=fi a43;clear a30 a34;refine aa ?_;have b63:=a29.trans (a99.trans (ω a43.1));refine⟨_,θ,a97,a98,S,a38,a63,b60,rfl,hT.of s b61 (aw.emp (aw.mono H i) ?_) (aw.emp a43 ?_) Κ b62⟩
     .rintro a c d rfl;have v:=a07 _ _ _ rfl;obtain⟨_,a71,r⟩:=H.own;rw[<-a96,ξ _ _ v.2.2.1,ξ _ _ v.2.2.2.1,i _ _ r];exact b63 _ _ v.1 v.2.1 (by rw[l6 _ (λM Z k0 o=>v.2.2.2.2 M Z k0 o)];exact i _ _ r)
     .rintro a c d rfl;have l5:=a43.own.1;have b64:=a99 _ _ V.1 V.2 (a29 _ _ V.1 V.2 b21);have b65:=a99 _ _ C.1 C.2 (a29 _ _ C.1 C.2 b22);have h:a≠G:=by rintro rfl;rw[b64]at l5;cases l5
      have z:a≠x:=by rintro rfl;rw[b65]at l5;cases l5
      rw[<-a96,ξ _ _ z,ξ _ _ h]
def kJ(d:Nat)(k:Ρ)(h:ad)(c:an):Except Int an×ad:=
 if c=aB then(.error 9,h)
 else match hq d k (c.size.toNat+1) h c with
  |(.error o,b)=>(.error o,b)
  |(.ok a,b)=>
   if a.leaf=η/\α a.rows=0 then(.ok aB,b)
   else if a.leaf=ι/\α a.kids=1 then(.ok (a.kids.headD aB),b)
   else lL b d a.leaf a.rows a.kids
def XL(V:U)(x W:Nat)(L:ad)(B:bh V x W L)(c:an)(e f g:Own)(H:α c.sum=32)(k4:c.cH)(o:Ρ)(m:Own)(b:Nat)(k5:1<=b)(k6:b<=8)(a15:α o=b):
  AC γ 108 [.ptr x 0,.agg (ae c e f g),.J (ab o) m,.v (.int .i64 (b:Int))] V λI k7=>bh k7 x W (kJ b o L c).2/\Ext x W V k7/\gj (kJ b o L c).1 I:=by
 have a16:=(aN (O:=e) (e4:=f) (h5:=g) H).lt;have a18:=(aN (O:=.nil) (e4:=.nil) (h5:=.nil) bg).lt;have a19:=cm;have K:=λM d h k i=>cC (a:=.nil) (b:=.nil) (c:=.nil) (w:=M) (O:=d) (e4:=h) (h5:=k) bg i;have a27:=K aB .nil .nil .nil bg;generalize N:ae aB .nil .nil .nil=k8 at*;obtain⟨k9,a⟩:∃k9,kJ b o L c=k9:=⟨_,rfl⟩;rw[a];unfold kJ at a;have a29:nO (b) [o]=true:=by simp[nO];omega
 refine aM hm LA ?_;refine bp λl0 n4=>?_;refine dk λO P _ _=>?_;refine tm λn5 a30 _ _ _ _=>?_;generalize y:((V.set l0 _).set O _).set n5 _=E;have n:V.sub E:=by subst y;exact aV
 have ba:E l0=β (.cells (ae c e f g)):=by subst y;exact aV
 have bs:E O=β (.cells k8):=by subst y;exact aV
 clear y;have l1:=B.mono n;have r:=B.ct P;have l2:=κ ba;have Q:=χ bs;have n9:=@σ;refine mA (wZ b [o] [.J (ab o) m] _ E ⟨⟨m,rfl⟩,trivial⟩ (bM.J (by simp[bc,τ])) ρ) ?_;refine mA (lK c e f g E H λ_=>k4) ?_;refine aH (λX=>?_) λX=>?_
 .rw[if_pos X]at a;subst a;exact⟨_,θ,l1.set r,(ω n).set P,Λ,by rw[N]⟩
 rw[if_neg X]at a;refine bp λl3 q=>?_;have a34:=U.gu q ba;obtain⟨j,z⟩:∃j,E.set l3 (.cells [.ptr x 0,.v (.int .i64 (b))])=j:=⟨_,rfl⟩;have s:E.sub j:=by rw[<-z];exact μ θ q
 have ck:j l3=β (.cells [.ptr x 0,.v (.int .i64 (b))]):=by rw[<-z,ν]
 have l4:=κ ck;have l2:=rd s ba;refine cl (XK x W o m b k5 k6 (c.size.toNat+1) j L c e f g (l1.mono s) H k4 δ δ) ?_;intro I Y C;generalize hq b o (c.size.toNat+1) L c=a00 at C a;obtain⟨res,a01⟩:=a00;obtain⟨t,Z,C⟩:=C
 dsimp only at t C a
 have u:=Z _ _ r.1 r.2 (s _ _ bs);have l5:=B.ct (Μ n q);have a02:=Z _ _ l5.1 l5.2 ck;have y:=(ω (ο n s)).trans Z;clear z l4 l2;cases res with
 |error a03=>obtain⟨a04,a36,v,l,rfl⟩:=C;subst a;refine aa ?_;refine bp λw S=>?_;have l6:=t.ct S;have a05:=U.gu S u;have Q:∀l7,dR (Y.set w l7) O=β k8:=λl7=>χ (by rw[ξ _ _ a05];exact u);refine aa ?_;exact⟨_,θ,(t.set l6).set r,(y.set (y.no l6 S)).set P,a04,by rw[N]⟩
 |ok T=>
  obtain⟨v,l,a06,a07,rfl,p⟩:=C
  dsimp only at a
  refine aa ?_;refine bp λw S=>?_;obtain⟨F,A⟩:∃F,Y.set w (.cells [.v (.bool T.leaf),v,l])=F:=⟨_,rfl⟩;have D:Y.sub F:=by rw[<-A];exact μ θ S
  have a38:F.read w=β [.v (.bool T.leaf),v,l]:=κ (by rw[<-A,ν]);have l4:=rd D a02;have Q:=χ (D _ _ u);have k0:=t.mono D;have k2:=y.trans (ω D);have a42:=p.nR.len;have a43:=p.jg.len;have a47:=p.jX;have a48:=p.hn;rw[n9,A];clear S q n4 A;refine aH (λG=>?_) λG=>?_
  all_goals refine aH (λc2=>?_) λc2=>?_
  .rw[if_pos ⟨G,δ⟩]at a;subst a;exact⟨_,θ,k0.set r,k2.set P,bg,oU,.nil,.nil,.nil,by rw[N]⟩
  rotate_left
  .obtain⟨bm,l8⟩:=a4M.1 (show α T.kids=1 by omega);rw[if_neg (by simp[G]),if_pos ⟨G,δ⟩,l8]at a;subst a;obtain⟨a52,a08,k3,a09,d,h,k,rfl⟩:=p.k.get (show T.kids[0]?=β bm by rw[l8];rfl);obtain⟨l9,n0,n1⟩:=(p.tP.mono D).get 0 _ a08;have z:=aN (O:=d) (e4:=h) (h5:=k) k3;change lJ F l9 (ae bm d h k)at n1;have n0:cJ 37 l (.v (.int .i64 0))=β l9:=n0;have a10:=n1.ld F θ η 37 δ (by rw[z.len];omega);rw[show aP η 37 (ae bm d h k)=.agg (ae bm d h k) by rw[aP,if_pos rfl,z.t37]]at a10;have a11:=K bm d h k k3;have z:=z.lt;refine aa ?_;exact⟨_,θ,k0.set r,k2.set P,k3,a09,d,h,k,rfl⟩
  all_goals
   rw[if_neg (by rintro⟨i,a13⟩;first|omega|simp[G]at i),if_neg (by rintro⟨i,a13⟩;first|omega|simp[G]at i),G]at a;subst a;refine cl (CN F x W a01 k0 _ T.rows a06 v T.kids a07 l b k5 k6 p.r (p.ai.mono D) δ p.k (p.tP.mono D) δ) ?_;rintro I a56⟨a14,n2,C⟩;have Q:=χ (n2 _ _ r.1 r.2 (D _ _ u));obtain⟨M,d,h,k,a03,n3,rfl⟩:=C.shape;have a57:=(aN (O:=d) (e4:=h) (h5:=k) n3).lt;have a11:=K M d h k n3;refine aa ?_;exact⟨_,θ,a14.set r,(k2.trans n2).set P⟩
end Go.Proofs.YtcfpcblgmmeioaaGreat
namespace Go.bt
open Go
end Go.bt
namespace Go.Proofs.YtcfpcblgmmeioaaGreat
open Go Go.bt
inductive oZ where
 |row (r:Ρ)
 |gk (k:an)
def XM(h:oZ)(b:R):Prop:=
 match h with
 |.row c=>c≠[]/\∃d,d≠.nil/\b=.agg (.J (ab c) d::ae aB .nil .nil .nil)
 |.gk a=>α a.sum=32/\a.cH/\∃k o p,b=.agg (.J [] .nil::ae a k o p)
abbrev XN(a b:Nat)(c:Χ)(d:Own):Χ:=[.ptr a 0,.v (.int .i64 (b:Int)),.J c d]
def D8(b:U)(c d h:Nat)(k:List oZ):Prop:=∃a o,b c=β (.cells (XN d h a o))/\aC XM k a
structure s0 where
 A:List oZ
 B:List oZ
 gone:List Ρ
 s3:List Ρ
 mL:Int
abbrev XO(a b:Nat)(c d:Χ)(h k:Own)(o:Int):Χ:=[.ptr a 0,.ptr b 0,.J c h,.J d k,.v (.int .i64 o)]
structure a2D(h k:U)(W o p z C d:Nat)(w:s0):Prop where
 sub:h.sub k
 tQ:h W=ε
 na:h o=ε
 nb:h p=ε
 a2E:o≠p
 a:D8 k o z d w.A
 b:D8 k p C d w.B
 w:∃oM eB r fN,k W=β (.cells (XO o p oM r eB fN w.mL))/\aC isRow w.gone oM/\aC isRow w.s3 r/\bj h k 1 oM eB/\bj h k 1 r fN/\∀x c y D,eB=.buf x c->fN=.buf y D->x≠y
end Go.Proofs.YtcfpcblgmmeioaaGreat
namespace Go.bt
open Go
end Go.bt
namespace Go.Proofs.YtcfpcblgmmeioaaGreat
open Go Go.bt
variable{w j0:an}{e i v M b9 h9:Nat}{b3:bQ}{H:ad}
def qi(a:dn H e w=β b3):oY e w b3:=by
 unfold dn at a;split at a
 .cases a
 .split at a
  .cases a
  .split at a
   .rename_i b;obtain rfl:=Δ a;exact tO b
   .cases a
end Go.Proofs.YtcfpcblgmmeioaaGreat
namespace Go.bt
open Go
end Go.bt
namespace Go.Proofs.YtcfpcblgmmeioaaGreat
open Go Go.bt
def wt:oZ->Nat
 |.row _=>1
 |.gk a=>if 1<=a.size/\a.size<=1048576 then 3*a.size.toNat - 1 else 1
def kb(a:List oZ):Nat:=(a.map wt).sum
structure Bd(w a:s0):Prop where
 wt:kb a.A+kb a.B<kb w.A+kb w.B
 rows:α a.gone+α a.s3+(kb a.A+kb a.B)<=α w.gone+α w.s3+(kb w.A+kb w.B)
 mL:w.mL<=a.mL/\a.mL+2*(kb a.A+kb a.B:Nat)<=w.mL+2*(kb w.A+kb w.B:Nat)
end Go.Proofs.YtcfpcblgmmeioaaGreat
namespace Go.bt
open Go
theorem XP(a:Nat)(c:a<18446744073709551616):a^^^9223372036854775808=(a+9223372036854775808)%18446744073709551616:=by
 have h:(9223372036854775808)=2^63:=Λ;have d:(18446744073709551616)=2^64:=Λ;rw[d]at c;rw[h,d];apply a5C;intro b;rw[a6H,Nat.testBit_two_pow,Nat.testBit_mod_two_pow,a7j];by_cases h1:b<63
 .rw[Nat.testBit_two_pow_add_gt h1];grind
 .by_cases k:b=63;grind
  .have o:¬b<64:=δ;have p:a.testBit b=false:=a5c (a4c c (a4J δ δ));grind
end Go.bt
namespace Go.Proofs.YtcfpcblgmmeioaaGreat
open Go Go.bt
theorem D9(a:Int):(cp a:Int)=(a+9223372036854775808)%18446744073709551616:=by grind[π,BitVec.toNat_ofInt,cp,BitVec.toNat_xor,XP]
def XQ(a:Int):IntKind.u64.wrap (IntKind.u64.wrap a+9223372036854775808)=(cp a:Int):=by rw[D9,rj,rj];omega
variable{b1:Int}
theorem Da(a: -9223372036854775808<=b1)(b:b1<9223372036854775808):(cp b1:Int)=b1+9223372036854775808:=by rw[D9];omega
variable{b0:Type}
theorem XR{a b:List b0}{d:b0}(h:α a=α b)(k:∀c<α a,a.getD c d=b.getD c d):a=b:=
 a6y h λc o p=>by grind
theorem s4(a c:Ρ)(o p:Own)(h:U)(D:α a<=1000000000000):
  AC γ 61 [.J (ab a) o,.J (ab c) p] h λr x=>x=h/\r=.v (.bool (decide (a=c))):=by
 have E:=bK (n:=a);have F:=bK (n:=c);have G:=@er a;have L:=@er c;refine aM hm Ki ?_;refine aH (λy=>?_) λy=>?_
 .exact aX (by grind)
 refine hj [0,1] (λb:Nat=>[(5,.v (.int .i64 b))]) (λb=>b<=α a/\∀d<b,a.getD d 0=c.getD d 0) (λb=>α a - b) 0 ⟨δ,λd z=>by omega⟩ aV ?_;rintro b⟨P,k⟩S;refine aa ?_;refine aH (λC=>?_) λC=>?_;rotate_left
 .exact aX (by simp[XR δ (λd z=>k d δ)])
 refine aH (λc2=>?_) λc2=>?_
 .exact aX (by grind)
 .exact⟨b+1,⟨δ,upto k c2⟩,rfl,δ⟩
variable{g A c0:Χ}{e i v M b9 h9:Nat}
theorem aC.at{b:b0->R->Prop}{a:List b0}(d:b0)(h:aC b a g)(k:e<α a):∃c,g[e]?=β c/\b (a.getD e d) c:=h.get (by simp_all)
def hr(a:Bool):UInt8:=if a=η then 1 else 0
def s5(a:Ρ):Τ:=(a1.cg (a.map cp) 64).map hr
theorem mM(a:Ρ)(b:Nat):(a1.cg (a.map cp) b).length=α a*b:=by rw[a1.Cv,a3k]
theorem XS(c:Ρ)(P:Own)(o:U)(n:α c<=1000):
  AC γ 321 [.J (ab c) P] o λS k=>∃C,bj o k 1 ((s5 c).map ao) C/\S=.J ((s5 c).map ao) C:=by
 have q:=bK (n:=c);have D:=@er c;have T:(s5 c).length=α c*64:=by rw[s5,a3k,mM]
 refine aM hm QM ?_;refine cQ [0] (λa:Nat×Τ×Own=>[(3,.J (a.2.1.map ao) a.2.2),(4,.v (.int .i64 ((a.1) - 1)))]) (λa k=>a.1<=64/\a.2.1++(a1.cg (c.map cp) a.1).map hr=s5 c/\bj o k 1 (a.2.1.map ao) a.2.2) (λa=>a.1) (64,[],.nil) ⟨⟨Λ,rfl,bj.nil θ⟩,aV⟩ ?_;rintro⟨x,E,V⟩ s ⟨y,p,h⟩ W
 dsimp only at y p h|-
 refine aa ?_;refine aH (λF=>?_) λF=>?_
 .obtain⟨b,rfl⟩:∃b,x=b+1:=⟨x - 1,δ⟩;have e:=congrArg α p;rw[a2V,T]at e;rw[a1.cg,a3V,<-a3o]at p;have f:((b+1:Nat)) - 1=(b:Int):=δ;have t:IntKind.u64.wrap (b)=(b):=wrap_u64 δ δ;rw[f]at F|-;refine cQ [0,4] (λa:Nat×Τ×Own=>[(3,.J (a.2.1.map ao) a.2.2),(5,.v (.int .i64 (a.1)))]) (λa k=>a.1<=α c/\E++((c.take a.1).map λg=>hr ((cp g).testBit b))=a.2.1/\bj o k 1 (a.2.1.map ao) a.2.2) (λa=>α c - a.1) (0,E,V) ⟨⟨ρ,ρ,h⟩,aV⟩ ?_;clear h;rintro⟨r,G,i⟩ u ⟨j,z,h⟩ W
  dsimp only at j z h|-
  have v:α G<=65000:=by grind
  refine aa ?_;refine aH (λl=>?_) λl=>?_
  .have w:=iy (a:=c) (b:=0) (e:=r) δ;have A:=D (b:=r) δ;clear D;generalize c.getD r 0=d at*;have B:br .shr (.int .u64 (cp d)) (.int .u64 (b))=β (.int .u64 ((cp d>>>b))):=by rw[rk _ _ _ δ δ];simp
   have H:br .rem (.int .u64 ((cp d>>>b))) (.int .u64 2)=β (.int .u64 (((cp d>>>b)%2:Nat))):=by simp only[br,fE,iO,a3R,if_false,if_true];rfl
   have I:IntKind.u8.wrap (((cp d>>>b)%2:Nat))=((hr ((cp d).testBit b)).toNat):=by
    rw[wrap_u8 δ δ];have:(cp d).testBit b=decide ((cp d>>>b)%2=1):=by simp
    rw[this,hr];rcases Nat.mod_two_eq_zero_or_one (cp d>>>b)with L|L<;>simp[L]
   have K:=XQ d;refine VK h λM m N y _=>?_;exact⟨(r+1,_,m),⟨by simp only;omega,by grind,y⟩,⟨rfl,rfl⟩,by simp only;omega⟩
  .rw[a2U δ]at z;refine⟨(b,G,i),⟨by simp only;omega,by simp only[<-z,<-p,a1.fk,a4N];rfl,h⟩,⟨rfl,rfl⟩,ρ⟩
 .obtain rfl:x=0:=δ;grind[a1.cg,θ]
def XT(b:Nat)(c:List Bool)(a:Nat)(d:a<b):a1.hQ (b - a) (c.drop (8*a))=ς (a1.val ((c.drop (8*a)).take 8))::a1.hQ (b -(a+1)) (c.drop (8*(a+1))):=by rw[show b - a=(b -(a+1))+1 by omega,a1.hQ,a3G,show 8*(a+1)=8*a+8 by omega]
theorem xd:∀(b:List Bool)(a:Bool),a1.val (b++[a])=2*a1.val b+(if a=η then 1 else 0)
 |[],a=>by simp[a1.val]
 |c::b,a=>by
  simp only[a4l,a1.val,a2V,a3e,a3a,xd b a,a7k];split<;>omega
theorem XU(b:List Bool)(h:Nat)(l:α b=8*h)(D:Own)(G:U)(O:h<=100000):
  AC γ 320 [.J ((b.map hr).map ao) D] G λm z=>∃W,bj G z 1 ((a1.hQ h b).map ao) W/\m=.J ((a1.hQ h b).map ao) W:=by
 refine aZ hm QK ρ ?_;have e:((b.map hr).map ao).length=8*h:=by simp[l]
 refine bJ ?_;refine cz (λd z=>∃(a:Nat)(x:Τ)(C:Own),a<=h/\x++a1.hQ (h - a) (b.drop (8*a))=a1.hQ h b/\α x=a/\bj G z 1 (x.map ao) C/\d 0=.J ((b.map hr).map ao) D/\d 3=.J (x.map ao) C/\d 4=.v (.int .i64 ((8*a:Nat))))
  (λd _=>match d 4 with|.v (.int _ L)=>8*h - L.toNat|_=>0) ⟨0,[],.nil,δ,rfl,rfl,bj.nil θ,?_⟩ ?_
 .exact jN
 rintro d n⟨a,x,C,Q,P,X,f,p,r,o⟩;by_cases g:((8*a:Nat))+7<((8*h:Nat):Int)
 .rw[XT h b a δ]at P;refine ai (ba @p @r @o @e @g) ?_;refine cz (λd z=>∃c:Nat,c<=8/\z=n/\d 0=.J ((b.map hr).map ao) D/\d 3=.J (x.map ao) C/\d 4=.v (.int .i64 ((8*a:Nat)))/\d 5=.v (.int .u8 (a1.val ((b.drop (8*a)).take c)))/\d 6=.v (.int .i64 c))
   (λd _=>match d 6 with|.v (.int _ L)=>8 - L.toNat|_=>0) ⟨0,δ,rfl,?_⟩ ?_
  .refine ai (aE @p @r @o) ?_;rfl
  have q:=o;clear p r o;rintro Y s⟨c,Z,rfl,p,r,o,E,F⟩;by_cases i:(c:Int)<8
  .have S:b[8*a+c]?=β b[8*a+c]:=Ν δ;have j:(b.drop (8*a)).take (c+1)=(b.drop (8*a)).take c++[b[8*a+c]]:=by rw[a3W,a5M,S];rfl
   generalize b[8*a+c]'δ=k at S j;have T:=a1.mI ((b.drop (8*a)).take (c+1));have V:a1.val ((b.drop (8*a)).take (c+1))<256:=a4c T (by
    have:((b.drop (8*a)).take (c+1)).length<=8:=by rw[a2X];omega
    exact a4J δ this)
   rw[j,xd]at V;have t:cJ 1 (.J ((b.map hr).map ao) D) (.v (.int .i64 (((8*a:Nat))+(c))))=β (.bR [.v (.int .u8 ((hr k).toNat))]):=by rw[show((8*a:Nat))+(c)=((8*a+c:Nat):Int) by omega,fJ δ];rw[a3p,a3u,a3u,S];rfl
   have u:cV ι 1 s (.bR [.v (.int .u8 ((hr k).toNat))])=β (.v (.int .u8 ((hr k).toNat))):=rfl;have k0:((hr k).toNat:Int)=if k=η then 1 else 0:=by cases k<;>rfl
   generalize k2:a1.val ((b.drop (8*a)).take c)=y at*;have k3:(if k=η then 1 else 0)<=1:=by split<;>omega
   have v:IntKind.u8.wrap (2*(y))=((2*y:Nat)):=by rw[wrap_u8 δ δ];omega
   have w:IntKind.u8.wrap (((2*y:Nat))+((hr k).toNat))=((2*y+(if k=η then 1 else 0):Nat)):=by grind[wrap_u8]
   have A:br .mul (.int .u8 2) (.int .u8 (y))=β (.int .u8 ((2*y:Nat))):=by rw[<-v];rfl
   have B:br .add (.int .u8 ((2*y:Nat))) (.int .u8 ((hr k).toNat))=β (.int .u8 ((2*y+(if k=η then 1 else 0):Nat))):=by rw[<-w];rfl
   refine ai (ck @p @r @o @E @F @i @t @u @A @B) ?_;grind[xd]
  .obtain rfl:c=8:=δ;refine ai (bx @p @r @o @E @F @i) ?_;refine eb θ (by simp[bc,τ]) λk4 k5 H=>?_;refine ai (ba @p @r @o @E @F) ?_;refine ei (f.mono H.sub) (by intro k6 I;obtain⟨k7,_,rfl⟩:=a3m.1 I;rfl) (by simp[bc,τ]) (by grind) (by grind) λk8 k9 K=>?_;have T:=a1.mI ((b.drop (8*a)).take 8);have V:a1.val ((b.drop (8*a)).take 8)<256:=a4c T (by
    grind)
   have M:R.v (.int .u8 (a1.val ((b.drop (8*a)).take 8)))=ao (ς (a1.val ((b.drop (8*a)).take 8))):=by show _=R.v (.int .u8 ((ς (a1.val ((b.drop (8*a)).take 8))).toNat));rw[a4n,a4A V]
   have N:x.map ao++[R.v (.int .u8 (a1.val ((b.drop (8*a)).take 8)))]=(x++[ς (a1.val ((b.drop (8*a)).take 8))]).map ao:=by rw[M,a3V];rfl
   rw[N]at K|-;refine ai (bx @p @r @o @E @F @q) ?_;grind
 .obtain rfl:a=h:=δ;rw[a5d,a1.hQ,a3Y]at P;subst P;refine ai (ba @p @r @o @e @g) ?_;exact⟨_,θ,C,f,rfl⟩
def codeF(a:Ρ):Τ:=a1.hQ (8*α a) (a1.cg (a.map cp) 64)
def tR(a:Ρ):(codeF a).length=8*α a:=a1.CA _ _
def Db(a:Ρ)(c:Own)(b:U)(d:α a<=1000):
  AC γ 286 [.J (ab a) c] b λh k=>b.sub k/\∃o,h=.J ((codeF a).map ao) o:=by
 refine aZ hm Q4 ρ ?_;refine bJ ?_;refine ak (XS a c b d) ?_;rintro _ p⟨r,x,rfl⟩;refine bJ ?_;refine ak (XU (a1.cg (a.map cp) 64) (8*α a) (by rw[mM];omega) r p δ) ?_;rintro _ C⟨y,z,rfl⟩;refine bJ ?_;exact⟨_,θ,ο x.sub z.sub,y,rfl⟩
def kc(a b:Ρ):Bool:=if α a=α b then Op.bytesLess (codeF a) (codeF b)else decide (α a<α b)
def XV(a b:Τ):ir .lss (bo a) (bo b)=β (.v (.bool (Op.bytesLess a b))):=by show(br .lss (.string ⟨a.toArray⟩) (.string ⟨b.toArray⟩)).map R.v= _;simp only[br,py,toList_mk,a3P]
theorem XW(a b:Ρ)(d h:Own)(k:U):
  AC γ 285 [.J ((codeF a).map ao) d,.J ((codeF b).map ao) h] k λy z=>z=k/\y=.v (.bool (kc a b)):=by
 refine aZ hm Q2 ρ ?_;have o:((codeF a).map ao).length=8*α a:=by rw[a3k,tR]
 have p:((codeF b).map ao).length=8*α b:=by rw[a3k,tR]
 have r:my (.J ((codeF a).map ao) d)=β (bo (codeF a)):=ru;have x:my (.J ((codeF b).map ao) h)=β (bo (codeF b)):=ru;unfold kc;by_cases C:α a=α b
 .have c:((8*α a:Nat))=((8*α b:Nat):Int):=δ;refine ai (bx @o @p @c @r @x @XV) ?_;exact⟨_,θ,rfl,by rw[if_pos C]⟩
 .have c:¬((8*α a:Nat))=((8*α b:Nat):Int):=δ;refine ai (ba @o @p @c @r @x) ?_;refine⟨_,θ,rfl,?_⟩;simp_all
theorem Dc(a b:Ρ)(d h:Own)(c:U)(o:α a<=1000)(p:α b<=1000):
  AC γ 236 [.J (ab a) d,.J (ab b) h] c λr x=>c.sub x/\r=.v (.bool (kc a b)):=by
 refine aZ hm OQ ρ ?_;refine bJ ?_;refine ak (Db a d c o) ?_;rintro _ y⟨D,z,rfl⟩;refine bJ ?_;refine ak (Db b h y p) ?_;rintro _ k⟨E,C,rfl⟩;refine bJ ?_;refine ak (XW a b z C k) ?_;rintro _ k⟨rfl,rfl⟩;refine bJ ?_;grind
theorem Dd:∀ {a b:Τ},α a=α b->Op.bytesLess a b=a1.rT a b
 |[],[],_=>rfl
 |h::a,k::b,c=>by
  have d:α a=α b:=by simpa using c
  simp only[Op.bytesLess,a1.rT,Dd d];grind
theorem De(d h:Ρ):∀(b:List (Int×Int))(a:(Int×Int)×Nat),(b.map λc=>(cp c.1,cp c.2)).foldl a1.pick ((cp a.1.1,cp a.1.2),a.2)=((cp (b.foldl gi a).1.1,cp (b.foldl gi a).1.2),(b.foldl gi a).2)
 |[],a=>rfl
 |c::b,a=>by
  simp only[a3q,a3I];rw[<-De d h b];grind[a1.pick,gi]
structure bF(d:Nat)(p:Ρ):Prop where
 len:α p=d
 kd:dc p
def Df(a b:Ρ):(a.map cp).zip (b.map cp)=(a.zip b).map λc=>(cp c.1,cp c.2):=by rw[List.zip_map];rfl
theorem XX{b:(Int×Int)×Nat}:∀(a:List (Int×Int)),(a.foldl gi b).1=b.1\/(a.foldl gi b).1∈a:=by
 intro a
 induction a generalizing b with
 |nil=>simp
 |cons d a ih=>
  rw[a3I];rcases ih (b:=gi b d)with c|c
  .rw[c];unfold gi;split
   .simp
   .simp
  .simp_all
variable{n b6:Ρ}
theorem qj(z:1<=e)(C:e<=8)(h:bF e n)(k:bF e b6):bq n b6=a1.lexB (a1.cg (n.map cp) 64) (a1.cg (b6.map cp) 64):=by
 unfold bq;have D:=h.len;have E:=k.len;rw[if_pos ⟨δ,δ,δ⟩];have F:n.zip b6≠[]:=by intro c;have:=congrArg α c;simp_all
 obtain⟨a,d,b⟩:∃a d,n.zip b6=a::d:=by
  cases G:n.zip b6 with
  |nil=>trivial
  |cons a d=>simp
 have y:(n.zip b6).headD (0,0)=a:=by rw[b];rfl
 rw[y];have o:=a1.Cz 64 (n.map cp) (b6.map cp) Κ (λa b=>by
  obtain⟨L,P⟩:=a;have hm:=List.of_mem_zip b;obtain⟨p,_,rfl⟩:=a3m.1 hm.1;obtain⟨r,_,rfl⟩:=a3m.1 hm.2;exact a5u (nL _) (nL _)) (cp a.1,cp a.2) (by rw[Df,b];simp)
 rw[Df,De n b6 (n.zip b6) (a,0)]at o;rw[<-Bool.coe_iff_coe,decide_eq_true_eq];rw[<-o];simp only;have x:((n.zip b6).foldl gi (a,0)).1∈n.zip b6:=by grind[XX]
 generalize ((n.zip b6).foldl gi (a,0)).1=c at x;obtain⟨p,r⟩:=c;have hm:=List.of_mem_zip x;have S:=h.kd p hm.1;have T:=k.kd r hm.2;grind[Da]
theorem Dg(c:1<=e)(d:e<=8)(a:bF e n)(b:bF e b6):kc n b6=bq n b6:=by have h:=a.len;have k:=b.len;rw[qj c d a b];unfold kc;rw[if_pos δ,Dd (by rw[tR,tR];omega)];grind[codeF,a1.CB,mM]
def Dh:∀(c:Ρ),∀b∈c.zip c,b.1=b.2
 |[],b,a=>by cases a
 |d::c,b,a=>by
  rw[List.zip_cons_cons]at a;rcases a3n.1 a with rfl|a
  .rfl
  .exact Dh c b a
theorem p0(a:Ρ):bq a a=false:=by
 unfold bq;split
 .have:∀(b:List (Int×Int))(c),(∀d∈b,d.1=d.2)->c.1.1=c.1.2->(b.foldl gi c).1.1=(b.foldl gi c).1.2:=by
   intro b
   induction b with
   |nil=>intro c _ h;exact h
   |cons d b ih=>grind[gi]
  have k:=Dh a;have o:((a.zip a).headD (0,0)).1=((a.zip a).headD (0,0)).2:=by
   cases h:a.zip a with
   |nil=>rfl
   |cons d b=>simp_all
  grind
 .rfl
theorem fB(d:1<=e)(h:e<=8):a1.Ord bq (bF e) where
 jd:=p0
 trans C D L b a p h1 k:=by rw[qj d h b a]at h1;rw[qj d h a p]at k;rw[qj d h b p];exact a1.Xi (by rw[mM,mM,b.len,a.len]) (by rw[mM,mM,a.len,p.len]) h1 k
 total C D b a h1 k:=by
  rw[qj d h b a]at h1;rw[qj d h a b]at k;have:=a1.Xj (by rw[mM,mM,b.len,a.len]) h1 k;have F:=a1.Xg (by simp[b.len,a.len]) 64 this (λr x=>by obtain⟨o,_,rfl⟩:=a3m.1 x;exact nL o) (λr x=>by obtain⟨o,_,rfl⟩:=a3m.1 x;exact nL o);refine a6r λy=>?_;have c:=congrArg (λG=>G[y]?) F;simp only[a3u]at c;cases E:C[y]? with
  |none=>grind
  |some r=>rw[E]at c;cases z:D[y]? with
   |none=>rw[z]at c;cases c
   |some o=>rw[z]at c;simp only[a3P,a3c]at c;have P:=b.kd r (a3d E);have S:=a.kd o (a3d z);grind[Da]
end Go.Proofs.YtcfpcblgmmeioaaGreat
