import Derived.Test.YtgchlmdfldnhnaaGreatMD
import Derived.Test.YtgchlmdfldnhnaaGreatME
import Derived.Test.YtgchlmdfldnhnaaGreatMC
import Derived.Test.YtgchlmdfldnhnaaGreatMB
import Derived.Shelf.SlSortCmp.NoneTotal
import Derived.Shelf.SlLaysF
import Derived.Test.YtgchlmdfldnhnaaGreatProg
set_option linter.all false
open Option renaming some->γ,none->η
open Go.Proofs.Tryz renaming prog->δ
open Bool renaming true->ζ,false->κ
open List renaming replicate->θ,range->ψ,zipWith->Β,length_append->Ζ,take_of_length_le->Λ,length->β
open Go.bw.U renaming a1->ι,ad->μ,ae->ν,ah->ξ,al->ο,ao->π,set_set->υ,aO->ω,bH->Ν
open Go.Proofs.YtgchlmdfldnhnaaGreat.isRow renaming cells->ρ
open BitVec renaming ofInt->ς
open Go.bw.R renaming cells->τ
open Prod renaming fst->Α
open Go.Proofs.YtgchlmdfldnhnaaGreat.Ext renaming of->Γ
namespace Go.a6
variable{lt:Row->Row->Bool}{ok:Row->Prop}
variable{e i t I b3 e5:Nat}{K:Type}
def rF{a:List K}{b:K}(c:a[e]?=γ b):a=a.take e++b::a.drop (e+1):=by obtain⟨d,rfl⟩:=a7B.1 c;simp
variable{h9:Row}
def vu(x:Ord lt ok)(y:ok h9){a:List (T e)}(z:a≠[])(h:∀b∈a,1<=len b/\lW e b)(k:jI lt (a.flatMap (bb e)))(o:∀c∈a.flatMap (bb e),ok c):
  ∃b,a[da lt h9 (a.map (cW e))]?=γ b/\(∀c∈(a.take (da lt h9 (a.map (cW e)))).flatMap (bb e),lt c h9=ζ)/\(∀c∈(a.drop (da lt h9 (a.map (cW e))+1)).flatMap (bb e),lt h9 c=ζ):=by
 have C:a.map (cW e)=(a.map (bb e)).map (·.headD []):=by rw[a9v];rfl
 rw[a9D]at k o;obtain⟨p,d,f⟩:=F2 x y (a.map (bb e)) (by simpa using z) (λE D=>by
  obtain⟨b,r,rfl⟩:=a7M.1 D;exact yJ (h b r).1 (h b r).2) k o
 rw[<-C]at p d f;rw[<-aaG,<-a9D]at d;rw[<-aaF,<-a9D]at f;exact⟨_,Τ (by simpa using p),d,f⟩
theorem rG(z:Ord lt ok)(L:ok h9):∀(a:Nat)(b:T a),kn a b->jI lt (bb a b)->(∀d∈bb a b,ok d)->h9∉bb a b->
  (fo lt h9 a b).flatMap (bb a)=eb lt (bb a b) h9/\(∀c∈fo lt h9 a b,WF a c)/\1<=(fo lt h9 a b).length/\(fo lt h9 a b).length<=2:=by
 intro a
 induction a with
 |zero=>intro b C o k r;obtain⟨W,rfl⟩:=iU b;obtain⟨x,D,_,_⟩:=C;rw[jG]at x D;obtain⟨E,F,c,_⟩:=F0 (j5:=eb lt W h9) (by rw[oY];omega) (by rw[oY];omega);exact⟨EY _,E,by simpa[fo,rz] using F,by simpa[fo,rz] using c⟩
 |succ a ih=>
  intro b C o k r;obtain⟨f,rfl⟩:=hf b;obtain⟨x,D,e,G⟩:=C;rw[eh]at x D G;have G:=G ε;rw[gd]at o k r|-;have g:∀c∈f,WF a c:=e;obtain⟨c,p,P,S⟩:=vu z L (by intro i;subst i;simp at x) (λc p=>by grind[hB]) o k;simp only[fo,fE];generalize da lt h9 (f.map (cW a))=y at p P S;rw[p];have s:=rF p;have j:f.flatMap (bb a)=(f.take y).flatMap (bb a)++(bb a c++(f.drop (y+1)).flatMap (bb a)):=by grind
  rw[j]at o k r|-;have l:=(a8t.1 (a8t.1 o).2.1).1;obtain⟨m,t,u,v⟩:=ih c (kn.of (g c (a7C p))) l (λd h=>k d (by simp[h])) (λh=>r (by simp[h]));have V:(f.take y++fo lt h9 a c++f.drop (y+1)).length=β f - 1+(fo lt h9 a c).length:=by grind
  obtain⟨E,F,n,_⟩:=F1 (by rw[V];omega) (by rw[V];omega) (λd h=>by
   grind)
  refine⟨?_,E,by simpa using F,by simpa using n⟩;simp only[];rw[EZ,a8A,a8A,m,yK P,a0J,a7P];intro d h;cases q:lt d h9 with
  |false=>rfl
  |true=>have:=z.trans d h9 d (k d (by simp[h])) L (k d (by simp[h])) q (S d h);rw[z.jH]at this;cases this
theorem FM{a b:T e}(h:lW e a)(k:lW e b)(d:2<=len a+len b)(f:len a+len b<=5):
  (lg a b).flatMap (bb e)=bb e a++bb e b/\(∀c∈lg a b,WF e c)/\1<=(lg a b).length/\(lg a b).length<=2:=by
 cases e with
 |zero=>obtain⟨a,rfl⟩:=iU a;obtain⟨b,rfl⟩:=iU b;grind[jG,F0,lg,rz,km,EY]
 |succ e=>obtain⟨a,rfl⟩:=hf a;obtain⟨b,rfl⟩:=hf b;rw[eh,eh]at d f;obtain⟨p,r,x,_⟩:=F1 (a:=a++b) (by simpa using d) (by simpa using f) (λc o=>(Ψ.1 o).elim (h c) (k c));grind[lg,fE,gd,EZ]
variable{j5:List Row}
theorem filter_none(b:h9∉j5):j5.filter (λa=>decide (a≠h9))=j5:=by rw[aab];grind
theorem a1A(b:jI lt j5)(d:∀h9,lt h9 h9=κ):β j5 - 1<=(j5.filter λc=>decide (c≠h9)).length:=by
 induction j5 with
 |nil=>simp
 |cons a j5 ih=>
  have f:=a7W.1 b;by_cases bQ:a=h9
  .subst bQ;have:a∉j5:=λh=>by grind
   rw[a9k σ,filter_none this];simp
  simp_all
theorem qf(D:Ord lt ok)(v:ok h9):∀(a:Nat)(d:T a),kn a d->jI lt (bb a d)->(∀f∈bb a d,ok f)->
  bb a (cQ lt h9 a d)=(bb a d).filter (λf=>decide (f≠h9))/\lW a (cQ lt h9 a d)/\len d - 1<=len (cQ lt h9 a d)/\len (cQ lt h9 a d)<=4:=by
 intro a
 induction a with
 |zero=>intro d L k p;obtain⟨Q,rfl⟩:=iU d;obtain⟨E,F,_,_⟩:=L;rw[jG]at E F;simp only[cQ,rz,km,jG]at k|-;exact⟨trivial,trivial,a1A k D.jH,by grind⟩
 |succ a ih=>
  intro d L k p;obtain⟨b,rfl⟩:=hf d;obtain⟨E,F,w,P⟩:=L;rw[eh]at E F P;have P:=P ε;rw[gd]at k p|-;have S:∀o∈b,WF a o:=w;obtain⟨o,r,i,j⟩:=vu D v (by intro x;subst x;simp at E) (λo r=>by grind[hB]) k p;simp only[cQ,fE,eh];generalize da lt h9 (b.map (cW a))=c at r i j;rw[r];simp only[eh,gd];have X:=rF r;obtain⟨A,_⟩:=a7B.1 r;have B:b.flatMap (bb a)=(b.take c).flatMap (bb a)++(bb a o++(b.drop (c+1)).flatMap (bb a)):=by grind
  have Y:=k;have Z:=p;rw[B]at k p;have l:=S o (a7C r);have k2:=hB.1 l;obtain⟨H,G,I,m⟩:=ih o (kn.of l) (a8t.1 (a8t.1 k).2.1).1 (λf y=>p f (by simp[y]));generalize cQ lt h9 a o=f at H G I m;have k3:=filter_none λy=>by
   have:=i h9 y;rw[D.jH]at this;cases this
  have k4:=filter_none λy=>by
   have:=j h9 y;rw[D.jH]at this;cases this
  have n:(b.flatMap (bb a)).filter (λf=>decide (f≠h9))=(b.take c).flatMap (bb a)++(bb a f++(b.drop (c+1)).flatMap (bb a)):=by grind
  rw[n];unfold lX;by_cases V:2<=len f
  .rw[if_pos V];have x:b.set c f=b.take c++f::b.drop (c+1):=by rw[a8N,if_pos A]
   refine⟨by grind,λq z=>?_,σ,by simpa using F⟩;rw[fE,x]at z;simp only[Ψ,a7S]at z;rcases z with z|rfl|z;grind
   .exact hB.2 ⟨V,m,G⟩
   grind
  .rw[if_neg V];have k5:len f=1:=ε;by_cases W:c=0
   .subst W;have h:b[1]?=γ b[1]:=Τ ε;simp only[if_true];rw[h];simp only[Nat.zero_sub,a9o,a7T,a7X,aas]at n|-;generalize b[1]=C at h;have e:=S C (a7C h);have g:=hB.1 e;obtain⟨s,K,q,x⟩:=FM G g.2.2 ε ε;have t:b.drop 1=C::b.drop 2:=by obtain⟨M,rfl⟩:=a7B.1 h;simp
    refine⟨by grind,λN u=>?_,Ι,Ι⟩;grind[fE,List.mem_of_mem_drop]
   .rw[if_neg W];have h:b[c - 1]?=γ b[c - 1]:=Τ ε;rw[h];simp only[if_neg W];generalize b[c - 1]=C at h;have e:=S C (a7C h);have g:=hB.1 e;obtain⟨s,K,q,x⟩:=FM g.2.2 G ε ε;have t:b.take c=b.take (c - 1)++[C]:=by
     obtain⟨M,rfl⟩:=a7B.1 h
     conv=>lhs;rw[show c=c - 1+1 by omega]
     simp
    have O:c - 1+2=c+1:=ε;rw[O];refine⟨by rw[a8A,a8A,s,t,a8A];simp,λN u=>?_,Ι,Ι⟩;simp only[fE,Ψ]at u;grind
end Go.a6
set_option maxRecDepth 100000
namespace Go.Proofs.YtgchlmdfldnhnaaGreat
open Go Go.bw
abbrev eT:=Option ((a:Nat)×a6.T a)
def gC(c:U)(a:eT)(b:R):Prop:=
 match a with
 |none=>b=.v (.pointer η)
 |some ⟨d,a⟩=>bD c d a b
def gC.fW{b c:U}(h:jx b c){a:eT}{d:R}(f:gC b a d):gC c a d:=by
 match a with
 |none=>exact f
 |some ⟨_,_⟩=>exact bD.fW h f
variable{e i t I b3 e5:Nat}
def qg:List (a6.T e)->eT
 |[]=>η
 |[a]=>γ ⟨e,a⟩
 |b=>γ ⟨e+1,a6.node b⟩
variable{K:Type}
def a1B{a:List K}(b:β a=1):∃c,a=[c]:=a9C.1 b
theorem a1C(c:List (a6.T e))(r:ύ)(D:Own)(o:U)(E:aw (bD o e) c r)(F:β c<=4):
  AC δ 77 [.J r D] o λG f=>o.sub f/\gC f (qg c) G:=by
 refine aM hm On ?_;refine ck [] (λd:ύ×Own=>[(0,.J d.1 d.2)]) (λd f=>o.sub f/\(aw (bD f e) c d.1\/2<=β c/\∃a,d.1=[a]/\bD f (e+1) (a6.node c) a)) (λd=>β d.1) (r,D) ⟨⟨ι,.inl E⟩,aK⟩ ?_;rintro⟨p,L⟩ x ⟨y,b⟩ g
 dsimp only at b|-
 refine aa ?_;refine ay (λh=>?_) λh=>?_
 .rcases b with b|⟨_,a,rfl,_⟩
  .have i:=b.len;refine cl (z7 x c p L x b ε ι) ?_;rintro _ j⟨P,l,S,rfl,z⟩;rw[a6.qb ε F]at z;obtain⟨a,rfl⟩:=a1B z.len;refine aa ?_;exact⟨([a],S),⟨π y P,.inr ⟨ε,a,rfl,z.1⟩⟩,rfl,Ι⟩
  .simp at h
 .have T:(p=[]/\c=[])\/∃a,p=[a]/\gC x (qg c) a:=by
   rcases b with b|⟨V,a,rfl,b⟩
   .match c,p,b,h with
    |[],[],_,_=>simp
    |[m],[a],b,_=>exact .inr ⟨a,rfl,b.1⟩
    |_:: _:: _,_:: _:: _,_,h=>simp at h;omega
   .match c,V with
    |_:: _:: _,_=>exact .inr ⟨a,rfl,b⟩
  clear b;rcases T with⟨rfl,rfl⟩|⟨a,rfl,k⟩
  .refine aa ?_;exact⟨_,ι,y,rfl⟩
  .have W:(∃C,a=.ptr C 0)\/a=.v (.pointer η):=by
    unfold gC at k;split at k
    .exact .inr k
    .obtain⟨C,_,_,n,_⟩:=k.ptr;simp_all
   rcases W with⟨C,rfl⟩|rfl
   all_goals refine aa ?_;exact⟨_,ι,y,k⟩
theorem z8:∀(b:Nat)(d:a6.T b)(S:R)(o:U),bD o b d S->(a6.bb b d).length<=100000->
  AC δ 73 [S] o λV E=>o.sub E/\∃f F,V=.J f F/\aw isRow (a6.bb b d) f:=by
 intro b
 induction b with
 |zero=>rintro d _ o⟨W,f,F,e,rfl,h,k⟩G;have L:=μ h;have g:=k.len;have w:(a6.rows d).length<=100000:=G;refine aM hm xE ?_;refine ti (iZ k) λz i C=>?_;have L:=rd C.sub h;refine fO [0] (λc:Nat=>[(3,.J f z),(4,.v (.int .i64 (c)))]) (λc=>c=0) (λ_=>0) 0 rfl aK ?_;rintro _ rfl j;refine aa ?_;exact⟨C.sub,f,z,rfl,k⟩
 |succ b ih=>
  rintro d _ o⟨W,A,F,e,rfl,h,k,B,l⟩G;obtain⟨p,rfl⟩:=a6.hf d;rw[a6.fE]at k l;rw[a6.gd]at G|-;have L:=μ h;have g:=k.len;refine aM hm xE ?_;refine ti DV λz i C=>?_;refine ck [0] (λa:Nat×ύ×Own=>[(3,.J a.2.1 a.2.2),(4,.v (.int .i64 (a.1)))]) (λa E=>a.1<=β p/\aw isRow ((p.take a.1).flatMap (a6.bb b)) a.2.1/\bk o E 1 a.2.1 a.2.2) (λa=>β p - a.1) (0,[],z) ⟨⟨σ,trivial,C⟩,aK⟩ ?_;rintro⟨c,f,m⟩ n ⟨x,r,y⟩ j
  dsimp only at x r y|-
  have L:=rd y.sub h;refine aa ?_;refine ay (λD=>?_) λD=>?_
  .have x:c<β p:=ε;obtain⟨H,aM,T⟩:=k.get (Τ x);have q:=a6.rF (Τ x);have s:=a8Z x;have t:=bD.mono y.sub T;obtain⟨I,_,_,rfl,_⟩:=T.ptr;generalize p[c]=D at*;have K:((p.take c).flatMap (a6.bb b)).length+(a6.bb b D).length<=100000:=by grind
   clear q;have M:=r.len;refine cl (ih D _ n t ε) ?_;rintro _ N⟨u,O,Q,rfl,P⟩;have X:=P.len;refine kS (y.mono u) (iZ r) (iZ P) λv Y h _=>?_;refine⟨(c+1,_,v),⟨by simp only;omega,?_,h⟩,⟨rfl,rfl⟩,by simp only;omega⟩;simp only[s,a8A,a7R,aas,a8u];exact r.append P
  .rw[a7x ε]at r;exact⟨y.sub,f,m,rfl,r⟩
def a1D(a:U):AC δ 73 [.v (.pointer η)] a λb c=>c=a/\b=.J [] .nil:=by refine aM hm xE ?_;trivial
def a1E(a:Nat)(b:a6.T a)(d:R)(c:U)(p:bD c a b d)(r:(a6.bb a b).length<=100000)(x:a6.bb a b≠[]):
  AC δ 202 [d] c λf y=>c.sub y/\∃h,f=.J (ab (a6.cW a b)) h:=by
 refine aM hm RH ?_;refine cl (z8 a b d c p r) ?_;rintro _ z⟨C,D,h,rfl,k⟩;unfold a6.cW;cases o:a6.bb a b with
 |nil=>exact absurd o x
 |cons E f=>rw[o]at k;obtain⟨F,aM,G,rfl⟩:=k.get (i:=0) rfl;refine aa ?_;simp
theorem za(b:List Ω)(h:ύ)(r k:Own)(c:Ω)(d:U)(o:aw isRow b h)(D:β b<=100000)(E:∀f∈b,β f<=1000):
  AC δ 72 [.J h r,.J (ab c) k] d λf x=>x=d/\f=.v (.bool (decide (c∈b))):=by
 have F:=o.len;refine aM hm Oe ?_;refine fO [0,1] (λa:Nat=>[(5,.v (.int .i64 (a)))]) (λa=>a<=β b/\∀p<a,b.getD p []≠c) (λa=>β b - a) 0 ⟨ε,λp G=>by omega⟩ aK ?_;rintro a⟨L,y⟩P;refine aa ?_;refine ay (λz=>?_) λz=>?_
 .obtain⟨_,S,C,rfl⟩:=o.at [] (e:=a) ε;refine mP (qe (b.getD a []) c C k d (by grind)) ?_;refine ay (λc2=>?_) λc2=>?_
  .exact aN (by grind)
  .exact⟨a+1,⟨ε,upto y c2⟩,rfl,ε⟩
 grind[aN,List.getElem_of_mem,List.getD]
def hh(a:Ω->Ω->Bool)(b:Ω):Nat->Nat->List Ω->Nat
 |_,at_,[]=>at_
 |c,at_,d::bF=>hh a b (c+1) (if a b d=ζ then at_ else c) bF
def FN{d:Ω->Ω->Bool}{f:Ω}:∀(b:List Ω)(h c:Nat),(∀a∈b,d f a=ζ)->hh d f h c b=c
 |[],_,_,_=>rfl
 |a::b,h,c,k=>by
  rw[hh,if_pos (k a σ)];exact FN b _ _ λa o=>k a (by simp[o])
theorem FO{a:Ω->Ω->Bool}{b:Ω}:∀(c:List Ω)(h:Ω)(d:Nat),c.Pairwise (λk o=>a b k=ζ->a b o=ζ)->hh a b (d+1) d c=d+a6.da a b (h::c)
 |[],h,d,_=>rfl
 |f::c,h,d,p=>by
  have r:=a7W.1 p;rw[hh];have x:a6.da a b (h::f::c)=if a b f=ζ then 0 else a6.da a b (f::c)+1:=rfl;rw[x];by_cases hk:a b f=ζ;simp_all [FN]
  .rw[if_neg hk,if_neg hk,FO c f (d+1) r.2];omega
variable{Q:List Ω}{n b5:Ω}
theorem a1F{a:Ω->Ω->Bool}(d:Q.Pairwise (λb c=>a n b=ζ->a n c=ζ)):hh a n 0 0 Q=a6.da a n Q:=by
 cases Q with
 |nil=>rfl
 |cons f Q=>grind[hh,FO,List.pairwise_cons]
def FP{h k:Ω->Ω->Bool}{c:Ω}:∀(b:List Ω)(d f:Nat),(∀a∈b,h c a=k c a)->hh h c d f b=hh k c d f b
 |[],_,_,_=>rfl
 |a::b,d,f,o=>by
  rw[hh,hh,o a σ];exact FP b _ _ λa p=>o a (by simp[p])
def FQ{d:Ω->Ω->Bool}{f h:Ω}:∀(a:List Ω)(b c:Nat),hh d f b c (a++[h])=if d f h=ζ then hh d f b c a else b+β a
 |[],b,c=>by rfl
 |k::a,b,c=>by
  rw[a8K,hh,FQ a,hh,a7I];split<;>omega
theorem FR(b:List (a6.T e))(x:R)(c:Ω)(y:Own)(f:U)(D:bD f (e+1) (a6.node b) x)(E:β c<=1000)(F:∀d∈b,(a6.bb e d).length<=100000/\a6.bb e d≠[]/\(a6.cW e d).length<=1000):
  AC δ 124 [x,.J (ab c) y] f λG k=>f.sub k/\G=.v (.int .i64 (hh ll c 0 0 (b.map (a6.cW e)):Int)):=by
 obtain⟨j,l,m,n,rfl,L,o,_,P⟩:=D;rw[a6.fE]at o P;have q:=o.len;have s:hh ll c 0 0 []=0:=rfl;refine aM hm PJ ?_;refine ck [0,1] (λa:Nat=>[(5,.v (.int .i64 (hh ll c 0 0 ((b.map (a6.cW e)).take a)))),(6,.v (.int .i64 (a)))]) (λa k=>a<=β b/\f.sub k) (λa=>β b - a) 0 ⟨⟨ε,ι⟩,aK⟩ ?_;rintro a S⟨h,p⟩t;have u:=rd p L;refine aa ?_;refine ay (λd=>?_) λd=>?_
 .have h:a<β b:=ε;have T:=FQ (d:=ll) (f:=c) (h:=a6.cW e b[a]) ((b.map (a6.cW e)).take a) 0 0;rw[a7z,a7Q,a8P ε,show(b.map (a6.cW e)).take a++[a6.cW e b[a]]=(b.map (a6.cW e)).take (a+1) by simp[a8Z,h]]at T;have r:=F _ (a8b h);obtain⟨v,aM,z⟩:=o.get (Τ h);obtain⟨w,_,_,rfl,_⟩:=z.ptr;generalize b[a]=C at*;refine cl (a1E e C _ S (bD.mono p z) r.1 r.2.1) ?_;rintro _ V⟨W,g,rfl⟩;refine cl (Fy c (a6.cW e C) y g V E r.2.2) ?_;rintro _ A⟨i,rfl⟩;have B:=π p (π W i);refine aa ?_;refine ay (λc2=>?_) λc2=>?_;grind;grind
 .rw[a7x (by rw[a7Q];omega)]
theorem a1G{b c:Ω->Ω->Bool}(d:∀a∈Q,b a n=c a n):a6.eb b Q n=a6.eb c Q n:=by
 unfold a6.eb;have p:∀Q:List Ω,(∀a∈Q,b a n=c a n)->Q.takeWhile (λa=>b a n)=Q.takeWhile (λa=>c a n)/\Q.dropWhile (λa=>b a n)=Q.dropWhile (λa=>c a n):=by
  intro Q
  induction Q with
  |nil=>intro _;trivial
  |cons f Q ih=>intro d;obtain⟨h,k⟩:=ih λa o=>d a (by simp[o]);simp only[a8O,a9R,d f σ];rw[h,k];trivial
 simp_all
structure GT(d h:Nat)(t:a6.T h):Prop where
 wf:a6.kn h t
 dC:a6.jI bE (a6.bb h t)
 ok:∀x∈a6.bb h t,bJ d x
 ev:(a6.bb h t).length<=1000
def zb{a:a6.T e}(b:a6.bb e a≠[]):a6.cW e a∈a6.bb e a:=by
 unfold a6.cW;cases c:a6.bb e a with
 |nil=>trivial
 |cons d f=>simp
structure a1H(d:Nat){h:Nat}(bF:List (a6.T h))(p:Ω):Prop where
 ne:bF≠[]
 two:2<=β bF/\β bF<=4
 hE:∀c∈bF,GT d h c/\a6.WF h c/\a6.bb h c≠[]/\bJ d (a6.cW h c)
 FT:hh ll p 0 0 (bF.map (a6.cW h))=a6.da bE p (bF.map (a6.cW h))
 at_:∃c,bF[a6.da bE p (bF.map (a6.cW h))]?=γ c
theorem GT.kids(r:1<=e)(x:e<=8){d:List (a6.T i)}(o:GT e (i+1) (a6.node d))(y:bJ e n):a1H e d n:=by
 obtain⟨C,D,S,p⟩:=o.wf;rw[a6.eh]at C D p;have p:=p ε;have T:∀a∈d,a6.WF i a:=S;have f:=o.dC;have h:=o.ok;have E:=o.ev;rw[a6.gd]at f h E;have k:d≠[]:=by intro V;subst V;simp at C
 have c:∀a∈d,GT e i a/\a6.WF i a/\a6.bb i a≠[]/\bJ e (a6.cW i a):=by intro a b;have z:=T a b;have W:=a6.hB.1 z;have k:=a6.yJ ε W.2.2;obtain⟨v,w,g⟩:=aaf b;rw[g,a8A,a7R]at f h E;have j:=(a8t.1 (a8t.1 f).2.1).1;refine⟨⟨a6.kn.of z,j,λl m=>h l (by simp[m]),by grind⟩,z,k,h _ (by simp[zb k])⟩
 refine⟨k,⟨p,D⟩,c,?_,?_⟩
 .rw[FP _ _ _ λA q=>by
   obtain⟨a,b,rfl⟩:=a7M.1 q;exact FC r x y (c a b).2.2.2]
  refine a1F ?_;rw[aa0];have s:=(List.pairwise_flatMap.1 f).2;refine aaB (λ{F G} L P t=>?_) s;intro u;exact(gQ r x).trans n _ _ y (c F L).2.2.2 (c G P).2.2.2 u (t _ (zb (c F L).2.2.1) _ (zb (c G P).2.2.1))
 .obtain⟨a,b,_⟩:=a6.vu (gQ r x) y k (λa b=>by grind[a6.hB]) f h;exact⟨a,b⟩
theorem a1I(L:1<=e)(P:e<=8)(b:Ω)(S:Own)(C:bJ e b):∀(a:Nat)(d:a6.T a)(D:R)(h:U),bD h a d D->GT e a d->b∉a6.bb a d->
  AC δ 78 [D,.J (ab b) S] h λT i=>h.sub i/\∃r E,T=.J r E/\aw (bD i a) (a6.fo bE b a d) r:=by
 have l9:=C.len;intro a
 induction a with
 |zero=>rintro d _ h⟨j,M,E,N,rfl,x,c⟩F l;obtain⟨O,rfl⟩:=a6.iU d;rw[a6.rz]at c;obtain⟨_,Q,_,_⟩:=F.wf;have V:=F.ok;rw[a6.jG]at Q;rw[a6.km]at V;have m:=μ x;refine aM hm CD ?_;refine cl (a1y O M E S b h c ε (λT X=>by have:=(V T X).len;omega) ε) ?_;rintro _ n⟨y,Y,Z,rfl,q⟩;rw[a1G (c:=bE) λk2 s=>FC L P (V k2 s) C]at q;refine cl (FL _ Y Z n q (by rw[a6.oY];omega)) ?_;rintro _ n0⟨k3,r,k4,rfl,G⟩;refine aa ?_;exact⟨_,ι,π y k3,r,k4,rfl,G⟩
 |succ a ih=>
  intro d D h G F l;obtain⟨f,rfl⟩:=a6.hf d;have z:=F.kids L P C;have t:=FR f D b S h G ε λk o=>by
   obtain⟨p,_,n2,k5⟩:=z.hE k o;have:=p.ev;have:=k5.len;grind
  obtain⟨j,n3,E,N,rfl,x,c,_,_⟩:=G;rw[a6.fE]at c;have n4:=c.len;obtain⟨n5,n9⟩:=z.two;have a00:¬(β f:Int)=0:=ε;have m:=μ x;obtain⟨k,o⟩:=z.at_;have u:a6.fo bE b (a+1) (a6.node f)=(a6.chunks (f.take (a6.da bE b (f.map (a6.cW a)))++a6.fo bE b a k++f.drop (a6.da bE b (f.map (a6.cW a))+1))).map a6.node:=by simp only[a6.fo,a6.fE];rw[o]
  rw[u];rw[z.FT]at t;clear u;generalize a6.da bE b (f.map (a6.cW a))=v at*;have a01:=(a7B.1 o).1;obtain⟨p,_,_,_⟩:=z.hE k (a7C o);have w:b∉a6.bb a k:=λs=>l (by rw[a6.gd];grind);obtain⟨_,_,a02,a03⟩:=a6.rG (gQ L P) C a k p.wf p.dC p.ok w;have a04:=bD.c c;obtain⟨_,a05,A⟩:=c.get o;obtain⟨a06,_,_,rfl,_⟩:=A.ptr;refine aM hm CD ?_;refine cl t ?_;rintro _ n⟨y,rfl⟩;have m:=rd y x;have W:=c.take v;refine ti (bD.c W) λa07 k6 B=>?_;have a08:=rd (π y B.sub) x;refine cl (ih k _ k6 (A.fW gu) p w) ?_;rintro _ a09⟨k7,r,a10,rfl,g⟩;have a11:=g.len;refine kS (B.mono k7) (bD.c W) (bD.c g) (λa13 k8 k9 l0=>?_);have a14:k8.read j= _:=μ dQ;have H:=(W.mono λ_ _ a=>bD.fW (gu) a).append (g.mono λ_ _=>bD.fW l0);have I:=c.drop (v+1);refine kS k9 (bD.c H) (bD.c I) (λl1 K l2 l3=>?_);have l4:=(H.mono λ_ _=>bD.fW l3).append (I.mono λ_ _ a=>bD.fW (gu) a);refine cl (z7 K _ _ l1 K l4 (by grind) ι) ?_;rintro _ a15⟨l5,l6,l7,rfl,l8⟩;refine aa ?_;exact⟨_,ι,π y (π l2.sub l5),l6,l7,rfl,l8⟩
def eN:eT->List Ω
 |none=>[]
 |some ⟨a,b⟩=>a6.bb a b
def jb(a:Nat):eT->Prop
 |none=>True
 |some ⟨b,c⟩=>GT a b c
def ln(a:eT)(b:Ω):eT:=
 match a with
 |none=>γ ⟨0,a6.leaf [b]⟩
 |some ⟨c,a⟩=>if b∈a6.bb c a then γ ⟨c,a⟩else qg (a6.fo bE b c a)
def a1J(y:1<=e)(z:e<=8)(c:Ω)(h:Own)(C:bJ e c)(a:eT)(D:R)(k:U)(d:gC k a D)(P:jb e a):
  AC δ 39 [D,.J (ab c) h] k λo E=>k.sub E/\∃F p,o=.aJ [F,.v (.bool p)]/\gC E (ln a c) F:=by
 match a with
 |none=>obtain rfl:=d;refine aM hm Ct ?_;refine eF ι (by simp[ba,τ]) λS v T=>?_;refine aa ?_;refine bg λG V=>?_;exact⟨_,ι,π T.sub (ν ι V),_,_,rfl,G,_,S,.nil,rfl,ξ _ _ _,⟨h,rfl⟩,trivial⟩
 |some ⟨r,a⟩=>
  obtain⟨p,G,w,rfl,A⟩:=bD.ptr d;have b:GT e r a:=P;have B:=b.ev;refine aM hm Ct ?_;refine cl (z8 r a (.ptr p 0) k d ε) ?_;rintro _ L⟨x,W,g,rfl,i⟩;refine mP (za _ W g h c L i ε λo j=>by have:=(b.ok o j).len;omega) ?_;refine ay (λf=>?_) λf=>?_
  .refine⟨_,ι,x,_,_,rfl,?_⟩;simp only[ln,if_pos f];exact bD.mono x d
  .refine cl (a1I y z c h C r a (.ptr p 0) L (bD.mono x d) b f) ?_;rintro _ l⟨m,n,q,rfl,s⟩;obtain⟨_,_,H,I⟩:=a6.rG (gQ y z) C r a b.wf b.dC b.ok f;refine cl (a1C _ n q l s ε) ?_;rintro o K⟨t,u⟩;refine aa ?_;refine⟨_,ι,π x (π m t),_,_,rfl,?_⟩;simp only[ln,if_neg f];exact u
structure gR(d:Nat)(b:Ω×Ω):Prop where
 ok:cV b.1 b.2 d=ζ
 az:bs b.1
 aE:bs b.2
theorem iA:cV n b5 e=ζ↔1<=e/\e<=8/\β n=e/\β b5=e/\∀a,a<e->n.getD a 0<=b5.getD a 0:=by unfold cV;grind
theorem vv{b:Int->Int->Int}(f:∀a c,b a c=a\/b a c=c)(h:bs n)(k:bs b5):bs (Β b n b5):=by intro a d;obtain⟨o,p,rfl⟩:=a8e d;grind[List.length_zipWith,List.getElem_mem]
theorem vw{a:Int->Int->Int}(b:e<β n)(c:e<β b5):(Β a n b5).getD e 0=a (n.getD e 0) (b5.getD e 0):=by grind
theorem vx{d f:Ω×Ω}(a:gR e d)(b:gR e f):gR e (et d f):=by
 have c:=iA.1 a.ok;have h:=iA.1 b.ok;unfold et;rw[c.2.2.1,h.2.2.1,if_pos a.ok,if_pos b.ok,if_pos rfl];refine⟨iA.2 ⟨c.1,c.2.1,by simp_all,by simp_all,λp r=>?_⟩,?_,?_⟩;grind
 .exact vv (λk o=>by omega) a.az b.az
 .exact vv (λk o=>by omega) a.aE b.aE
theorem p2{a:Ω×Ω}(b:gR e a):et ([],[]) a=a:=by have c:=iA.1 b.ok;unfold et;have:cV ([]) [] ([]:Ω).length=false:=rfl;rw[if_neg (by rw[this];simp),c.2.2.1,if_pos b.ok]
theorem a1K:et ([],[]) ([],[])=(([],[]):Ω×Ω):=rfl
theorem zc{a:Ω×Ω}(b:gR e a):et a ([],[])=a:=by have c:=iA.1 b.ok;have d:cV ([]) [] ([]:Ω).length=false:=rfl;unfold et;rw[c.2.2.1,if_pos b.ok,if_neg (by rw[d];simp)]
def iB(d:Nat)(b:Ω×Ω)(c:Ω):Prop:=∀a,a<d->b.1.getD a 0<=c.getD a 0/\c.getD a 0<=b.2.getD a 0
def zd{a b:Ω×Ω}(f:gR e a)(h:gR e b)(c:iB e a n\/iB e b n):iB e (et a b) n:=by
 have k:=iA.1 f.ok;have o:=iA.1 h.ok;unfold et;rw[k.2.2.1,o.2.2.1,if_pos f.ok,if_pos h.ok,if_pos rfl];intro d p;have r:=vw (a:=min) (n:=a.1) (b5:=b.1) (e:=d) ε ε;have x:=vw (a:=max) (n:=a.2) (b5:=b.2) (e:=d) ε ε
 dsimp only
 rw[r,x];rcases c with c|c<;>have:=c d p<;>omega
def ze(c:1<=e)(d:e<=8)(a:bJ e n):gR e (gM n):=by have b:=a.len;unfold gM;rw[if_pos ε];exact⟨iA.2 ⟨c,d,b,b,λ_ _=>a9B _⟩,a.iY,a.iY⟩
structure mY(d:Nat)(n:Nat)(y:fY):Prop where
 live:y.live=n
 aY:(n=0/\y.aY=([],[]))\/(0<n/\gR d y.aY)
theorem FU{f:Nat}(k:1<=f)(o:f<=8):∀(b:List Ω)(c:Nat)(a:fY),(∀d∈b,bJ f d)->mY f c a->mY f (c+β b) ((b.map λd=>(d,ζ)).foldl eu a)
 |[],c,a,_,h=>by trivial
 |d::b,c,a,p,h=>by
  rw[a7O,a8j,a7I,show c+(β b+1)=(c+1)+β b by omega];refine FU k o b (c+1) _ (λx y=>p x (by simp[y])) ?_;have z:=ze k o (p d σ);rw[eu,if_pos rfl];refine⟨by rw[show(({a with live:=a.live+1,aY:=et a.aY (gM d)}:fY)).live=a.live+1 from rfl,h.live];omega,.inr ⟨ε,?_⟩⟩;rcases h.aY with⟨_,r⟩|⟨_,r⟩;grind[et,gM,p2]
  .exact vx r z
structure lo(d n:Nat)(k:aj):Prop where
 sum:β k.sum=32
 live:k.live=n
 size:k.size=n
 pos:1<=n
 aY:gR d (k.az,k.aE)
 key:bJ d k.key
def FV{h:Nat}:∀(a:List (aj×Nat))(b:Nat)(d:fY),(∀c∈a,lo h c.2 c.1)->mY h b d->mY h (b+(a.map Prod.snd).sum) ((a.map Α).foldl fw d)
 |[],b,d,_,k=>by trivial
 |(c,f)::a,b,d,x,k=>by
  have o:=x (c,f) σ;simp only[a7O,a8j,a8o];rw[show b+(f+(a.map Prod.snd).sum)=(b+f)+(a.map Prod.snd).sum by omega];refine FV a (b+f) _ (λy z=>x y (by simp[z])) ?_;have p:=o.aY;have C:=o.pos;refine⟨?_,.inr ⟨by have:1<=f:=C;omega,?_⟩⟩
  .show d.live+c.live= _;rw[k.live,o.live];push_cast;rfl
  .show gR h (et d.aY (c.az,c.aE));rcases k.aY with⟨_,r⟩|⟨_,r⟩
   .rw[r,p2 p];exact p
   .exact vx r p
def cj:(a:Nat)->a6.T a->aj
 |0,b=>gA (ec (a6.rows b))
 |a+1,b=>gA (ei ((a6.kids b).map (cj a)))
def fQ:(a:Nat)->a6.T a->bO
 |0,b=>ec (a6.rows b)
 |a+1,b=>ei ((a6.kids b).map (cj a))
def vy:∀ {a:Nat}{b:a6.T a},cj a b=gA (fQ a b)
 |0,_=>rfl
 |_+1,_=>rfl
def FW:fQ 0 (a6.leaf Q)=ec Q:=rfl
def tI{a:List (a6.T e)}:fQ (e+1) (a6.node a)=ei (a.map (cj e)):=rfl
structure gg(d h:Nat)(t:a6.T h):Prop where
 wf:a6.kn h t
 ok:∀x∈a6.bb h t,bJ d x
 ev:(a6.bb h t).length<=1048576
def GT.ks{b:a6.T e}(a:GT i e b):gg i e b:=⟨a.wf,a.ok,by have:=a.ev;omega⟩
theorem gg.hE{d:List (a6.T e)}(b:gg i (e+1) (a6.node d)):∀a∈d,gg i e a/\a6.WF e a:=by obtain⟨y,z,o,C⟩:=b.wf;have c:=b.ok;have f:=b.ev;rw[a6.gd]at c f;intro a h;have k:=o a h;obtain⟨D,E,p⟩:=aaf h;rw[p,a8A,a7R]at c f;exact⟨⟨a6.kn.of k,λr x=>c r (by simp[x]),by grind⟩,k⟩
def gg.ne{a:a6.T e}(b:gg i e a):a6.bb e a≠[]:=a6.yJ b.wf.1 b.wf.2.2.1
structure zf(d n:Nat)(x:bO):Prop where
 a1L:x.In d
 o8:lo d n (gA x)
 p3:ga d x=γ (gA x)
variable{A j6:aj}
def lo.ne(a:lo e i A):A≠aG:=by rintro rfl;have:=a.size;have:=a.pos;simp[aG]at*;omega
theorem lo.ok{b c:Nat}{d:aj}(a:lo b c d)(f:c<=1048576):fl b d=true:=by have h:=a.size;have k:=a.live;have o:=a.pos;unfold fl;rw[decide_eq_false a.ne,abC,Κ];refine⟨Ι,?_⟩;rw[if_neg ε];exact a.aY.ok
def lo.o8(a:lo e i A)(c:i<=1048576):A.In e:=by have d:=a.size;have f:=a.live;have h:=a.pos;have b:=iA.1 a.aY.ok;have k:β A.az=e:=b.2.2.1;have o:β A.aE=e:=b.2.2.2.1;have p:=a.key.len;exact⟨a.sum,a.aY.az,a.aY.aE,a.key.iY,ε,ε,ε,ε,ε,ε,ε⟩
theorem vz(k:1<=e)(o:e<=8)(c:1<=β Q)(p:β Q<=4)(b:∀a∈Q,bJ e a):zf e (β Q) (ec Q):=by
 have r:ea e (ec Q)=true:=by unfold ea ec;simp only[abL,a7Q,List.all_nil,aaE,a7E,decide_true,Κ,a7L,decide_eq_true_eq,Function.comp];refine⟨λa d=>(b a d).len,?_⟩;simp[c,p]
 have f:=FU k o Q 0 ⟨0,(ec Q).rows.length,([],[])⟩ b ⟨rfl,.inl ⟨rfl,rfl⟩⟩;have x:fx (ec Q)=(Q.map λa=>(a,ζ)).foldl eu ⟨0,(ec Q).rows.length,([],[])⟩:=rfl;rw[<-x,a7X]at f;have y:(fx (ec Q)).size=β Q:=by rw[yT];simp[ec]
 have z:gR e (fx (ec Q)).aY:=by
  rcases f.aY with⟨h,_⟩|⟨_,h⟩
  .omega
  .exact h
 refine⟨⟨r,λa d=>?_,λE F=>by trivial⟩,⟨q7 _,f.live,y,c,z,?_⟩,?_⟩
 .obtain⟨C,D,rfl⟩:=a7M.1 d;exact(b C D).iY
 .show bJ e (keyOf (ec Q))
  match Q,c with
  |a::Q,_=>exact b a σ
 .unfold ga;grind
def a1M:(gA (ec Q)).key=Q.headD []:=by show keyOf (ec Q)= _;cases Q<;>rfl
theorem a1N{a:List (aj×Nat)}(k:2<=β a)(y:β a<=4)(c:∀b∈a,lo e b.2 b.1)(o:(a.map Prod.snd).sum=i)(G:i<=1048576):zf e i (ei (a.map Α)):=by
 have p:∀b∈a,b.2<=i:=λb c=>by
  rw[<-o];obtain⟨L,P,rfl⟩:=aaf c;simp;omega
 have z:ea e (ei (a.map Α))=true:=by unfold ea ei;simp only[abL,a7Q,List.all_nil,a8J,a7E,decide_true,Κ,a7L,Function.comp];refine⟨λb d=>(c b d).ok (by have:=p b d;omega),?_⟩;simp[k,y];exact λS T d=>⟨(c _ d).key.len,(c _ d).ne⟩
 have r:=FV a 0 ⟨0,0,([],[])⟩ c ⟨rfl,.inl ⟨rfl,rfl⟩⟩;have C:fx (ei (a.map Α))=(a.map Α).foldl fw ⟨0,0,([],[])⟩:=rfl;rw[<-C,a7X,o]at r;have D:1<=i:=by
  match a,k with
  |b::a,_=>have:=(c b σ).pos;have:=p b σ;omega
 have E:(fx (ei (a.map Α))).size=i:=by
  rw[yT,<-o];have:∀(a:List (aj×Nat)),(∀b∈a,lo e b.2 b.1)->(((a.map Α).map (·.size)).sum:Int)=(((a.map Prod.snd).sum:Nat):Int):=by
   intro a
   induction a with
   |nil=>intro _;rfl
   |cons b a ih=>intro d;simp only[a7O,a8o];rw[ih λf h=>d f (by simp[h]),(d b σ).size];push_cast;rfl
  simp only[ei,a7E];rw[this a c];simp
 have F:gR e (fx (ei (a.map Α))).aY:=by
  rcases r.aY with⟨x,_⟩|⟨_,x⟩
  .omega
  .exact x
 refine⟨⟨z,λV W=>by trivial,λb d=>?_⟩,⟨q7 _,r.live,E,D,F,?_⟩,?_⟩
 .obtain⟨f,h,rfl⟩:=a7M.1 d;exact(c f h).o8 (by have:=p f h;omega)
 .show bJ e (keyOf (ei (a.map Α)))
  match a,k with
  |b::a,_=>exact(c b σ).key
 .unfold ga;grind
def p4{p:Nat}(x:1<=p)(y:p<=8):∀(a:Nat)(c:a6.T a),gg p a c->zf p (a6.bb a c).length (fQ a c)/\(cj a c).key=a6.cW a c
 |0,c,d=>by
  obtain⟨D,rfl⟩:=a6.iU c;obtain⟨r,h,_⟩:=d.wf;rw[a6.jG]at r h;have z:=d.ok;rw[a6.km]at z;exact⟨vz x y r h z,a1M⟩
 |a+1,c,d=>by
  obtain⟨f,rfl⟩:=a6.hf c;obtain⟨r,h,P,k⟩:=d.wf;rw[a6.eh]at r h k;have k:=k ε;have C:=d.hE;have E:=d.ev;have ih:=λb o=>p4 x y a b (C b o).1;have F:(f.map λb=>(cj a b,(a6.bb a b).length)).map Α=f.map (cj a):=by rw[a9v];rfl
  have G:((f.map λb=>(cj a b,(a6.bb a b).length)).map Prod.snd).sum=(a6.bb (a+1) (a6.node f)).length:=by rw[a9v,a6.gd,List.length_flatMap];rfl
  have:=a1N (by simpa using k) (by simpa using h) (λS L=>by
   obtain⟨b,o,rfl⟩:=a7M.1 L;simp only[vy];exact(ih b o).1.o8) G E
  rw[F]at this;refine⟨this,?_⟩
  match f,k with
  |b::f,_=>
   show(cj a b).key= _;have o:=ih b σ;rw[o.2];unfold a6.cW;rw[a6.gd,a7R];have:=(C b σ).1.ne;cases T:a6.bb a b with
   |nil=>trivial
   |cons V D=>rfl
def tJ(b:1<=i)(c:i<=8){a:a6.T e}(d:gg i e a):lo i (a6.bb e a).length (cj e a):=by rw[vy];exact(p4 b c e a d).1.o8
def a1O(b:1<=i)(c:i<=8){a:a6.T e}(d:gg i e a):(cj e a).key=a6.cW e a:=(p4 b c e a d).2
theorem gg.high{p:Nat}:∀(a:Nat)(b:a6.T a),gg p a b->a+1<=(a6.bb a b).length
 |0,b,c=>by
  have:=c.ne;grind
 |a+1,b,c=>by
  obtain⟨f,rfl⟩:=a6.hf b;obtain⟨r,x,y,d⟩:=c.wf;rw[a6.eh]at r x d;have d:=d ε;have h:=c.hE
  match f,d with
  |k::o::f,_=>have z:=gg.high a k (h k σ).1;have C:=gg.high a o (h o σ).1;rw[a6.gd,a7R,a7R];simp only[Ρ];omega
structure af.le(a c:af):Prop where
 m:∀d b,a.m d=γ b->c.m d=γ b
 one:a.one=ζ->c.one=ζ
variable{H:af}
theorem af.le_refl:H.le H:=⟨λ_ _ a=>a,λa=>a⟩
theorem af.le.trans{b c:af}(d:H.le b)(f:b.le c):H.le c:=⟨λ_ _ a=>f.m _ _ (d.m _ _ a),λa=>f.one (d.one a)⟩
def af.le.zero{a:af}(c:H.le a)(b:a.one=κ):H.one=false:=by
 cases d:H.one with
 |false=>rfl
 |true=>rw[c.one d]at b;cases b
theorem lZ(b:af)(c:ϊ):b.le (fc b c):=by
 unfold fc;split
 .rename_i a;refine⟨λd f h=>?_,λa=>a⟩;grind
 .split
  .exact⟨λ_ _ a=>a,λ_=>rfl⟩
  .exact af.le_refl
variable{O:ϊ}
theorem rH(a:(fc H O).one=κ):(fc H O).m (fZ O)=γ O:=by unfold fc at a|-;grind
variable{c0:bO}
theorem rI(b:ga e c0=γ (gA c0))(a:af):dL a e c0=(.ok (gA c0),fc a (dX c0)):=by unfold dL;rw[b]
def gD(c:af):(b:Nat)->a6.T b->Prop
 |0,a=>c.m (cj 0 a).sum=γ (dX (fQ 0 a))
 |b+1,a=>c.m (cj (b+1) a).sum=γ (dX (fQ (b+1) a))/\∀d∈a6.kids a,gD c b d
def gD.mono{c d:af}(b:c.le d):∀ {a:Nat}{f:a6.T a},gD c a f->gD d a f
 |0,_,a=>b.m _ _ a
 |_+1,_,a=>⟨b.m _ _ a.1,λh k=>gD.mono b (a.2 h k)⟩
def gD.a1P:∀ {a:Nat}{b:a6.T a},gD H a b->H.m (cj a b).sum=γ (dX (fQ a b))
 |0,_,a=>a
 |_+1,_,a=>a.1
def a1Q{a:a6.T e}:(fQ e a).kind=if e=0 then 2 else 3:=by cases e<;>rfl
def zg(c:1<=i)(d:i<=8){a:a6.T e}(f:gg i e a)(h:gD H e a):di H i (cj e a)=γ (fQ e a):=by have b:=(p4 c d e a f).1;unfold di;rw[h.a1P];simp only;rw[Ep ε b.a1L];simp only;rw[b.p3,vy,if_pos rfl]
theorem rJ(b:1<=i)(c:i<=8){a:a6.T e}(d:gg i e a)(f:gD H e a):iV H i (cj e a)=γ (fQ e a):=by simp_all [iV,zg,a1Q]
theorem zh{p:Type}{b:List p->bO}{r:Nat}:∀(gs:List (List p))(c:af)(f:List aj),(∀a∈gs,ga r (b a)=γ (gA (b a)))->
  ∃d,eM b r c gs f=(.ok (f++gs.map λa=>gA (b a)),d)/\c.le d/\(d.one=κ->∀a∈gs,d.m (fZ (dX (b a)))=γ (dX (b a)))
 |[],c,f,_=>⟨c,by simp[eM],af.le_refl,λ_ a y=>by cases y⟩
 |a::gs,c,f,z=>by
  obtain⟨d,D,k,C⟩:=zh gs (fc c (dX (b a))) (f++[gA (b a)]) (λo h=>z o (by simp[h]));refine⟨d,?_,(lZ _ _).trans k,λx o h=>?_⟩;grind[eM,rI]
  .rcases a7S.1 h with rfl|h
   .exact k.m _ _ (rH (k.zero x))
   .exact C x o h
structure Laid(a:af)(h:Nat)(tk:List (a6.T h))(r:Except Int (List aj)×af):Prop where
 ok:r.1=.ok (tk.map (cj h))
 le:a.le r.2
 ins:r.2.one=κ->∀c∈tk,gD r.2 h c
def FX{a:a6.T e}(b:a6.WF e a)(c:∀d∈a6.bb e a,bJ i d)(f:(a6.bb e a).length<=1048576):gg i e a:=⟨a6.kn.of b,c,f⟩
theorem FY(k:1<=e)(o:e<=8)(f:af)(a:List Ω)(p:1<=β a)(G:β a<=5)(r:∀c∈a,bJ e c):Laid f 0 ((a6.chunks a).map a6.leaf) (oZ f e a):=by
 have h:∀b∈a6.chunks a,1<=β b/\β b<=4/\∀c∈b,c∈a:=by
  by_cases x:β a=5
  .rw[a6.tC x];grind
  .rw[a6.qb p ε];grind
 obtain⟨L,y,z,C⟩:=zh (a6.chunks a) f [] (λb d=>(vz k o (h b d).1 (h b d).2.1 (λc D=>r c ((h b d).2.2 c D))).p3);unfold oZ;rw[y];refine⟨?_,z,λE P F=>?_⟩
 .rw[a7T,a9v];rfl
 .obtain⟨b,d,rfl⟩:=a7M.1 F;exact C E b d
theorem zi(z:1<=i)(C:i<=8)(o:af)(a:List (a6.T e))(W:2<=β a)(g:β a<=5)(D:∀d∈a,a6.WF e d)(j:∀E∈a.flatMap (a6.bb e),bJ i E)(l:(a.flatMap (a6.bb e)).length<=1048576)
  (F:∀k,o.le k->k.one=κ->∀d∈a,gD k e d):Laid o (e+1) ((a6.chunks a).map a6.node) (ko o i (a.map (cj e))):=by
 have p:∀b∈a6.chunks a,2<=β b/\β b<=4/\(∀d∈b,d∈a)/\(b.flatMap (a6.bb e)).length<=(a.flatMap (a6.bb e)).length:=by
  by_cases r:β a=5
  .rw[a6.tC r];simp only[a7S,a8f,or_false,forall_eq_or_imp,forall_eq,a7z,a7F];have G:a.flatMap (a6.bb e)=(a.take 3).flatMap (a6.bb e)++(a.drop 3).flatMap (a6.bb e):=by rw[<-a8A,a8d]
   grind
  .rw[a6.qb ε ε];grind
 have L:∀b∈a6.chunks a,gg i (e+1) (a6.node b):=λb f=>by
  obtain⟨m,n,d,G⟩:=p b f;refine FX (a6.hB.2 ⟨by rw[a6.eh];omega,by rw[a6.eh];omega,λc h=>D c (d c h)⟩) (λc h=>?_) (by rw[a6.gd];omega);grind[a6.gd]
 have P:a6.chunks (a.map (cj e))=(a6.chunks a).map (List.map (cj e)):=by by_cases r:β a=5;simp_all [a6.tC];grind[a6.qb,cj]
 obtain⟨k,S,x,T⟩:=zh (b:=ei) ((a6.chunks a).map (List.map (cj e))) o [] (λb f=>by
  obtain⟨c,h,rfl⟩:=a7M.1 f;exact(p4 z C (e+1) (a6.node c) (L c h)).1.p3)
 unfold ko;rw[P,S];refine⟨?_,x,λy d V=>?_⟩
 .rw[a7T,a9v,a9v];rfl
 .obtain⟨b,f,rfl⟩:=a7M.1 V;exact⟨T y _ (a7M.2 ⟨b,f,rfl⟩),λc h=>F k x y c ((p b f).2.2.1 c h)⟩
theorem FZ:mV n b5<0↔bE n b5=true:=by grind[mV]
theorem zj(b:1<=e)(c:e<=8)(d:bJ e n)(f:bJ e b5):mV n b5=0↔n=b5:=by
 unfold mV;constructor
 .intro a;split at a
  .omega
  .rename_i h;split at a
   .omega
   .rename_i k;exact(gQ b c).total n b5 d f (by simpa using h) (by simpa using k)
 .rintro rfl;rw[tH];simp
theorem zk{x:Nat}(y:1<=x)(z:x<=8){c:List Ω}{h:Ω}(D:a6.jI bE c)(p:∀d∈c,bJ x d)(C:bJ x h):∀(o f b:Nat),f<=b->b<=β c->b - f<=o->
  (∀a d,c[a]?=γ d->a<f->bE d h=ζ)->(∀a d,c[a]?=γ d->b<=a->bE d h=κ)->
  (∀a d,c[a]?=γ d->a<mX c h o f b->bE d h=ζ)/\(∀a d,c[a]?=γ d->mX c h o f b<=a->bE d h=κ)/\mX c h o f b<=β c
 |0,f,b,S,F,T,h1,G=>by
  obtain rfl:f=b:=ε;trivial
 |o+1,f,b,S,F,T,h1,G=>by
  rw[mX];by_cases V:f<b
  .rw[if_pos V];have hm:(f+b)/2<β c:=ε;have W:=Τ hm;rw[W];simp only;have L:=a8W.1 D;have P:=p _ (a8b hm);by_cases k:mV c[(f+b)/2] h<0
   .rw[if_pos k];have k:=FZ.1 k;refine zk y z D p C o _ _ ε F ε (λa d E e=>?_) G;by_cases he:a=(f+b)/2;simp_all
    .obtain⟨r,rfl⟩:=a7B.1 E;exact(gQ y z).trans _ _ _ (p _ (a8b r)) P C (L a _ r hm ε) k
   .rw[if_neg k];have k:bE c[(f+b)/2] h=false:=by simp_all [absurd,FZ]
    refine zk y z D p C o _ _ ε ε ε h1 (λa d E e=>?_);by_cases he:a=(f+b)/2;simp_all
    .obtain⟨r,rfl⟩:=a7B.1 E;cases g:bE c[a] h with
     |false=>rfl
     |true=>have:=(gQ y z).trans _ _ _ P (p _ (a8b r)) C (L _ a hm r ε) g;rw[this]at k;cases k
  grind
theorem G0(c:1<=e)(d:e<=8)(f:a6.jI bE Q)(h:∀a∈Q,bJ e a)(k:bJ e n):
  (∀b a,Q[b]?=γ a->b<fp Q n->bE a n=ζ)/\(∀b a,Q[b]?=γ a->fp Q n<=b->bE a n=κ)/\fp Q n<=β Q:=
 zk c d f h k (β Q) 0 (β Q) ε (Χ _) ε (λb a _ o=>by omega) (λb a p o=>by
  simp_all)
theorem a1R(f:1<=e)(h:e<=8)(k:a6.jI bE Q)(o:∀b∈Q,bJ e b)(p:bJ e n):Q.take (fp Q n)++n::Q.drop (fp Q n)=a6.eb bE Q n:=by
 obtain⟨C,r,D⟩:=G0 f h k o p;generalize fp Q n=a at*;have x:∀b∈Q.take a,bE b n=true:=λb y=>by
  obtain⟨E,F,rfl⟩:=a8e y;grind
 conv=>rhs;rw[<-a8d a Q]
 rw[a6.yK x];congr 1;unfold a6.eb;cases z:Q.drop a with
 |nil=>rfl
 |cons c d=>
  have:Q[a]?=γ c:=by have:=congrArg (λd=>d[0]?) z;simpa using this
  have:=r a c this (Χ _);simp[this]
theorem zl(d:1<=e)(f:e<=8)(h:a6.jI bE Q)(p:∀r∈Q,bJ e r)(c:bJ e n):lh Q n=decide (n∈Q):=by
 obtain⟨E,x,F⟩:=G0 d f h p c;unfold lh;by_cases k:n∈Q
 .obtain⟨a,hm,y⟩:=a8e k;have z:Q[a]?=γ n:=by simp_all
  have C:=a8W.1 h;have D:a=fp Q n:=by
   rcases aak a (fp Q n)with b|b|b;grind[tH]
   .exact b
   .have o:=C (fp Q n) a ε hm b;rw[y]at o;have:=x (fp Q n) _ (Τ ε) (Χ _);rw[o]at this;cases this
  rw[<-D,z,decide_eq_true k];simp only;rw[decide_eq_true];exact(zj d f c c).2 rfl
 grind[decide_eq_false,fp,List.mem_of_getElem?,zj]
theorem a1S(d:1<=e)(f:e<=8)(o:a6.jI bE Q)(h:∀b∈Q,bJ e b)(k:bJ e n)(p:n∈Q):Q.take (fp Q n)++Q.drop (fp Q n+1)=Q.filter λb=>decide (b≠n):=by
 have a:=zl d f o h k;rw[decide_eq_true p]at a;unfold lh at a;generalize fp Q n=r at*;cases c:Q[r]? with
 |none=>rw[c]at a;cases a
 |some b=>rw[c]at a;simp only[decide_eq_true_eq]at a;obtain rfl:=(zj d f (h b (a7C c)) k).1 a;have x:=a6.rF c;grind[List.pairwise_cons,List.filter_cons_of_neg,a6.filter_none,tH]
def kt:H.le (dL H e c0).2:=by
 unfold dL;split
 .exact af.le_refl
 .exact lZ _ _
def zm{f:Type}{c:List f->bO}{d:Nat}:∀(gs:List (List f))(a:af)(b:List aj),a.le (eM c d a gs b).2
 |[],a,b=>af.le_refl
 |h::gs,a,b=>by
  have k:=kt (H:=a) (e:=d) (c0:=c h);rw[eM];generalize dL a d (c h)=o at*;obtain⟨p,r⟩:=o;cases p with
  |error y=>exact k
  |ok x=>exact k.trans (zm gs r (b++[x]))
def G1:H.le (oZ H e Q).2:=zm _ _ _
def zn{a:List aj}:H.le (ko H e a).2:=zm _ _ _
def G2{c:Nat}{b:Ω}:∀(d:Nat)(a:af)(f:aj),a.le (gO c b d a f).2
 |0,a,f=>af.le_refl
 |d+1,a,f=>by
  rw[gO];cases iV a c f with
  |none=>exact af.le_refl
  |some h=>
   simp only;by_cases k:h.kind=2
   .rw[if_pos k];by_cases o:lh (h.rows.map Α) b=ζ
    .rw[if_pos o];exact af.le_refl
    .rw[if_neg o];exact G1
   .rw[if_neg k];cases h.kids[hU b h]? with
    |none=>exact af.le_refl
    |some p=>
     have r:=G2 (c:=c) (b:=b) d a p;simp only;generalize gO c b d a p=x at*;obtain⟨y,z⟩:=x;cases y with
     |error C=>exact r
     |ok D=>exact r.trans zn
def G3{d:Nat}:∀(f:Nat)(a:af)(b:List aj),a.le (iW d f a b).2
 |0,a,b=>af.le_refl
 |f+1,a,b=>by
  rw[iW];by_cases c:1<β b
  .rw[if_pos c];have c:=zn (H:=a) (e:=d) (a:=b);generalize ko a d b=h at*;obtain⟨k,o⟩:=h;cases k with
   |error r=>exact c
   |ok p=>exact c.trans (G3 f o p)
  .rw[if_neg c];exact af.le_refl
def G4:H.le (jJ e n H A).2:=by
 unfold jJ;split
 .exact kt
 .have a:=G2 (c:=e) (b:=n) (A.size.toNat+1) H A;generalize gO e n (A.size.toNat+1) H A=b at*;obtain⟨c,d⟩:=b;cases c with
  |error f=>exact a
  |ok h=>exact a.trans (G3 _ _ _)
variable{M:Bool}
theorem G5{a:List aj}:H.le (mW H e M Q a).2:=by unfold mW;split<;>exact kt
theorem join_le{a b:ix}:H.le (lj H e a b).2:=by
 unfold lj;split
 .exact G1
 .exact zn
theorem a1T{c:List aj}{a:ix}:H.le (kq H e c i a).2:=by
 unfold kq;by_cases b:2<=β a.rows+β a.kids
 .rw[if_pos b];grind[G5,mW]
 .rw[if_neg b];grind[af.le_refl,iV,join_le,hD,lj]
def G6{d:Nat}{b:Ω}:∀(h:Nat)(c:af)(k:aj),c.le (iy d b h c k).2
 |0,c,k=>af.le_refl
 |h+1,c,k=>by
  rw[iy];cases iV c d k with
  |none=>exact af.le_refl
  |some a=>
   simp only;by_cases f:a.kind=2
   .rw[if_pos f];by_cases x:lh (a.rows.map Α) b=ζ
    .rw[if_pos x];exact af.le_refl
    .rw[if_neg x];exact af.le_refl
   .rw[if_neg f];cases a.kids[hU b a]? with
    |none=>exact af.le_refl
    |some y=>
     have o:=G6 (d:=d) (b:=b) h c y;simp only;generalize iy d b h c y=p at*;obtain⟨r,z⟩:=p;cases r with
     |error D=>exact o
     |ok C=>
      have f:=a1T (H:=z) (e:=d) (c:=a.kids) (i:=hU b a) (a:=C);simp only;generalize kq z d a.kids (hU b a) C=p at*;obtain⟨r,E⟩:=p;cases r with
      |error D=>exact o.trans f
      |ok F=>exact o.trans f
theorem G7:H.le (lY e n H A).2:=by
 unfold lY;split
 .exact af.le_refl
 .have a:=G6 (d:=e) (b:=n) (A.size.toNat+1) H A;generalize iy e n (A.size.toNat+1) H A=b at*;obtain⟨c,d⟩:=b;cases c with
  |error f=>exact a
  |ok h=>
   simp only;split
   .exact a
   .split
    .exact a
    .exact a.trans G5
def iC(a b:Int):Int:=if a<b then -1 else if b<a then 1 else 0
def gh:Ω->Ω->Int
 |[],[]=>0
 |[],_:: _=> -1
 |_:: _,[]=>1
 |a::c,b::d=>if iC a b=0 then gh c d else iC a b
def G8(b:Int)(a:U):AC δ 200 [.v (.int .i64 b)] a λc d=>d=a/\c=.v (.bool κ):=by
 refine aM hm RD ?_
 repeat' first|refine ay (λ_=>?_) λ_=>?_|trivial
def G9(b c:Int)(a:U):AC δ 122 [.v (.int .i64 b),.v (.int .i64 c)] a λd f=>f=a/\d=.v (.int .i64 (iC b c)):=by
 refine aM hm PF ?_;refine aP (G8 b a) ?_;refine aP (G8 c a) ?_
 repeat' first|refine ay (λ_=>?_) λ_=>?_|trivial
 .rw[iC,if_pos ‹_›]
 .rw[iC,if_neg ‹_›,if_pos ‹_›]
 .rw[iC,if_neg ‹_›,if_neg ‹_›]
theorem drop_cons{a:List K}{b:K}(c:e<β a):a.drop e=a.getD e b::a.drop (e+1):=by simp_all
theorem tK{a:List K}(b:β a<=e):a.drop e=[]:=a8k b
theorem Ga(b c:Ω)(f h:Own)(d:U)(x:β b<=1000000000000):AC δ 66 [.J (ab b) f,.J (ab c) h] d λk o=>o=d/\k=.v (.int .i64 (gh b c)):=by
 have y:=bn (n:=b);have z:=bn (n:=c);have C:=@cP b;have D:=@cP c;refine aM hm O6 ?_;refine fO [0,1,9,10] (λa:Nat=>[(11,.v (.int .i64 a))]) (λa=>a<=β b/\a<=β c/\gh b c=gh (b.drop a) (c.drop a)) (λa=>β b - a) 0 ⟨ε,ε,rfl⟩ aK ?_;rintro a⟨E,F,G⟩L;refine aa ?_;refine ay (λp=>?_) λp=>?_
 .refine ay (λr=>?_) λr=>?_
  .rw[drop_cons (b:=0) ε,tK (a:=c) ε,gh]
  .have P:=drop_cons (a:=b) (b:=0) (e:=a) ε;have S:=drop_cons (a:=c) (b:=0) (e:=a) ε;refine aP (G9 _ _ _) ?_;refine ay (λc2=>?_) λc2=>?_
   .rw[gh,if_neg c2]
   .rw[gh,if_pos ε];grind
 .repeat' first|refine ay (λ_=>?_) λ_=>?_|trivial
  .rw[tK ε,drop_cons (b:=0) ε,gh]
  grind[tK,gh]
def cM(a:Nat)(b c:Ω):Int:=if iC (b.getD a 0) (c.getD a 0)=0 then gh b c else iC (b.getD a 0) (c.getD a 0)
def Gb(a b:Ω)(k o:Own)(c:Nat)(d:U)(f:Nat)(y:d.read f=γ [.v (.int .i64 (c:Int))])(z:c<β a)(C:c<β b)(p:β a<=1000000000000):
  AC δ 280 [.J (ab a) k,.J (ab b) o,.ptr f 0] d λr x=>x=d/\r=.v (.int .i64 (cM c a b)):=by
 have D:=@cP a;have E:=@cP b;refine aM hm TJ ?_;refine aP (G9 _ _ _) ?_;refine ay (λh=>?_) λh=>?_
 .rw[cM,if_neg h]
 .refine aP (Ga _ _ _ _ _ p) ?_;rw[cM,if_pos ε]
def Gc(k a b:Nat)(x:0<a)(y:b<=1000000000000)(z:a<=8)(d:U):
  AC δ 241 [ej k a,.v (.int .i64 (b:Int))] d λo f=>d.sub f/\∃c,f c=γ (.cells [.v (.int .i64 ((b%a:Nat):Int))])/\d c=η/\o=.bG 280 [] [.ptr c 0]:=by
 have C:(b:Int).tmod (a:Int)=((b%a:Nat)):=rfl;have D:¬(a:Int)=0:=ε;refine aM hm SR ?_;refine bg λc p=>?_;refine cy λr h E F=>?_;refine⟨_,ι,?_,r,ξ _ _ _,h,rfl⟩;exact ν (ν ι p) h
def Gd(c d:Ω)(f h:Own)(k a b:Nat)(o:0<a)(r:a<=8)(x:b<=1000000000000)(L:β c=a)(P:β d=a)(p:U):
  AC δ 169 [ej k a,.J (ab c) f,.J (ab d) h,.v (.int .i64 (b:Int))] p λy z=>z=p/\y=.v (.int .i64 (if cM (b%a) c d<0 then 0 else 1)):=by
 have S:=a9w b o;refine aM hm QY ?_;refine bg λT C=>?_;refine ak (Gc k a b o x r _) ?_;rintro _ D⟨E,F,G,_,rfl⟩;refine aa ?_;refine fa abY (Gb c d f h (b%a) D F (μ G) ε ε ε) ?_;rintro _ _⟨rfl,rfl⟩;refine aa ?_
 repeat' first|refine ay (λ_=>?_) λ_=>?_|trivial
 all_goals exact π (ν ι C) E
structure p5 where
 prev:ϊ
 num:Int
 ops:ϊ
 Ge:ϊ
 deriving DecidableEq
def p5.ok(a:p5):Prop:=β a.prev=32/\β a.ops=32/\β a.Ge=32
def a1U(a:ϊ)(b:Int)(c d:ϊ):ύ:=a.map av++(.v (.int .i64 b)::(c.map av++d.map av))
def p5.C(a:p5):ύ:=a1U a.prev a.num a.ops a.Ge
def p5.V(a:p5):R:=.agg a.C
def p5.may(a:p5):Bool:=decide (0<=a.num)&&decide (a.num<=1099511627776)
theorem zo(a:ϊ)(b:Nat)(c:b<β a):(⟨a.toArray⟩:ByteArray).get! b=a[b]:=by simp[ByteArray.get!,c]
theorem Gf(a:ϊ)(b:Nat)(c:b<β a)(d:a[b].toNat<128):Utf8.decode ⟨a.toArray⟩ b=(a[b].toNat,1):=by simp[Utf8.decode,zo a b c,d]
theorem decode_high(b:ϊ)(a:Nat)(D:a<β b)(E:128<=b[a].toNat):
  128<=(Utf8.decode ⟨b.toArray⟩ a).1/\(Utf8.decode ⟨b.toArray⟩ a).1<=1114111/\1<=(Utf8.decode ⟨b.toArray⟩ a).2/\a+(Utf8.decode ⟨b.toArray⟩ a).2<=β b/\
   ∀c,(p:c<β b)->a<=c->c<a+(Utf8.decode ⟨b.toArray⟩ a).2->128<=b[c].toNat:=by
 have e:∀c,(p:c<β b)->a<=c->c<a+1->128<=b[c].toNat:=λc p F r=>by
  grind
 have f:∀h,(a+h<β b/\((⟨b.toArray⟩:ByteArray).get! (a+h)).toNat/64=2)->∃D:a+h<β b,128<=b[a+h].toNat:=λh g=>by
  grind[zo]
 have P:=oN b;have S:((⟨b.toArray⟩:ByteArray).get! (a+0)).toNat=b[a].toNat:=by rw[a9A,zo b a D]
 have i:b[a].toNat<256:=b[a].toNat_lt;unfold Utf8.decode;simp only[S,P];rw[if_neg ε];have v:∀y:Nat,Utf8.valid (y)=ζ->y<=1114111:=λy d=>by
  simp only[Utf8.valid,a8Y,Κ,decide_eq_true_eq]at d;omega
 split
 .rename_i d;simp only[Κ,decide_eq_true_eq,beq_iff_eq]at d;obtain⟨G,k⟩:=d;obtain⟨L,x⟩:=f 1 k;split;grind;trivial
 .split
  .rename_i d;simp only[Κ,decide_eq_true_eq,beq_iff_eq]at d;obtain⟨⟨G,k⟩,z⟩:=d;obtain⟨L,x⟩:=f 1 k;obtain⟨T,C⟩:=f 2 z;split
   .rename_i o;simp only[Κ,decide_eq_true_eq]at o;refine⟨by simp only;omega,v _ o.2,σ,Ι,λc p F r=>?_⟩;rcases(by simp only at r;omega:c=a\/c=a+1\/c=a+2)with rfl|rfl|rfl
    .exact E
    .exact x
    .exact C
   trivial
  .split
   .rename_i d;simp only[Κ,decide_eq_true_eq,beq_iff_eq]at d;obtain⟨⟨⟨G,k⟩,z⟩,V⟩:=d;obtain⟨L,x⟩:=f 1 k;obtain⟨T,C⟩:=f 2 z;obtain⟨j,W⟩:=f 3 V;split
    .rename_i o;simp only[Κ,decide_eq_true_eq]at o;refine⟨by simp only;omega,v _ o.2,σ,Ι,λc p F r=>?_⟩;rcases(by simp only at r;omega:c=a\/c=a+1\/c=a+2\/c=a+3)with rfl|rfl|rfl|rfl
     .exact E
     .exact x
     .exact C
     .exact W
    trivial
   trivial
def gi(b:Nat)(a:Int):Bool:=(decide (97<=a)&&decide (a<=122))||(!decide (b=0)&&((decide (48<=a)&&decide (a<=57))||decide (a=95)))
def ma(b:ByteArray):Nat->Nat->Bool
 |0,_=>ζ
 |c+1,a=>if a<b.size then gi a (Utf8.decode b a).1&&ma b c (a+(Utf8.decode b a).2)else ζ
def ku(a:ϊ):Bool:=ma ⟨a.toArray⟩ (β a+1) 0&&decide (1<=β a/\β a<=16)
theorem a1V(a:ϊ)(b:Nat)(c:b<β a):1<=(Utf8.decode ⟨a.toArray⟩ b).2/\b+(Utf8.decode ⟨a.toArray⟩ b).2<=β a/\(Utf8.decode ⟨a.toArray⟩ b).1<=1114111:=by grind[Gf,decode_high]
def tL:ta (bm O)=γ (.v (.int .i64 (β O))):=xR
theorem Gg(a:ϊ)(l:β a<=1000000)(h:U):
  AC δ 51 [bm a] h λW k=>k=h/\W=.v (.bool (ku a)):=by
 refine bh hm ND σ ?_;have e:∀(G)(T),xX (bm a) h (c7 G T)=jt h (bT (λg=>G g ⟨a.toArray⟩) ()):=λG T=>DA;refine aS @e ?_;refine aR λp x=>?_;refine eS ?_;refine cZ (λL k=>∃r b:Nat,b<=β a/\β a<r+b/\ma ⟨a.toArray⟩ r b=ma ⟨a.toArray⟩ (β a+1) 0/\h.sub k/\k p=γ (.it ⟨a.toArray⟩ b)/\L 0=bm a/\L 7=.ptr p 0)
  (λ_ k=>match k p with|some (.it _ b)=>β a - b|_=>0) ⟨β a+1,0,ε,ε,rfl,ν ι x,ξ _ _ _,?_⟩ ?_
 .exact r7
 .rintro L k⟨r,b,m,n,y,z,P,o,f⟩;refine aS @f ?_;by_cases C:b<β a
  .obtain⟨r,rfl⟩:∃i,r=i+1:=⟨r - 1,ε⟩;obtain⟨q,s,t⟩:=a1V a b C;have j:=oN a;rw[ma,if_pos (by rw[j];exact C)]at y;refine Xz P C ?_;generalize (Utf8.decode ⟨a.toArray⟩ b).1=c at*;generalize (Utf8.decode ⟨a.toArray⟩ b).2=D at*;have E (d:gi b c=κ):ku a=false:=by rw[d,a8H]at y;rw[ku,<-y];rfl
   have u (d:gi b c=ζ):(∃V F:Nat,F<=β a/\β a<V+F/\ma ⟨a.toArray⟩ V F=ma ⟨a.toArray⟩ (β a+1) 0/\h.sub (k.set p (.it ⟨a.toArray⟩ (b+D)))/\(k.set p (.it ⟨a.toArray⟩ (b+D))) p=γ (.it ⟨a.toArray⟩ F)):=by rw[d,a8J]at y;grind[ν,ξ]
   have S:((b:Int)=0)=(b=0):=σ;have v:(match k p with|some (.it _ b)=>β a - b|_=>0)=β a - b:=by rw[P]
   have w:(match(k.set p (.it ⟨a.toArray⟩ (b+D))) p with|some (.it _ b)=>β a - b|_=>0)=β a -(b+D):=by rw[ξ]
   have A:β a -(b+D)<β a - b:=ε;by_cases jL:(97)<=(c:Int)
   .by_cases a2:(c:Int)<=122
    .have d:gi b c=true:=by simp[gi,jL,a2]
     refine aS (aL @o @f @jL @a2) ?_;simp_all
    .by_cases a0:(b:Int)=0
     .have d:gi b c=false:=by simp[gi,a2];omega
      refine aS (aZ @o @f @jL @a2 @a0) ?_;exact⟨h,ν z x,rfl,by rw[E d]⟩
     .have d:gi b c=false:=by simp[gi,a2];omega
      have a3:¬(c:Int)<48:=ε;have a4:(57:Int)<c:=ε;have a5:¬(c:Int)=95:=ε;refine aS (bl @o @f @jL @a2 @a0 @a3 @a4 @a5) ?_;exact⟨h,ν z x,rfl,by rw[E d]⟩
   .by_cases a0:(b:Int)=0
    .have d:gi b c=false:=by simp[gi,jL];omega
     refine aS (aL @o @f @jL @a0) ?_;exact⟨h,ν z x,rfl,by rw[E d]⟩
    .have S:¬b=0:=ε;by_cases a3:(c:Int)<48
     .have d:gi b c=false:=by simp[gi,jL];omega
      have a5:¬(c:Int)=95:=ε;refine aS (bt @o @f @jL @a0 @a3 @a5) ?_;exact⟨h,ν z x,rfl,by rw[E d]⟩
     .by_cases a4:(57:Int)<c
      .by_cases a5:(c:Int)=95
       .have d:gi b c=true:=by simp[gi,a5,S]
        refine aS (cr @o @f @jL @a0 @a3 @a4 @a5) ?_;simp_all
       .have d:gi b c=false:=by simp[gi,jL,a5];omega
        refine aS (cr @o @f @jL @a0 @a3 @a4 @a5) ?_;exact⟨h,ν z x,rfl,by rw[E d]⟩
      .have d:gi b c=true:=by simp[gi,jL,S];omega
       refine aS (bt @o @f @jL @a0 @a3 @a4) ?_;simp_all
  .have B:ku a=decide (1<=β a/\β a<=16):=by
    have:ma ⟨a.toArray⟩ r b=true:=by
     cases r with
     |zero=>rfl
     |succ r=>rw[ma,if_neg (by rw[oN];exact C)]
    rw[ku,<-y,this,a8J]
   refine XA P C ?_;by_cases d1:(1:Int)<=β a
   .by_cases d2:(β a:Int)<=16
    .refine aS (aZ @o @f @tL @d1 @d2) ?_;grind
    .refine aS (aZ @o @f @tL @d1 @d2) ?_;grind
   .refine aS (aL @o @f @tL @d1) ?_;grind
def bX(a:List ϊ):ύ:=a.map bm
def mb{a:List ϊ}:(bX a).length=β a:=by simp[bX]
def vA{a:List ϊ}{b:Nat}(c:b<β a):(bX a)[b]?=γ (bm (a.getD b [])):=by simp[bX,c]
def zp:fC 1 (γ (bm O))=γ (.c4 [bm O]):=rfl
theorem a1W(a:List ϊ)(z:Own)(f:ϊ)(S:β a<=1000000)(d:U):
  AC δ 162 [.J (bX a) z,bm f] d λE k=>k=d/\∃h:Int,E=.v (.int .i64 h)/\decide (0<=h)=decide (f∈a):=by
 refine bh hm QO σ ?_;have F:=mb (a:=a);refine aS @F ?_;refine cZ (λc k=>∃b:Nat,b<=β a/\k=d/\f∉a.take b/\c 0=.J (bX a) z/\c 1=bm f/\c 7=.v (.int .i64 (β a))/\c 8=.v (.int .i64 b))
  (λc _=>match c 8 with|.v (.int _ h)=>(β a - h).toNat|_=>0) ⟨0,ε,rfl,σ,?_⟩ ?_
 .exact r7
 .rintro c d⟨b,T,rfl,V,o,p,r,x⟩;by_cases y:(b:Int)<β a
  .have G:b<β a:=ε;have C:=vA G;have L:a.getD b []∈a:=by simp_all
   have W:a.take (b+1)=a.take b++[a.getD b []]:=by simp_all
   generalize a.getD b []=P at*;by_cases D:f=P
   .refine aS (dz @o @p @r @x @y @ir @C @zp @D) ?_;refine⟨d,ι,rfl,b,rfl,?_⟩;simp[L]
   .refine aS (dz @o @p @r @x @y @ir @C @zp @D) ?_;grind
  .obtain rfl:b=β a:=ε;refine aS (aZ @o @p @r @x @y) ?_;refine⟨d,ι,rfl,-1,rfl,?_⟩;simp_all
def a1X(b:List ϊ)(d:Own)(c:ϊ)(f:β b<=1000000)(a:U):
  AC δ 99 [.J (bX b) d,bm c] a λh k=>k=a/\h=.v (.bool (decide (c∈b))):=by
 refine bh hm OZ σ ?_;refine eS ?_;refine ak (a1W b d c f a) ?_;rintro _ a⟨rfl,p,rfl,o⟩;refine aS @o ?_
 all_goals exact⟨a,ι,rfl⟩
def mZ(a:List ϊ)(b:Nat):Bool:=ku (a.getD b [])&&(!decide (a.getD b []=[105,100])&& !decide (a.getD b []∈a.take b))
def o9(a:List ϊ):Bool:=(ψ (β a)).all (mZ a)&&decide (1<=β a/\β a<=7)
theorem zq{a:List ϊ}(b:e<β a)(c:mZ a e=κ):o9 a=false:=by grind[o9,Bool.and_eq_false_iff,List.all_eq_false]
theorem a1Y{a:List ϊ}(c:∀b,b<β a->mZ a b=ζ):o9 a=decide (1<=β a/\β a<=7):=by
 have:(ψ (β a)).all (mZ a)=true:=by simp_all
 rw[o9,this,a8J]
theorem a1Z(a:List ϊ)(r:Own)(n:β a<=1000000)(T:∀V∈a,β V<=1000000)(c:U):
  AC δ 52 [.J (bX a) r] c λW D=>D=c/\W=.v (.bool (o9 a)):=by
 refine bh hm NG σ ?_;have x:=mb (a:=a);refine aS @x ?_;refine cZ (λp D=>∃b:Nat,b<=β a/\D=c/\(∀y,y<b->mZ a y=ζ)/\p 0=.J (bX a) r/\p 5=.J (bX a) r/\p 6=.v (.int .i64 (β a))/\p 7=.v (.int .i64 b))
  (λp _=>match p 7 with|.v (.int _ e)=>(β a - e).toNat|_=>0) ⟨0,ε,rfl,λy g=>by omega,?_⟩ ?_
 .exact r7
 .rintro p c⟨b,q,rfl,i,f,h,k,o⟩;by_cases z:(b:Int)<β a
  .have C:b<β a:=ε;have j:=vA C;have l:a.getD b []∈a:=by simp_all
   have L:mZ a b=(ku (a.getD b [])&&(!decide (a.getD b []=[105,100])&& !decide (a.getD b []∈a.take b))):=rfl;generalize a.getD b []=d at*;refine aS (bl @f @h @k @o @z @ir @j @zp) ?_;refine ak (Gg d (T d l) c) ?_;rintro _ c⟨rfl,rfl⟩;cases P:ku d
   .refine aS (aL @f @h @k @o) ?_;exact⟨c,ι,rfl,by rw[zq C (by rw[L,P];rfl)]⟩
   .have s:(bX a).take b=bX (a.take b):=by simp[bX]
    by_cases E:d=[105,100]
    .have F:ju .eql (bm d) (.v (.string ⟨#[105,100]⟩))=γ (.v (.bool ζ)):=by have:=r6 (a:=d) (b:=[105,100]);rw[decide_eq_true E]at this;exact this
     refine aS (aZ @f @h @k @o @F) ?_;exact⟨c,ι,rfl,by rw[zq C (by rw[L,P,decide_eq_true E];rfl)]⟩
    .have F:ju .eql (bm d) (.v (.string ⟨#[105,100]⟩))=γ (.v (.bool κ)):=by have:=r6 (a:=d) (b:=[105,100]);rw[decide_eq_false E]at this;exact this
     have m:dU 1 (.J (bX a) r) η (γ (.v (.int .i64 (b))))=γ (.J (bX (a.take b)) .any):=by grind[nN,ba,bX,bm,τ,Int.toNat_natCast]
     refine aS (bt @f @h @k @o @F @m) ?_;refine ak (a1X (a.take b) _ d (by rw[a7z];omega) c) ?_;rintro _ c⟨rfl,rfl⟩;by_cases S:d∈a.take b
     .refine aS (aZ @f @h @k @o @S) ?_;exact⟨c,ι,rfl,by rw[zq C (by simp_all)]⟩
     .refine aS (aZ @f @h @k @o @S) ?_;refine⟨⟨b+1,ε,λy g=>?_,σ⟩,ε⟩;grind
  .obtain rfl:b=β a:=ε;have G:=a1Y i;by_cases d1:(1:Int)<=β a
   .by_cases d2:(β a:Int)<=7
    .refine aS (bl @f @h @k @o @z @x @d1 @d2) ?_;exact⟨c,ι,rfl,by rw[G];simp;omega⟩
    .refine aS (bl @f @h @k @o @z @x @d1 @d2) ?_;exact⟨c,ι,rfl,by rw[G];simp;omega⟩
   .refine aS (cr @f @h @k @o @z @x @d1) ?_;exact⟨c,ι,rfl,by rw[G];simp;omega⟩
structure cC where
 kind:UInt8
 table:ϊ
 aH:List ϊ
 row:Ω
structure cX where
 d:cC
 gP:Own
 du:Own
def cX.C(a:cX):ύ:=[av a.d.kind,bm a.d.table,.J (bX a.d.aH) a.gP,.J (ab a.d.row) a.du]
def cX.V(a:cX):R:=.agg a.C
def cX.a2a{a:cX}:β a.C=4:=rfl
def cX.m1{a:cX}:aX κ 1 (a.C.drop 1)=bm a.d.table:=rfl
def cX.m2{a:cX}:aX κ 1 (a.C.drop 2)=.J (bX a.d.aH) a.gP:=rfl
def cX.m3{a:cX}:aX κ 1 (a.C.drop 3)=.J (ab a.d.row) a.du:=rfl
def cC.ok(a:cC):Prop:=β a.table<=16/\β a.aH<=8/\(∀b∈a.aH,β b<=16)/\β a.row<=255
def eO(a:cC):Bool:=ku a.table&&
  (if a.kind.toNat=1 then o9 a.aH&&decide (β a.row=0)
   else if a.kind.toNat=2 then decide (β a.aH=0)&&decide (β a.row=0)
   else if a.kind.toNat=3\/a.kind.toNat=4 then decide (β a.aH=0)&&(decide (2<=β a.row)&&decide (β a.row<=8))
   else κ)
structure cC.Fit(d:cC):Prop where
 t:β d.table<=1000000
 c:β d.aH<=1000000
 cs:∀c∈d.aH,β c<=1000000
 r:β d.row<=1000000
def Gh(a:cX)(h:a.d.Fit)(b:U):
  AC δ 29 [a.V] b λk o=>o=b/\k=.v (.bool (eO a.d)):=by
 obtain⟨⟨p,d,c,f⟩,r,x⟩:=a;obtain⟨y,z,C,F⟩:=h;have G:=mb (a:=c);have L:=bn (n:=f);show AC _ _ [.agg [av p,bm d,.J (bX c) r,.J (ab f) x]] b _;refine aM hm N2 ?_;refine bg λP S=>?_;refine aP (Gg d y _) ?_;refine ay (λD=>?_) λD=>?_
 .rw[eO];exact aY
 refine ay (λE=>?_) λE=>?_
 .refine aP (a1Z c _ z C _) ?_
  repeat' first|refine ay (λ_=>?_) λ_=>?_|trivial
  all_goals (rw[eO];exact aY)
 repeat' first|refine ay (λ_=>?_) λ_=>?_|trivial
 all_goals (rw[eO];exact aY)
def oa(b:Nat)(a:UInt8):Bool:=(decide (97<=a.toNat)&&decide (a.toNat<=122))||(!decide (b=0)&&((decide (48<=a.toNat)&&decide (a.toNat<=57))||decide (a.toNat=95)))
def ob(a:ϊ):Bool:=(ψ (β a)).all (λb=>oa b (a.getD b 0))&&(decide (0<β a)&&decide (β a<17))
def Gi(a:ϊ)(d:U)(x:β a<=1000000):
  AC δ 67 [bm a] d λo f=>f=d/\o=.v (.bool (ob a)):=by
 refine aM hm O8 ?_;refine ck [0] (λb:Nat=>[(3,.v (.int .i64 b))]) (λb f=>f=d/\b<=β a/\∀c<b,oa c (a.getD c 0)=ζ) (λb=>β a - b) 0 ?_ ?_
 .refine aa ?_;simp
 rintro b _⟨rfl,y,h⟩z;refine aa ?_;refine ay (λp=>?_) λp=>?_
 .have r:oa b (a.getD b 0)=κ->ob a=false:=λk=>by rw[ob,r9 ε k];rfl
  repeat' first|refine ay (λ_=>?_) λ_=>?_|trivial
  all_goals first
   |omega
   |(rw[r (by rw[oa];exact nS)])
   |exact⟨b+1,⟨ε,upto h (by rw[oa];exact nS)⟩,rfl,ε⟩
 have C:ob a=(decide (0<β a)&&decide (β a<17)):=by rw[ob,ra λc k=>h c ε];rfl
 repeat' first|refine ay (λ_=>?_) λ_=>?_|trivial
 all_goals exact aY
def mc(a:List ϊ)(b:Nat):Bool:=ob (a.getD b [])&&(!decide (a.getD b []=[105,100])&&(ψ b).all λc=> !decide (a.getD c []=a.getD b []))
def zr(a:List ϊ):Bool:=(ψ (β a)).all (mc a)
def p6(a:cC):Bool:=ob a.table&&
  (if a.kind.toNat=1 then zr a.aH&&(decide (0<β a.aH)&&(decide (β a.aH<8)&&decide (β a.row=0)))
   else if a.kind.toNat=2 then decide (β a.aH+β a.row=0)
   else(decide (a.kind.toNat=3)||decide (a.kind.toNat=4))&&(decide (β a.aH=0)&&(decide (1<β a.row)&&decide (β a.row<9))))
theorem a2b(f:cX)(D:f.d.Fit)(h:U):
  AC δ 35 [f.V] h λE F=>F=h/\E=.v (.bool (p6 f.d)):=by
 obtain⟨⟨r,k,b,o⟩,G,L⟩:=f;obtain⟨x,P,y,S⟩:=D
 dsimp only at x P y S|-
 have l:=mb (a:=b);have m:=bn (n:=o);show AC _ _ [.agg [.v (.int .u8 r.toNat),bm k,.J (bX b) G,.J (ab o) L]] h _;refine aM hm Nf ?_;refine bg λn q=>?_;refine aP (Gi k _ x) ?_;refine ay (λT=>?_) λT=>?_
 .rw[p6];exact aY
 refine ay (λV=>?_) λV=>?_
 .have s:zr b=(ψ (β b)).all (mc b):=rfl;have t:=@vA b;have u:∀p,ju .eql (bm p) (.v (.string ⟨#[105,100]⟩))=γ (.v (.bool (decide (p=[105,100])))):=λp=>r6;have W:∀a,a<β b->(b.getD a []).length<=1000000:=λa e=>y _ (by simp_all);refine fO [1] (λa:Nat=>[(3,.v (.int .i64 a))]) (λa=>a<=β b/\∀d<a,mc b d=ζ) (λa=>β b - a) 0 ⟨ε,λd z=>by omega⟩ (aK) ?_;rintro a⟨e,g⟩i;refine aa ?_;refine ay (λc2=>?_) λc2=>?_
  .have C:mc b a=κ->p6 ⟨r,k,b,o⟩=false:=λz=>by grind[p6,r9]
   refine aP (Gi _ _ (W a ε)) ?_
   repeat' first|refine ay (λ_=>?_) λ_=>?_|trivial
   .exact aN (C (by rw[mc];simp_all)).symm
   .refine fO [1,3] (λc:Nat=>[(4,.v (.int .i64 c))]) (λc=>c<=a/\∀d<c,b.getD d []≠b.getD a []) (λc=>a - c) 0 ⟨ε,λd z=>by omega⟩ (aK) ?_;rintro c⟨v,j⟩i;refine aa ?_;refine ay (λaD=>?_) λaD=>?_
    .refine ay (λaL=>?_) λaL=>?_;grind[aN,mc,r9]
     .exact⟨c+1,⟨ε,upto j aL⟩,rfl,ε⟩
    .refine⟨a+1,⟨ε,upto g ?_⟩,rfl,ε⟩;grind[mc,ra]
   .exact aN (C (by rw[mc];simp_all)).symm
  repeat' first|refine ay (λ_=>?_) λ_=>?_|trivial
  all_goals grind[p6,ra,aY]
 repeat' first|refine ay (λ_=>?_) λ_=>?_|trivial
 all_goals (rw[p6];exact aY)
end Go.Proofs.YtgchlmdfldnhnaaGreat
namespace Go.bw
open Go
end Go.bw
namespace Go.Proofs.YtgchlmdfldnhnaaGreat
open Go Go.bw
structure zs where
 o:iQ
 st:Int
 yu:Bool
 a:iQ
 b:iQ
def zs.ok(a:zs):Prop:=a.o.ok/\a.a.ok/\a.b.ok
section
variable{F:zs}(h:F.ok)
include h
end
structure aT where
 name:ϊ
 aH:List ϊ
 bK:aj
 c9:aj
 deriving DecidableEq
instance:Inhabited aT:=⟨⟨[],[],aG,aG⟩⟩
structure eJ(t:aT)(T:ύ):Prop where
 e:∃gP ff dK a oc od b,T=bm t.name::.J (bX t.aH) gP::(ag t.bK ff dK a++ag t.c9 oc od b)
 k:β t.bK.sum=32/\t.bK.cL
 z:β t.c9.sum=32/\t.c9.cL
 c:β t.aH<=1000000
def gj(a:aT)(b:R):Prop:=∃T,b=.agg T/\eJ a T
variable{j B b7:ύ}{h8:aT}
theorem eJ.all(r:eJ h8 j):β j=76/\j.take 76=j/\aX κ 1 j=bm h8.name/\∃k a b c d f h,aX κ 1 (j.drop 1)=.J (bX h8.aH) k/\(j.drop 2).take 37=ag h8.bK a b c/\(j.drop 39).take 37=ag h8.c9 d f h:=by obtain⟨⟨k,a,b,c,d,f,h,rfl⟩,⟨x,_⟩,⟨y,_⟩,_⟩:=r;have o:=(aV (a7:=a) (h5:=b) (j1:=c) x).len;have p:=(aV (a7:=d) (h5:=f) (j1:=h) y).len;refine⟨by simp[o,p],a7x (by simp[o,p]),rfl,k,a,b,c,d,f,h,rfl,?_,?_⟩;simp_all;grind
variable{g w h7:U}{e i t I b3 e5:Nat}{b0:bq}
def Ext.ek(c:Ext i t g w)(d:g e=η):Ext i t g (w.set e b0):=λb f h k a=>by
 have o:b≠e:=by rintro rfl;rw[d]at a;cases a
 rw[ο _ _ o];exact c b f h k a
def cD(a:Ω×Bool)(b c:aj):bO:=⟨1,[a],[b,c]⟩
def vB(f:U)(h k:Nat)(o:af)(S:bz f h k o)(c:Ω×Bool)(a b:aj)(T p r x y z C:Own)(d:Nat)(q:1<=d)(s:d<=8)(V:β a.sum=32)(W:β b.sum=32)(t:a.cL)(u:b.cL):
  AC δ 168 [ej h d,.agg [.J (ab c.1) T,.v (.bool c.2)],.agg (ag a p r x),.agg (ag b y z C)] f λe g=>bz g h k (dL o d (cD c a b)).2/\Ext h k f g/\hC (dL o d (cD c a b)).1 e:=by
 have v:=(aV (a7:=p) (h5:=r) (j1:=x) V).all;have w:=(aV (a7:=y) (h5:=z) (j1:=C) W).all;have A:bA a (.agg (ag a p r x)):=⟨V,t,_,_,_,rfl⟩;have B:bA b (.agg (ag b y z C)):=⟨W,u,_,_,_,rfl⟩;generalize ag a p r x=H at*;generalize ag b y z C=I at*;refine aM hm QW ?_;refine bg λc3 X=>?_;refine cy λbS Y Z k2=>?_;refine gz λdB k3 k4 k5 k6 k7=>?_;refine th λeI k8 _ _ _ _ _ _=>?_;refine YY λhX i _ _ _ _ _ _ _ _=>?_;refine Z0 λK k9 _ _ _ _ _ _ _ _ _ _=>?_;refine Z1 λM l0 _ _ _ _ _ _ _ _ _ _ _ _=>?_;generalize D:((((((f.set c3 _).set bS _).set dB _).set eI _).set hX _).set K _).set M _=E;have j:f.sub E:=by subst D;exact aK
 have N:E hX=γ (.cells (ag aG .nil .nil .nil)):=by subst D;rw[<-cB];exact aK
 clear D;have l1:=(aV (a7:=.nil) (h5:=.nil) (j1:=.nil) bo).len;refine ak (yM E h k o (S.mono j) (cD c a b) [.agg [.J (ab c.1) T,.v (.bool c.2)]] [.agg H,.agg I] _ _ d q s ⟨⟨⟨_,rfl⟩,trivial⟩,⟨A,B,trivial⟩,bL.J (by simp[ba,τ]),bL.J (by simp[ba,τ,v.1,w.1]),by simp[cD],by simp[cD]⟩) ?_;rintro e l2⟨O,l,Q⟩;have F:=(S.cI i);have l3:=ω (l hX _ F.1 F.2 N);obtain⟨m,G,L,P,l4,n,rfl⟩:=Q.shape;have l5:=(aV (a7:=G) (h5:=L) (j1:=P) n).all;have l6:putAt (ag aG .nil .nil .nil) 0 (ag m G L P)=ag m G L P:=cT bo n;refine aa ?_;exact⟨_,ι,O.set F,((Γ j).trans l).ek i⟩
def lp(b:af)(c:Nat)(d:aj):Option ((Ω×Bool)×List aj):=
 match di b c d with
 |none=>η
 |some a=>if a.kind=1 then γ (a.rows.headD ([],κ),a.kids)else η
variable{A j6:aj}{c0:bO}{H:af}
theorem Gj(a:di H e A=γ c0):ea e c0=true:=by
 unfold di at a;split at a
 .cases a
 split at a
 .cases a
 rename_i c d b;split at a
 .obtain rfl:=Δ a;unfold nX at b;grind
 .cases a
theorem Gk(b:ea e c0=ζ)(c:c0.kind=1):β c0.rows=1/\β c0.kids=2/\∀a∈c0.kids,β a.key=0:=by simp_all [ea]
def a2c(b c:U)(d:List aj)(f:R):Prop:=∃a,aq b c 37 (flat a) f/\aw bA d a
def zt(d:U)(E i:Nat)(x:af)(v:bz d E i x)(f:aj)(F G L:Own)(j:β f.sum=32)(w:f.cL)(a:Nat)(A:1<=a)(B:a<=8):
  AC δ 119 [ej E a,.agg (ag f F G L)] d λP b=>d.sub b/\match lp x a f with
   |none=>P=.aJ [.agg [.J [] .nil,.v (.bool κ)],.J [] .nil,.v (.int .i64 21)]
   |some (h,bF)=>∃H y,P=.aJ [.agg [.J (ab h.1) H,.v (.bool h.2)],y,.v (.int .i64 0)]/\β bF=2/\a2c d b bF y:=by
 have k6:=(aV (a7:=F) (h5:=G) (j1:=L) j).all;refine aM hm PD ?_;refine bg λc3 k7=>?_;refine cy λbS k8 _ _=>?_;refine gz λdB l _ _ _ _=>?_;generalize S:((d.set c3 _).set bS _).set dB _=T;have k:d.sub T:=by subst S;exact aK
 have o:T dB=γ (.cells [.J [] .nil,.v (.bool κ)]):=by subst S;exact aK
 clear S;refine ak (vj T E i x (v.mono k) f F G L j (λ_=>w) a A B) ?_;rintro P I⟨z,C⟩;have K:=ω (z _ _ o);rw[lp];cases V:di x a f with
 |none=>
  rw[V]at C;obtain rfl:=C;refine aa ?_;refine aR λeI c=>?_;have a:dB≠eI:=by rintro rfl;rw[z _ _ o]at c;cases c
  have M:=Θ a;refine aa ?_;exact ν (π k z) (Ν (π k z) c)
 |some p=>
  rw[V]at C;obtain⟨h,y,rfl,D⟩:=C;refine aa ?_;refine aR λeI c=>?_;have a:dB≠eI:=by rintro rfl;rw[D.sub _ _ o]at c;cases c
  have M:=Θ a;have K:=ω (D.sub _ _ o);have m:=π k D.sub;have W:(p.kind=1)↔(p.kind.toNat:Int)=1:=by rw[<-a8v];show p.kind.toNat=1↔ _;omega
  by_cases r:¬p.kind=1
  .have:=mt W.2 r;exact aK
  have r:=Decidable.not_not.1 r;have k9:=W.1 r;clear W;obtain⟨N,l0,_⟩:=Gk (Gj V) r;obtain⟨l1,l2,O,e,n,q,Q,_⟩:=D;obtain⟨l3,l4,l5⟩:=p
  dsimp only at*
  obtain⟨s,rfl⟩:=a9C.1 N;have X:=(bL.dq e ε rfl (q.cells λ_ _=>dR.cells)).mono n.1;obtain⟨l6,Y,Z,rfl⟩:=q.get (i:=0) rfl;obtain⟨t,u,k2⟩:=X.get 0 _ Y;have k3:=λb g=>k2.ld b g ζ 2 ε (by simp[τ]);have u:cU 2 h (.v (.int .i64 0))=γ t:=u;have k4:∀b,I.sub b->cO ζ 2 b t=γ (.agg [.J (ab s.1) Z,.v (.bool s.2)]):=λb g=>k3 b g;have l7:=k4 _ (ν (b0:=.cells [.v (.int .u8 1),h,y]) ι c);refine aa ?_;refine⟨_,ι,ν (ν m (Ν m c)) l,?_⟩;have k5:=π k e.1;exact⟨_,_,rfl,O,(kj (n.mono (ν ι c)) (e.1 _ _ o)).base (ν k5 l),Q⟩
theorem zu(a c:Ω)(p r:Own)(h:Nat)(o:U)(E:h<β a)(F:β c=β a)(G:β a<=1000000000000):
  AC δ 76 [.J (ab a) p,.J (ab c) r,.v (.int .i64 (h:Int))] o λx y=>y=o/\x=.v (.bool (decide (cM h a c<0))):=by
 have L:=bn (n:=a);have P:=@cP a;have S:=@cP c;have z:∀d f:Int,iC d f=0↔d=f:=λd f=>by unfold iC;omega
 have T:∀d f:Int,iC d f<0↔d<f:=λd f=>by unfold iC;omega
 refine aM hm Ol ?_;refine ay (λC=>?_) λC=>?_;simp_all [cM];have V:cM h a c=gh a c:=by rw[cM,if_pos (by rw[z];omega)]
 refine fO [0,1] (λb:Nat=>[(7,.v (.int .i64 b))]) (λb=>b<=β a/\gh (a.drop b) (c.drop b)=gh a c) (λb=>β a - b) 0 ⟨ε,rfl⟩ aK ?_;rintro b⟨W,k⟩e;refine aa ?_;refine ay (λD=>?_) λD=>?_
 .rw[drop_cons (b:=0) ε,drop_cons (b:=0) (e:=b) ε,gh]at k;refine ay (λc2=>?_) λc2=>?_;grind;grind
 .rw[tK ε,tK ε]at k;exact aN (by rw[<-k];rfl)
def fq(c:Nat)(a:Ω)(d:List Ω):List Ω:=d.takeWhile (λb=>decide (cM c b a<0))++a::d.dropWhile (λb=>decide (cM c b a<0))
def ew(a:Nat)(b:List Ω):List Ω:=b.foldl (λc d=>fq a d c) []
theorem a2d(b:Nat)(c:Ω)(a:List Ω):(fq b c a).length=β a+1:=by have:=congrArg β (a8h (p:=λd=>decide (cM b d c<0)) (l:=a));grind[Ζ,fq,List.length_cons]
variable{Q:List Ω}{n b5:Ω}
theorem zv:n∈fq e b5 Q↔n=b5\/n∈Q:=by have:=congrArg (λQ=>n∈Q) (a8h (p:=λn=>decide (cM e n b5<0)) (l:=Q));simp only[Ψ,eq_iff_iff]at this;grind[fq]
theorem a2e(c:∀a<e,cM i (Q.getD a []) n<0)(b:e<=β Q)(d:e<β Q->¬cM i (Q.getD e []) n<0):fq i n Q=Q.take e++n::Q.drop e:=by
 induction Q generalizing e with
 |nil=>simp at b;subst b;rfl
 |cons f Q ih=>
  cases e with
  |zero=>grind[cM,fq,List.takeWhile_cons,List.dropWhile_cons]
  |succ e=>have k:cM i f n<0:=c 0 ε;have:=ih (λa o=>c (a+1) ε) (by simpa using b) (λh=>d (by simpa using h));simp_all [fq]
theorem a2f(f:List Ω)(l:ύ)(H:Own)(x E:Nat)(W:U)(m:aw isRow f l)(I:∀F∈f,β F=E)(k6:x<E)(k7:E<=8)(k8:β f<=100000):
  AC δ 123 [.J l H,.v (.int .i64 (x:Int))] W λF G=>W.sub G/\∃n K,aw isRow (ew x f) n/\F=.J n K:=by
 have k9:=m.len;refine aM hm PH ?_;refine ck [0,1] (λb:Nat×ύ×Own=>[(6,.v (.int .i64 b.1)),(5,.J b.2.1 b.2.2)]) (λb G=>W.sub G/\b.1<=β f/\∃c,(f.take b.1).foldl (λc r=>fq x r c) []=c/\β c=b.1/\(∀F∈c,β F=E)/\aw isRow c b.2.1) (λb=>β f - b.1) (0,[],.nil) ⟨⟨ι,ε,[],rfl,rfl,σ,trivial⟩,aK⟩ ?_;rintro⟨y,z,bx⟩ M ⟨q,N,c,L,O,Q,o⟩ X
 dsimp only at N L O o|-
 have l0:=o.len;refine aa ?_;refine ay (λY=>?_) λY=>?_
 .have s:f[y]?=γ (f.getD y []):=by simp_all
  obtain⟨_,l1,e,rfl⟩:=m.get s;have l2:=I _ (a7C s);have t:=fX (a:=f) (b:=[]) (e:=y) ε;generalize f.getD y []=r at*;have el:∀a,a<β c->∃D,z[a]?=γ (.J (ab (c.getD a [])) D):=λa S=>by
   obtain⟨_,h,D,rfl⟩:=o.get (i:=a) (x:=c.getD a []) (by simp_all);exact⟨D,h⟩
  have Z:∀a,a<β c->(c.getD a []).length=E:=λa S=>Q _ (by simp_all);refine ck [0,1,5,6] (λb:Nat×ύ×Own=>[(8,.v (.int .i64 b.1)),(7,.J b.2.1 b.2.2)]) (λb G=>b.1<=β c/\(∀u<b.1,cM x (c.getD u []) r<0)/\aw isRow (c.take b.1) b.2.1/\bk M G 1 b.2.1 b.2.2) (λb=>β c - b.1) (0,[],.nil) ⟨⟨ε,λu d=>by simp at d,trivial,bk.nil ι⟩,aK⟩ ?_;rintro⟨a,T,on⟩ l3 ⟨S,v,p,V⟩ X
  dsimp only at S v p V|-
  have l4:β T=a:=by rw[p.len,a7z];omega
  have w:¬(a<β c/\cM x (c.getD a []) r<0)->fq x r c=c.take a++r::c.drop a:=λd=>a2e v S λk2 C=>d ⟨k2,C⟩;by_cases jK:(a)<(y:Int)
  .obtain⟨D,l5⟩:=el a ε;have l6:=Z a ε;have k3:=fX (a:=c) (b:=[]) (e:=a) ε;generalize l7:c.getD a []=b at*;refine aa ?_;refine aP (zu b r D e x _ ε ε ε) ?_;refine ay (λc2=>?_) λc2=>?_
   .refine kR (λA P=>?_);refine ef (V.mono (ν ι P)) (p.cells λ_ _=>ρ) (λh k=>by rw[a7H]at k;subst k;rfl) Ι Ι λg B C=>?_;refine aa ?_;refine⟨(a+1,T++[.J (ab b) D],g),⟨by simp only;omega,?_,?_,C⟩,⟨rfl,rfl⟩,by simp only;omega⟩;grind
    .simp only[k3];exact p.snoc ⟨_,rfl⟩
   .have h:=w ε;refine kR (λA P=>?_);refine ef (V.mono (ν ι P)) (p.cells λ_ _=>ρ) (λh k=>by rw[a7H]at k;subst k;rfl) Ι Ι λg B C=>?_;have k4:dU 1 (.J z bx) (γ (.v (.int .i64 (a)))) η=γ (.J (z.drop a) .any):=nR ε (o.cells λ_ _=>ρ);refine aa ?_;refine ef C (λh k=>by rcases Ψ.1 k with d|d;exact p.cells (λ_ _=>ρ) h d;rw[a7H]at d;subst d;rfl) ((o.drop a).cells λ_ _=>ρ) Ι Ι λi k5 j=>?_;refine aa ?_;refine⟨(y+1,T++[.J (ab r) e]++z.drop a,i),⟨π q j.sub,by simp only;omega,_,rfl,?_,?_,?_⟩,⟨rfl,rfl⟩,by simp only;omega⟩;grind;grind
    .simp only[t,a9z,L,a8j,aa2,h];rw[aa5];exact(p.snoc ⟨_,rfl⟩).append (o.drop a)
  .have h:=w ε;refine aa ?_;refine kR (λA P=>?_);refine ef (V.mono (ν ι P)) (p.cells λ_ _=>ρ) (λh k=>by rw[a7H]at k;subst k;rfl) Ι Ι λg B C=>?_;have k4:dU 1 (.J z bx) (γ (.v (.int .i64 (a)))) η=γ (.J (z.drop a) .any):=nR ε (o.cells λ_ _=>ρ);refine aa ?_;refine ef C (λh k=>by rcases Ψ.1 k with d|d;exact p.cells (λ_ _=>ρ) h d;rw[a7H]at d;subst d;rfl) ((o.drop a).cells λ_ _=>ρ) Ι Ι λi k5 j=>?_;refine aa ?_;refine⟨(y+1,T++[.J (ab r) e]++z.drop a,i),⟨π q j.sub,by simp only;omega,_,rfl,?_,?_,?_⟩,⟨rfl,rfl⟩,by simp only;omega⟩;grind;grind
   .simp only[t,a9z,L,a8j,aa2,h];rw[aa5];exact(p.snoc ⟨_,rfl⟩).append (o.drop a)
 .obtain rfl:y=β f:=ε;rw[a8c]at L;exact⟨z,bx,by rw[ew,L];exact o,rfl⟩
inductive aF where
 |nil
 |node (r:Ω) (live:Bool) (a b:aF)
def en(a:U):aF->R->Prop
 |.nil,b=>b=.v (.pointer η)
 |.node h live k o,b=>∃c p d f,b=.ptr c 0/\a c=γ (.cells [.J (ab h) p,.v (.bool live),d,f])/\en a k d/\en a o f
def en.mono{b c:U}(a:b.sub c):∀ {d:aF}{f:R},en b d f->en c d f
 |.nil,_,h=>h
 |.node _ _ _ _,_,⟨k,o,p,r,h1,x,y,z⟩=>⟨k,o,p,r,h1,a _ _ x,y.mono a,z.mono a⟩
theorem en.cells{b:U}:∀ {c:aF}{a:R},en b c a->a.cells=[a]
 |.nil,_,rfl=>rfl
 |.node _ _ _ _,_,⟨_,_,_,_,rfl,_⟩=>rfl
def _root_.Go.bw.U.part(b c d:U):U:=λa=>if c a=η\/d a≠η then b a else η
def Gl:U:=λ_=>η
theorem rK:(g.part w h7).sub g:=λa b c=>by
 grind[U.part]
def Gm{c d:U}(f:g.sub w)(h:h7.sub c):(h7.part w d).sub (c.part g d):=λk o a=>by
 rw[U.part]at a|-;split at a
 .rename_i b;rw[if_pos (b.imp_left λb=>Ν f b)];exact h _ _ a
 .cases a
def a2g{c:U}(b:g.sub w):(h7.part w Gl).sub (h7.part g c):=λf h a=>by
 rw[U.part]at a|-;split at a
 .rename_i d;rw[if_pos (.inl (Ν b (d.resolve_right λb=>b rfl)))];exact a
 .cases a
def qh(b:g.sub w):g.sub (w.part h7 g):=λc d a=>by rw[U.part,if_pos (.inr (by rw[a];simp))];exact b _ _ a
theorem vC(a:g e=η):w.part g h7 e=w e:=if_pos (.inl a)
def aF.size:aF->Nat
 |.nil=>0
 |.node _ _ a b=>1+a.size+b.size
def aF.all:aF->List Ω
 |.nil=>[]
 |.node a live b c=>b.all++c.all++(if live=ζ then [a]else [])
def rL:∀(c:aF)(b:R)(a:U),en a c b->c.size<=1000000->AC δ 70 [b] a λd f=>f=a/\d=.v (.int .i64 (c.size:Int))
 |.nil,b,a,h,_=>by
  obtain rfl:b=.v (.pointer η):=h;refine aM hm CB ?_;trivial
 |.node d live k o,b,a,⟨D,E,p,r,h1,x,y,z⟩,C=>by
  subst h1;have F:=μ x;simp only[aF.size]at C;refine aM hm CB ?_;refine aP (rL k p a y ε) ?_;refine aP (rL o r a z ε) ?_;rfl
def me:∀a:aF,β a.all<=a.size
 |.nil=>by trivial
 |.node d live b c=>by
  have:=me b;have:=me c;simp only[aF.all,aF.size,Ρ];split<;>simp<;>omega
def tM:∀(p:aF)(b:R)(a:U),en a p b->p.size<=1000000->AC δ 69 [b] a λy F=>∃r h,bk a F 1 r h/\aw isRow p.all r/\y=.J r h
 |.nil,b,a,G,_=>by
  obtain rfl:b=.v (.pointer η):=G;refine aM hm CA ?_;exact⟨_,ι,[],.nil,bk.nil ι,trivial,rfl⟩
 |.node y live z C,b,a,⟨g,h,L,P,h1,k,c,x⟩,S=>by
  subst h1;have i:=μ k;simp only[aF.size]at S;have j:=me z;have l:=me C;refine aM hm CA ?_;refine ak (tM z L a c ε) ?_;rintro _ T⟨m,n,o,d,rfl⟩;have q:=μ (o.sub _ _ k);refine aa ?_;refine ak (tM C P T (x.mono o.sub) ε) ?_;rintro _ s⟨t,u,D,f,rfl⟩;have v:=μ (D.sub _ _ (o.sub _ _ k));have w:=d.len;have A:=f.len;refine aa ?_;refine ef (o.mono D.sub) (d.cells λ_ _=>ρ) (f.cells λ_ _=>ρ) ε ε λV B c=>?_;have H:=μ (c.sub _ _ k);refine aa ?_;cases live with
  |true=>refine aa ?_;refine kR (λI W=>?_);refine ef (c.mono (ν ι W)) ((d.append f).cells λ_ _=>ρ) (λK E=>by rw[a7H]at E;subst E;rfl) Ι Ι λe M x=>?_;refine aa ?_;exact⟨_,ι,_,e,x,(d.append f).append ⟨⟨h,rfl⟩,trivial⟩,rfl⟩
  |false=>refine aa ?_;exact⟨_,ι,_,V,c,by simpa[aF.all] using d.append f,rfl⟩
def gk(b:Nat):Nat->List Ω->Nat->aF
 |0,_,_=>.nil
 |c+1,a,dep=>if a=[]then .nil else
  .node ((ew (dep%b) a).getD (β a/2) []) ζ (gk b c ((ew (dep%b) a).take (β a/2)) (dep+1)) (gk b c ((ew (dep%b) a).drop (β a/2+1)) (dep+1))
theorem zw{f:Nat}:∀(b a:List Ω),(b.foldl (λh c=>fq f c h) a).length=β a+β b/\∀d,d∈b.foldl (λh c=>fq f c h) a↔d∈a\/d∈b
 |[],a=>by simp
 |c::b,a=>by
  obtain⟨k,o⟩:=zw b (fq f c a);refine⟨by rw[a8j,k,a2d,a7I];omega,λd=>?_⟩;grind[zv]
theorem qi(b:Nat)(a:List Ω):(ew b a).length=β a:=by rw[ew,(zw a []).1];simp
def rM:n∈ew e Q↔n∈Q:=by rw[ew,(zw Q []).2];simp
theorem vD(b:Nat)(D:0<b)(E:b<=8):∀(f:Nat)(a:List Ω)(d:ύ)(h:Own)(dep:Nat)(p:U),aw isRow a d->(∀k∈a,β k=b)->β a<=f->f<=100000->dep+f<=1000000->
  AC δ 71 [.J d h,.v (.int .i64 (dep:Int))] p λk g=>p.sub g/\en (g.part p Gl) (gk b f a dep) k
 |0,a,d,h,dep,p,r,z,v,_,_=>by
  obtain rfl:a=[]:=a7y ε;obtain rfl:d=[]:=a7y r.len;refine aM hm xD ?_;exact⟨_,ι,ι,rfl⟩
 |f+1,a,d,h,dep,p,r,z,v,N,O=>by
  have Q:=r.len;by_cases F:a=[]
  .subst F;obtain rfl:d=[]:=a7y r.len;refine aM hm xD ?_;rw[gk,if_pos rfl];exact⟨_,ι,ι,rfl⟩
  have X:=a8l.2 F;have Y:¬(β a:Int)=0:=ε;obtain⟨_,Z,k2,rfl⟩:=r.get (i:=0) (x:=a.getD 0 []) (by simp_all);have k3:=z (a.getD 0 []) (by simp_all);have k4:=bn (n:=a.getD 0 []);have w:(dep:Int).tmod (b:Int)=((dep%b:Nat)):=rfl;have k5:¬(b:Int)=0:=ε;have A:(β a:Int).tdiv 2=((β a/2:Nat)):=rfl;have k6:∀G h,cU G (.J d h) (.v (.int .i64 0))=fC G d[0]? :=λG h=>pX;refine aM hm xD ?_;refine ak (a2f a d h (dep%b) b p r z (a9w _ D) E ε) ?_;rintro _ B⟨C,x,L,o,rfl⟩;have i:=o.len;rw[qi]at i;have j:=qi (dep%b) a;have P:∀S∈ew (dep%b) a,β S=b:=λS H=>z S (rM.1 H);obtain⟨y,l⟩:∃y,ew (dep%b) a=y:=⟨_,rfl⟩;rw[gk,if_neg F];rw[l]at j P o|-;generalize I:β a/2=c at*;obtain⟨_,k7,m,rfl⟩:=o.get (i:=c) (x:=y.getD c []) (by grind);have k8:dU 1 (.J x L) η (γ (.v (.int .i64 (c))))=γ (.J (x.take c) .any):=by have:=nN (f:=.i64) (d:=L) (b:=(c)) ε ε (o.cells λ_ _=>ρ);trivial
  have k9:dU 1 (.J x L) (γ (.v (.int .i64 ((c)+1)))) η=γ (.J (x.drop (c+1)) .any):=nR (e:=c+1) ε (o.cells λ_ _=>ρ);refine aa ?_;refine ak (vD b D E f (y.take c) (x.take c) .any (dep+1) B (o.take c) (λk T=>P k (a7J T)) (by rw[a7z];omega) ε ε) ?_;rintro n K⟨V,q⟩;refine aa ?_;refine ak (vD b D E f (y.drop (c+1)) (x.drop (c+1)) .any (dep+1) K (o.drop (c+1)) (λk T=>P k (a7U T)) (by rw[a7F];omega) ε ε) ?_;rintro s l0⟨W,t⟩;clear l j i w A I;have l1:=q.cells;have l2:=t.cells;refine aa ?_;refine aR λM u=>?_;refine aa ?_;have e:=ν (b0:=.cells [.J (ab (y.getD c [])) m,.v (.bool ζ),n,s]) ι u;exact⟨_,ι,π C (π V (π W e)),M,m,n,s,rfl,(vC (Ν C (Ν V (Ν W u)))).trans (ξ _ _ _),q.mono (Gm C (π W e)),t.mono (Gm (π C V) e)⟩
end Go.Proofs.YtgchlmdfldnhnaaGreat
namespace Go.bw
open Go
variable{g w h7:U}{v:bf}{m j4:World}
theorem Step.a2h{o:bf}(b:Step v g m o w j4)(p:∀a,g a=η\/∃c,g a=γ (.ro c)):∃r h,j4=Sort.grow (m.drewN r) h:=by
 have d:∀a,a<m.heap.size->j4.heap[a]?=m.heap[a]? :=λa d=>by
  rcases p a with f|⟨c,f⟩
  .exact b.block a d f
  .exact(b.jZ a c d f).1
 have x:=b.os;have y:=b.tape;have k:=b.output;have z:=b.size;refine⟨j4.drawn - m.drawn,j4.heap.extract m.heap.size j4.heap.size,?_⟩;obtain⟨C,D,E,h,F⟩:=m;obtain⟨G,L,P,S,T⟩:=j4;simp only at*;obtain⟨rfl,k⟩:=k;subst x;subst y;simp only[Sort.grow,World.drewN,World.mk.injEq,true_and,and_true];grind
theorem Step.grown{c:bf}(f:Holds c g m)(o:Nat)(os:Array Obj):Step c g m c g (Sort.grow (m.drewN o) os):=by
 have d:∀a,a<m.heap.size->(Sort.grow (m.drewN o) os).heap[a]?=m.heap[a]? :=λa d=>by
  show(m.heap++os)[a]?= _;grind
 exact {holds:=⟨λa h v p=>by rw[<-f.ro a h v p];exact World.cell?_of_block (d a (f.lt p)),λk h r=>(f.dN k h r).kept (.refl c) (d k (f.dN k h r).lt) (λ_ x=>x)⟩,le:=.refl c,os:=rfl,tape:=rfl,output:=⟨rfl,Nat.le_add_right _ _⟩,size:=σ,block:=λa b _=>d a b,eD:=λ_ b=>.inl b,ns:=λ_ _ b=>.inl b,jZ:=λa y b z=>⟨d a b,.inr ⟨y,z⟩⟩}
variable{K:Type}
theorem a2i[Inhabited K](f:K->Value)(b:World)(a:Nat)(c:Array K)(d:Array Value)(h:TypeId)(k:Nat×Nat)(o:b.heap[a]?=γ (.cells d h k))(r:c.size<=d.size):
  Sort.putRow f b a 0 c=b.setRow a (dm d 0 (c.toList.map f)):=by
 unfold Sort.putRow Sort.mapBlock World.setRow;congr 1;apply Array.ext_getElem?;intro p;simp only[Array.getElem?_modify];by_cases hk:a=p
 .subst hk;simp only[if_true,o,a8z,Sort.onCells];congr 2;apply aby
  apply ab3;intro x;simp only[Sort.putCells,dm,a9h,Array.getElem?_mapIdx,a9o,a7T,a7X,a7Q,aaS];grind
 .simp[hk]
variable{j B b7:ύ}{e i t I b3 e5:Nat}{q:Program}
theorem a2j{l0:Shelf.Ren}(a03:Proofs.SlLaysF.n6 q l0)(P:K->R->Prop)(a04:∀a d,P a d->d.one=ζ/\d.cells=[d]){z:List K}
  (Z:g e=γ (.cells j)) (a83:β B=β z) (a05:∀(b:Nat) a d,z[b]?=γ a->B[b]?=γ d->P a d) (a06:β z=i) (l1:j.take i=B) (a84:i<4611686018427387904)
  (S:FuncId) (M:ύ) (l2:w.sub g) (l3:∀c,w c=η\/∃k2,w c=γ (.ro k2)) (r:K->Prop) (a07:∀W∈z,r W) (a08:0<i)
  (x:K->K->Int) (a86:∀a,r a->¬x a a<0) (a88:∀a f C,r a->r f->r C->x a f<0->x f C<0->x a C<0) (a89:∀a f C,r a->r f->r C->¬x a f<0->¬x f C<0->¬x a C<0)
  (a09:∀l4 o,(callFunc S l4).run q o=.ok (.enter S l4) o)
  (a10:∀a f d c,P a d->P f c->r a->r f->AC q S ([d,c]++M) w λW _=>W=.v (.int .i64 (x a f))):
  AC q (l0.f 6) [.ar e i t 1,.bG S [] M] g λW l5=>W=.aJ []/\∃k k3,k3.Perm z/\β k=i/\(∀(b:Nat) a d,k3[b]?=γ a->k[b]?=γ d->P a d)/\List.Pairwise (λd c=>¬x c d<0) k3/\l5=g.set e (.cells (k++j.drop i)):=by
 intro N o y k4 A;have l6:=k4.2 0 _ rfl;have l7:=k4.2 1 _ rfl;have a11:N.size=2:=k4.1;generalize a13:N.getD 0 undef=a90 at l6;generalize a14:N.getD 1 undef=a92 at l7;cases l6 with
 |ar e i t a94 a95 a96=>
 cases l7 with
 |bG a97 ws p7 cR a98 hw a99 a15 a16=>
 obtain rfl:ws=#[]:=aaN hw;have ai:N=#[.slice (γ ⟨e,0,η⟩) i t,.func (.func S) #[] p7]:=by
  apply Array.ext
  .exact a11
  .intro b F G
   match b,F with
   |0,F=>rw[<-a13];simp_all
   |1,F=>rw[<-a14];simp_all
   |b+2,F=>omega
 rw[ai];obtain⟨b00,l,T,k5,l8,a18⟩:=A.dN e _ Z;have b01:i<=β j:=by grind
 have b02:=l8.1
 let V:= {L:Value×K//(∃d,P L.2 d/\aW y L.1 d)/\r L.2};have l9:∀b (m:b<i),∃a:V,a.1.1=l[b]'ε/\a.1.2=z[b]'ε:=λb m=>by
  have F:j[b]?=γ (B[b]'ε):=by grind
  have G:=l8.2 b _ F;have H:l.getD b undef=l[b]'ε:=by simp[show b<l.size by omega]
  rw[H]at G;exact⟨⟨(l[b]'ε,z[b]'ε),⟨_,a05 b _ _ (Τ _) (Τ _),G⟩,a07 _ (a8b _)⟩,rfl,rfl⟩
 haveI:Inhabited V:=⟨(l9 0 a08).choose⟩
 obtain⟨D,n0,b03⟩:∃D:Array V,D.size=i/\∀b (m:b<i) (a19),D[b].1.1=l[b]'ε/\D[b].1.2=z[b]'ε:=
  ⟨Array.ofFn λb=>(l9 b b.2).choose,σ,λb m a19=>by grind[Array.getElem_ofFn]⟩
 let h:V->Value:=λa=>a.1.1;have F:Proofs.OneCell h:=λa=>by
  obtain⟨⟨d,G,H⟩,_⟩:=a.2;exact H.oA (a04 _ _ G).1
 have a27:Sort.Holds h o e 0 D:=λp k6=>by
  have b04:p<i:=ε;rw[getElem!_pos D p k6];constructor
  .simp only[World.cell?,k5,a7X,a9t,a8x,if_false];grind
  .simp[World.frozen?,k5]
 have a29:=(a8L.1 k5).1
 let k7:V->V->Int:=λa f=>x a.1.2 f.1.2;have a30:Proofs.CmpLays1 q S p7 h k7 e 0 D.size o:=λn2 n n3 b05 a f=>by
  have n4:∀c,c<o.heap.size->c≠e->(Proofs.sortWorld h o e 0 n2 n3 n).heap[c]?=o.heap[c]? :=λc O Q=>by
   show(((o.heap.modify e _)++n)[c]?)= _;grind
  have a34:Holds y w (Proofs.sortWorld h o e 0 n2 n3 n):=⟨λc k8 v s=>by
   have Q:c≠e:=by rintro rfl;rw[a18]at s;cases s
   rw[<-A.ro c k8 v s];exact World.cell?_of_block (n4 c (A.lt s) Q),λc k8 O=>by
   have Q:c≠e:=by
    rintro rfl;rcases l3 c with I|⟨k2,I⟩
    .rw[I]at O;cases O
    .have:=l2 _ _ I;rw[Z]at this;cases this
   have G:=A.dN c k8 (l2 _ _ O);exact G.kept (.refl y) (n4 c G.lt Q) λ_ m=>m⟩
  obtain⟨⟨d,aM,a36⟩,a38⟩:=a.2;obtain⟨⟨c,a42,a43⟩,a47⟩:=f.2;have a48:bp y (#[h a,h f]++p7) ([d,c]++M):=⟨by simp[a15];omega,λp X u=>by
   match p,u with
   |0,u=>obtain rfl:=Δ u;rw[show(#[h a,h f]++p7).getD 0 undef=h a by rw[a8s,aav σ];rfl];exact a36
   |1,u=>obtain rfl:=Δ u;rw[show(#[h a,h f]++p7).getD 1 undef=h f by rw[a8s,aav σ];rfl];exact a43
   |p+2,u=>
    have H:M[p]?=γ X:=by trivial
    have k6:p<p7.size:=by grind
    have b06:=a16 p X H;simp_all [a8s,Array.getElem?_append_right]⟩
  refine(a10 _ _ d c aM a42 a38 a47 _ _ y a48 a34).mono ?_;rintro a52 a56⟨v,W,b07,l5,rfl,Y,s,rfl⟩;refine⟨by rw[s.dy],Y.a2h l3⟩
 have a57:Sort.SWO (Proofs.ltOf k7):=⟨λa=>by simp only[Proofs.ltOf];grind,λa f C=>by simp only[Proofs.ltOf,decide_eq_true_eq];grind,λa f C=>by grind[Proofs.ltOf,decide_eq_false_iff_not]⟩;have n5:=Proofs.Any.slices_SortFunc a03 h F k7 a57 S p7 e 0 t D o a09 a30 a27 a29 ε;rw[n0]at n5;refine n5.mono ?_;rintro a52 a56⟨rfl,E,L,n,⟨b08,_,n9⟩,a61,rfl⟩;have a00:E.size=i:=ε;rw[aaY ε,aaY ε]at n9
 let k:ύ:=E.toList.map λa=>a.2.1.choose;have b09:∀a:V,P a.1.2 a.2.1.choose/\aW y a.1.1 a.2.1.choose:=λa=>a.2.1.choose_spec;have a62:bp y (E.toList.map h).toArray k:=bp.ee.2 ⟨by simp[k],λp b10 X a01 a63=>by
  simp only[a7Z,k]at a01 a63;cases k9:E.toList[p]? with
  |none=>simp[k9]at a01
  |some a=>grind⟩
 obtain⟨a65,b11,b12,b13,Y⟩:=Step.store A Z 0 k _ a62 (λk2 l1=>by
  obtain⟨a,_,rfl⟩:=a7M.1 l1;grind) (by simp[k];omega)
 have a68:Sort.putRow h (Sort.ahead o L) e 0 E=Sort.ahead (o.setRow e (dm a65 0 (E.toList.map h))) L:=by grind[Sort.putRow_ahead,a2i]
 have a69:=Y.trans (Step.grown Y.holds L n);refine⟨_,.aJ [],y,g.set e (.cells (k++j.drop i)),rfl,?_,.aJ #[] [] rfl (λp X I=>by simp at I),rfl,k,E.toList.map (λa=>a.1.2),?_,by simp[k,a00],?_,?_,rfl⟩
 .have a71:putAt j 0 k=k++j.drop i:=by simp[putAt,k,a00]
  rw[<-a71];show Step y g o y _ (Sort.grow (Sort.putRow h (Sort.ahead o L) e 0 E) n);rw[a68];exact a69
 .have a73:z=D.toList.map (λa=>a.1.2):=by
   apply abc
   .simp[a06,n0]
   simp_all
  rw[a73];exact n9.map _
 .intro b a d a02 a74;simp only[a7Z,k]at a02 a74;cases k9:E.toList[b]? with
  |none=>simp[k9]at a02
  |some f=>grind
 .rw[aa0,a8W];intro b p m k6 a81;have:=a61 b p (a7Y _) a81 (by simp_all);grind[Array.length_toList,Proofs.ltOf]
end Go.bw
namespace Go.Proofs
open Go.Shelf
def Tryz.a2k:Go.Shelf.Ren:=⟨λ|6=>64|15=>121|14=>120|28=>198|29=>199|20=>190|21=>191|22=>192|23=>193|24=>194|25=>195|26=>196|27=>197|46=>256|47=>257|48=>258|49=>259|50=>260|57=>288|a=>a,λ|22=>37|24=>24|25=>144|3=>3|39=>176|0=>0|53=>238|55=>108|4=>4|46=>272|45=>271|50=>185|5=>5|9=>9|66=>324|70=>328|76=>344|77=>345|a=>a,λ|a=>a⟩
def Tryz.Gn:Go.Proofs.SlLaysF.n6 δ Tryz.a2k:= {
 mixed:=Φ
 f6:=⟨Tryz.f64.name,Μ,Tryz.func64.trans (congrArg γ Φ)⟩
 f14:=⟨Tryz.f120.name,Μ,Tryz.func120.trans (congrArg γ Φ)⟩
 f15:=Tryz.func121.trans (congrArg γ Φ)
 f20:=⟨Tryz.f190.name,Μ,Tryz.func190.trans (congrArg γ Φ)⟩
 f21:=⟨Tryz.f191.name,Μ,Tryz.func191.trans (congrArg γ Φ)⟩
 f22:=⟨Tryz.f192.name,Μ,Tryz.func192.trans (congrArg γ Φ)⟩
 f23:=⟨Tryz.f193.name,Μ,Tryz.func193.trans (congrArg γ Φ)⟩
 f24:=⟨Tryz.f194.name,Μ,Tryz.func194.trans (congrArg γ Φ)⟩
 f25:=⟨Tryz.f195.name,Μ,Tryz.func195.trans (congrArg γ Φ)⟩
 f26:=⟨Tryz.f196.name,Μ,Tryz.func196.trans (congrArg γ Φ)⟩
 f27:=⟨Tryz.f197.name,Μ,Tryz.func197.trans (congrArg γ Φ)⟩
 f28:=Tryz.func198.trans (congrArg γ Φ)
 f29:=Tryz.func199.trans (congrArg γ Φ)
 f46:=⟨Tryz.f256.name,Μ,Tryz.func256.trans (congrArg γ Φ)⟩
 f47:=Tryz.func257.trans (congrArg γ Φ)
 f48:=Tryz.func258.trans (congrArg γ Φ)
 f49:=⟨Tryz.f259.name,Μ,Tryz.func259.trans (congrArg γ Φ)⟩
 f50:=⟨Tryz.f260.name,Μ,Tryz.func260.trans (congrArg γ Φ)⟩
 f57:=⟨Tryz.f288.name,Μ,Tryz.func288.trans (congrArg γ Φ)⟩
 t0:=Tryz.underlying0
 a0:=Tryz.isAgg0
 z0:=Tryz.sizeOf0
 v0:=Tryz.zeroValue0
 t3:=Tryz.underlying3
 a3:=Tryz.isAgg3
 z3:=Tryz.sizeOf3
 v3:=Tryz.zeroValue3
 t4:=Tryz.underlying4
 a4:=Tryz.isAgg4
 z4:=Tryz.sizeOf4
 v4:=Tryz.zeroValue4
 t5:=Tryz.underlying5
 a5:=Tryz.isAgg5
 z5:=Tryz.sizeOf5
 v5:=Tryz.zeroValue5
 t9:=Tryz.underlying9
 a9:=Tryz.isAgg9
 z9:=Tryz.sizeOf9
 v9:=Tryz.zeroValue9
 t22:=Tryz.underlying37
 a22:=Tryz.isAgg37
 z22:=Tryz.sizeOf37
 v22:=Tryz.zeroValue37
 a24:=Tryz.isAgg24
 z24:=Tryz.sizeOf24
 t25:=Tryz.underlying144
 a25:=Tryz.isAgg144
 z25:=Tryz.sizeOf144
 v25:=Tryz.zeroValue144
 t39:=Tryz.underlying176
 a39:=Tryz.isAgg176
 z39:=Tryz.sizeOf176
 v39:=Tryz.zeroValue176
 t45:=Tryz.underlying271
 a45:=Tryz.isAgg271
 z45:=Tryz.sizeOf271
 v45:=Tryz.zeroValue271
 t46:=Tryz.underlying272
 a46:=Tryz.isAgg272
 z46:=Tryz.sizeOf272
 v46:=Tryz.zeroValue272
 t50:=Tryz.underlying185
 a50:=Tryz.isAgg185
 z50:=Tryz.sizeOf185
 v50:=Tryz.zeroValue185
 t53:=Tryz.underlying238
 a53:=Tryz.isAgg238
 z53:=Tryz.sizeOf238
 v53:=Tryz.zeroValue238
 t55:=Tryz.underlying108
 a55:=Tryz.isAgg108
 z55:=Tryz.sizeOf108
 v55:=Tryz.zeroValue108
 t66:=Tryz.underlying324
 a66:=Tryz.isAgg324
 z66:=Tryz.sizeOf324
 v66:=Tryz.zeroValue324
 t70:=Tryz.underlying328
 a70:=Tryz.isAgg328
 z70:=Tryz.sizeOf328
 v70:=Tryz.zeroValue328
 t76:=Tryz.underlying344
 a76:=Tryz.isAgg344
 z76:=Tryz.sizeOf344
 v76:=Tryz.zeroValue344
 t77:=Tryz.underlying345
 a77:=Tryz.isAgg345
 z77:=Tryz.sizeOf345
 v77:=Tryz.zeroValue345}
end Go.Proofs
namespace Go.Proofs.YtgchlmdfldnhnaaGreat
open Go Go.bw
variable{g w h7:U}
theorem a2l{b c:U}(f:∀a,w a=η->g a=η)(h:∀a,c a≠η->g a=η\/b a≠η):(h7.part w c).sub (h7.part g b):=λa k d=>by
 rw[U.part]at d|-;grind
variable{e i t I b3 e5:Nat}{b0:bq}
def zx(c:g.sub w):(g.set e b0).sub (w.set e b0):=λd f a=>by
 by_cases b:d=e
 .subst b;rw[ξ]at a|-;exact a
 .rw[ο _ _ b]at a|-;exact c _ _ a
theorem zy{d f:U}{k:bq}(o:g.sub w)(p:h7=g.set e k)(h:g e=η):
  (d.part (w.set e b0) ((w.part h7 f).set e b0)).sub (d.part g f):=a2l (λc a=>by
   by_cases b:c=e
   .subst b;exact h
   .rw[ο _ _ b]at a;exact Ν o a) λc a=>by
   by_cases b:c=e
   .subst b;exact .inl h
   .rw[ο _ _ b,U.part]at a;split at a;simp_all [ο]
    .trivial
theorem vE{a:U}(b:g=h7.set e b0)(c:w e=η):a.part g w e=none:=by simp_all [U.part,ξ]
def aF.Ok(a:Nat):aF->Prop
 |.nil=>True
 |.node b _ c d=>β b=a/\c.Ok a/\d.Ok a
theorem aF.Ok.all{c:Nat}:∀ {d:aF},d.Ok c->∀b∈d.all,β b=c
 |.nil,_,b,a=>by trivial
 |.node k live o p,⟨h1,f,h⟩,b,a=>by
  simp only[aF.all,Ψ]at a;rcases a with (a|a)|a
  .exact f.all b a
  .exact h.all b a
  simp_all
def hY(d:Nat)(f:aF)(h:Nat):aF:=
 match f with
 |.nil=>.nil
 |.node c live a b=>if max a.size b.size>2*(aF.node c live a b).size/3+1 then gk d (aF.node c live a b).all.length (aF.node c live a b).all h else .node c live a b
theorem zz(k:Nat)(j:0<k)(l:k<=8)(d:Ω)(f:Bool)(a b:aF)(E:R)(o:Nat)(h p:U)(F:en p (.node d f a b) E)(G:p.sub h)(m:(aF.node d f a b).Ok k)(r:(aF.node d f a b).size<=100000)(k4:o<=100000):
  AC δ 75 [E,.v (.int .i64 (o:Int))] h λx L=>h.sub L/\en (L.part h p) (hY k (.node d f a b) o) x:=by
 have y:=F.mono G;obtain⟨k5,k6,x,n,rfl,q,s,t⟩:=id y;have k7:=μ q;have u:a.size<=100000:=by simp only[aF.size]at r;omega
 have w:b.size<=100000:=by simp only[aF.size]at r;omega
 refine aM hm Oi ?_;refine aP (rL a x h s ε) ?_;refine aP (rL b n h t ε) ?_;have A:=me (aF.node d f a b);have P:=rL _ _ h y ε;rw[hY];have B:=vD k j l (aF.node d f a b).all.length (aF.node d f a b).all;have H:=tM _ _ h y ε;have I:=m.all;generalize aF.node d f a b=K at*;obtain⟨c,S⟩:∃c,K.size=c:=⟨_,rfl⟩;obtain⟨z,T⟩:∃c,a.size=c:=⟨_,rfl⟩;obtain⟨C,V⟩:∃c,b.size=c:=⟨_,rfl⟩;rw[S]at P r A|-;rw[T]at u|-;rw[V]at w|-;clear S T V;have M:(2*(c:Int)).tdiv 3=((2*c/3:Nat)):=by grind
 obtain⟨D,W⟩:∃D,2*c/3=D:=⟨_,rfl⟩;rw[W]at M|-;have N:max (z:Int) (C)=((max z C)):=ε;obtain⟨e,g⟩:∃e,max z C=e:=⟨_,rfl⟩;rw[g]at N|-;have hm:D<=100000:=ε;clear W g;refine aP P ?_;refine ay (λO=>?_) λO=>?_
 .rw[if_pos ε];refine ak H ?_;rintro _ Q⟨X,Y,i,Z,rfl⟩;refine aa ?_;refine ak (B X Y o Q Z I ε ε ε) ?_;rintro v k8⟨k2,k3⟩;refine aa ?_;exact⟨_,ι,π i.sub k2,k3.mono (a2g i.sub)⟩
 .rw[if_neg ε];exact⟨_,ι,ι,F.mono (qh G)⟩
theorem rN(b:Nat):∀(c:Nat)(a:List Ω)(dep:Nat),(gk b c a dep).size<=β a
 |0,_,_=>a7Y _
 |c+1,a,dep=>by
  rw[gk];split
  .exact a7Y _
  .rename_i d;have:=a8l.2 d;have f:=rN b c ((ew (dep%b) a).take (β a/2)) (dep+1);have h:=rN b c ((ew (dep%b) a).drop (β a/2+1)) (dep+1);grind[List.length_take,qi,List.length_drop,aF.size]
theorem zA(b:Nat):∀(d:Nat)(f:List Ω)(dep:Nat),(∀a∈f,β a=b)->(gk b d f dep).Ok b
 |0,_,_,_=>trivial
 |d+1,f,dep,k=>by
  rw[gk];split
  .trivial
  .rename_i o;have:=a8l.2 o;have h:∀a∈ew (dep%b) f,β a=b:=λa c=>k a (rM.1 c);refine⟨?_,zA b d _ _ λa c=>h a (a7J c),zA b d _ _ λa c=>h a (a7U c)⟩;grind[ew,qi,List.getD,List.getElem?_eq_getElem,List.getElem_mem]
theorem a2m(b:Nat)(a:aF)(c:Nat):(hY b a c).size<=a.size:=by
 unfold hY;split
 .trivial
 .split
  .exact a8w (rN _ _ _ _) (me _)
  .omega
variable{b4:aF}
def zB(b:Nat)(a:b4.Ok e):(hY e b4 b).Ok e:=by
 unfold hY;split
 .trivial
 .split
  .exact zA _ _ _ _ a.all
  .exact a
def dc(a:Nat)(b:Ω):aF->Nat->aF×Bool
 |.nil,_=>(.node b ζ .nil .nil,ζ)
 |.node c live d f,dep=>
  if c=b then(hY a (.node c ζ d f) dep,!live)
  else if cM (dep%a) b c<0 then(hY a (.node c live (dc a b d (dep+1)).1 f) dep,(dc a b d (dep+1)).2)
  else(hY a (.node c live d (dc a b f (dep+1)).1) dep,(dc a b f (dep+1)).2)
theorem qj(a:Nat)(b:Ω):∀(c:aF)(dep:Nat),(dc a b c dep).1.size<=c.size+1
 |.nil,_=>Χ _
 |.node h live d f,dep=>by
  have k:=qj a b d (dep+1);have o:=qj a b f (dep+1);grind[dc,Nat.le_trans,a2m,aF.size]
def vF{a:Nat}{b:Ω}(c:β b=a):∀ {p:aF} (dep:Nat),p.Ok a->(dc a b p dep).1.Ok a
 |.nil,_,_=>⟨c,trivial,trivial⟩
 |.node d live f h,dep,⟨h1,k,o⟩=>by
  rw[dc];split
  .exact zB (b4:=.node d ζ f h) _ ⟨h1,k,o⟩
  .split
   .exact zB (b4:=.node d live (dc a b f (dep+1)).1 h) _ ⟨h1,vF c _ k,o⟩
   .exact zB (b4:=.node d live f (dc a b h (dep+1)).1) _ ⟨h1,k,vF c _ o⟩
def zC(a:Nat)(D:0<a)(L:a<=8)(k:Ω)(g:Own)(P:β k=a):∀(S:aF)(T:R)(dep:Nat)(r x:U),en x S T->x.sub r->S.Ok a->S.size+1+dep<=100000->
  AC δ 38 [T,.J (ab k) g,.v (.int .i64 (dep:Int))] r λh H=>r.sub H/\∃d,h=.aJ [d,.v (.bool (dc a k S dep).2)]/\en (H.part r x) (dc a k S dep).1 d
 |.nil,T,dep,r,x,q,y,I,K=>by
  obtain rfl:T=.v (.pointer η):=q;refine aM hm Cs ?_;refine aR λb f=>?_;refine aa ?_;exact⟨_,ι,ν ι f,_,rfl,b,g,_,_,rfl,(vC f).trans (ξ _ _ _),rfl,rfl⟩
 |.node c live E F,T,dep,r,x,q,y,I,K=>by
  obtain⟨M,o,h,d,rfl,N,i,j⟩:=q;have V:=y _ _ N;have O:=i.mono y;have Q:=j.mono y;obtain⟨s,l,m⟩:=id I;have k7:=μ V;have k8:=bn (n:=k);have k9:=O.cells;have l0:=Q.cells;refine aM hm Cs ?_;refine bg λb f=>?_;have X:=ν (b0:=.cells [.J (ab c) o,.v (.bool live),h,d]) ι f;have l1:=μ (X _ _ V);have l2:M≠b:=by rintro rfl;rw[f]at V;cases V
  have z:=Ν y f;obtain⟨n,Y⟩:∃n,n=r.set b (.cells [.J (ab c) o,.v (.bool live),h,d]):=⟨_,rfl⟩;simp only[aF.size]at K;refine aa ?_;refine ak (qe c k _ _ _ ε) ?_;rintro _ _⟨rfl,rfl⟩;refine aa ?_;refine ay (λt=>?_) λt=>?_
  .subst t;have Z:en ((r.part n x).set b (.cells [.J (ab c) o,.v (.bool ζ),h,d])) (.node c ζ E F) (.ptr b 0):=by have p:=ν (b0:=.cells [.J (ab c) o,.v (.bool ζ),h,d]) (qh (h7:=n) y) z;exact⟨b,o,h,d,rfl,ξ _ _ _,i.mono p,j.mono p⟩
   refine ak (zz a D L c ζ E F _ dep _ _ Z (zx rK) ⟨s,l,m⟩ (by simp only[aF.size];omega) ε) ?_;rintro v G⟨p,C⟩;have l3:=μ (p _ _ (ν ι f _ _ V));refine aa ?_;rw[dc,if_pos rfl];exact⟨_,ι,π (ν ι f) p,_,rfl,C.mono (zy ι Y f)⟩
  rw[dc,if_neg t];have l4:(dep:Int).tmod (a:Int)=((dep%a:Nat)):=rfl;refine ak (zu k c _ _ (dep%a) _ (by rw[P];exact a9w _ D) ε ε) ?_;rintro _ _⟨rfl,rfl⟩;refine aa ?_;refine ay (λc2=>?_) λc2=>?_
  .refine ak (zC a D L k g P E h (dep+1) _ x i (ν y z) l ε) ?_;rintro _ G⟨p,v,rfl,C⟩;have u:=p _ _ (ξ _ _ _);have k2:eE G b=γ [.J (ab c) o,.v (.bool live),h,d]:=by simp[eE,u]
   have k3:=C.cells;have W:=π (ν ι f) p;rw[if_pos c2];refine aa ?_;have e:=ν (b0:=.cells [.J (ab c) o,.v (.bool live),v,d]) ι (vE rfl z:G.part (r.set b (.cells [.J (ab c) o,.v (.bool live),h,d])) x b=η);have w:en _ (.node c live (dc a k E (dep+1)).1 F) (.ptr b 0):=⟨b,o,v,d,rfl,ξ _ _ _,C.mono e,j.mono (π (qh (π (ν y z) p)) e)⟩;have k4:=qj a k E (dep+1);refine ak (zz a D L _ _ _ _ _ dep _ _ w (zx rK) ⟨s,vF P _ l,m⟩ (by simp only[aF.size];omega) ε) ?_;rintro k5 k6⟨A,B⟩;refine aa ?_;exact⟨_,ι,π (ν W f) A,_,rfl,B.mono (zy W rfl f)⟩
  .refine ak (zC a D L k g P F d (dep+1) _ x j (ν y z) m ε) ?_;rintro _ G⟨p,v,rfl,C⟩;have u:=p _ _ (ξ _ _ _);have k2:eE G b=γ [.J (ab c) o,.v (.bool live),h,d]:=by simp[eE,u]
   have k3:=C.cells;have W:=π (ν ι f) p;rw[if_neg c2];refine aa ?_;have e:=ν (b0:=.cells [.J (ab c) o,.v (.bool live),h,v]) ι (vE rfl z:G.part (r.set b (.cells [.J (ab c) o,.v (.bool live),h,d])) x b=η);have w:en _ (.node c live E (dc a k F (dep+1)).1) (.ptr b 0):=⟨b,o,h,v,rfl,ξ _ _ _,i.mono (π (qh (π (ν y z) p)) e),C.mono e⟩;have k4:=qj a k F (dep+1);refine ak (zz a D L _ _ _ _ _ dep _ _ w (zx rK) ⟨s,l,vF P _ m⟩ (by simp only[aF.size];omega) ε) ?_;rintro k5 k6⟨A,B⟩;refine aa ?_;exact⟨_,ι,π (ν W f) A,_,rfl,B.mono (zy W rfl f)⟩
theorem vG{a:U}{b:bq}(d:w=g.set e b)(f:g e=η):((h7.part w a).set e b0).sub ((h7.set e b0).part g a):=λc h k=>by
 by_cases o:c=e;grind[ξ,vC];simp_all [ο,U.part]
def cp(b:Nat)(a:Ω):aF->Nat->aF×Bool
 |.nil,_=>(.nil,κ)
 |.node c live d f,dep=>
  if c=a then(.node c κ d f,live)
  else if cM (dep%b) a c<0 then(.node c live (cp b a d (dep+1)).1 f,(cp b a d (dep+1)).2)
  else(.node c live d (cp b a f (dep+1)).1,(cp b a f (dep+1)).2)
theorem qk(a:Nat)(b:Ω):∀(c:aF)(dep:Nat),(cp a b c dep).1.size=c.size
 |.nil,_=>rfl
 |.node h live d f,dep=>by
  have k:=qk a b d (dep+1);have o:=qk a b f (dep+1);grind[cp,aF.size]
def zD{a:Nat}{f:Ω}:∀ {b:aF} (dep:Nat),b.Ok a->(cp a f b dep).1.Ok a
 |.nil,_,_=>trivial
 |.node h live k o,dep,⟨h1,c,d⟩=>by
  rw[cp];split
  .trivial
  .split
   .exact⟨h1,zD _ c,d⟩
   .exact⟨h1,c,zD _ d⟩
def zE(b:Nat)(T:0<b)(s:b<=8)(o:Ω)(V:Own)(W:β o=b):∀(C:aF)(D:R)(dep:Nat)(x y:U),en y C D->y.sub x->C.Ok b->C.size+1+dep<=1000000->
  AC δ 68 [D,.J (ab o) V,.v (.int .i64 (dep:Int))] x λc t=>x.sub t/\∃a,c=.aJ [a,.v (.bool (cp b o C dep).2)]/\en (t.part x y) (cp b o C dep).1 a
 |.nil,D,dep,x,y,e,p,u,w=>by
  obtain rfl:D=.v (.pointer η):=e;refine aM hm Cz ?_;exact⟨_,ι,ι,_,rfl,rfl⟩
 |.node d live g i,D,dep,x,y,e,p,u,w=>by
  obtain⟨B,k,c,a,rfl,H,L,P⟩:=e;have S:=p _ _ H;have I:=L.mono p;have K:=P.mono p;obtain⟨Y,M,N⟩:=id u;have Z:=μ S;have k2:=bn (n:=o);have k3:=I.cells;have k4:=K.cells;refine aM hm Cz ?_;refine bg λf h=>?_;have O:=ν (b0:=.cells [.J (ab d) k,.v (.bool live),c,a]) ι h;have k5:=μ (O _ _ S);have k6:B≠f:=by rintro rfl;rw[h]at S;cases S
  have z:=Ν p h;obtain⟨j,A⟩:∃j,j=x.set f (.cells [.J (ab d) k,.v (.bool live),c,a]):=⟨_,rfl⟩;simp only[aF.size]at w;refine aa ?_;refine ak (qe d o _ _ _ ε) ?_;rintro _ _⟨rfl,rfl⟩;refine aa ?_;refine ay (λl=>?_) λl=>?_
  .subst l;rw[cp,if_pos rfl];have r:=ν (b0:=.cells [.J (ab d) k,.v (.bool κ),c,a]) (qh (h7:=j) p) z;exact⟨_,ι,ν ι h,_,rfl,f,k,c,a,rfl,(vC h).trans (ξ _ _ _),L.mono (π r (vG A h)),P.mono (π r (vG A h))⟩
  rw[cp,if_neg l];have k7:(dep:Int).tmod (b:Int)=((dep%b:Nat)):=rfl;refine ak (zu o d _ _ (dep%b) _ (by rw[W];exact a9w _ T) ε ε) ?_;rintro _ _⟨rfl,rfl⟩;refine aa ?_;refine ay (λc2=>?_) λc2=>?_
  .refine ak (zE b T s o V W g c (dep+1) _ y L (ν p z) M ε) ?_;rintro _ E⟨r,v,rfl,F⟩;have m:=r _ _ (ξ _ _ _);have Q:eE E f=γ [.J (ab d) k,.v (.bool live),c,a]:=by simp[eE,m]
   have X:=F.cells;have n:=π (ν ι h) r;rw[if_pos c2];refine aa ?_;have G:=ν (b0:=.cells [.J (ab d) k,.v (.bool live),v,a]) ι (vE rfl z:E.part (x.set f (.cells [.J (ab d) k,.v (.bool live),c,a])) y f=η);have q:en _ (.node d live (cp b o g (dep+1)).1 i) (.ptr f 0):=⟨f,k,v,a,rfl,ξ _ _ _,F.mono G,P.mono (π (qh (π (ν p z) r)) G)⟩;exact⟨_,ι,ν n h,_,rfl,q.mono (vG rfl h)⟩
  .refine ak (zE b T s o V W i a (dep+1) _ y P (ν p z) N ε) ?_;rintro _ E⟨r,v,rfl,F⟩;have m:=r _ _ (ξ _ _ _);have Q:eE E f=γ [.J (ab d) k,.v (.bool live),c,a]:=by simp[eE,m]
   have X:=F.cells;have n:=π (ν ι h) r;rw[if_neg c2];refine aa ?_;have G:=ν (b0:=.cells [.J (ab d) k,.v (.bool live),c,v]) ι (vE rfl z:E.part (x.set f (.cells [.J (ab d) k,.v (.bool live),c,a])) y f=η);have q:en _ (.node d live g (cp b o i (dep+1)).1) (.ptr f 0):=⟨f,k,c,v,rfl,ξ _ _ _,L.mono (π (qh (π (ν p z) r)) G),F.mono G⟩;exact⟨_,ι,ν n h,_,rfl,q.mono (vG rfl h)⟩
def mf(a:Nat)(b:Ω)(c:aF):aF×Bool:=
 if(cp a b c 0).2=ζ/\2*(cp a b c 0).1.all.length<(cp a b c 0).1.size then(gk a (cp a b c 0).1.all.length (cp a b c 0).1.all 0,ζ)else cp a b c 0
def a2n(a:Nat)(y:0<a)(z:a<=8)(b:Ω)(C:Own)(G:β b=a)(c:aF)(k:R)(h:U)(L:en h c k)(D:c.Ok a)(u:c.size+1<=100000):
  AC δ 36 [k,.J (ab b) C] h λP E=>h.sub E/\∃d,P=.aJ [d,.v (.bool (mf a b c).2)]/\en E (mf a b c).1 d:=by
 refine aM hm Nh ?_;refine ak (zE a y z b C G c k 0 h h L ι D ε) ?_;rintro _ S⟨o,d,rfl,T⟩;have p:=T.mono rK;have V:=zD (f:=b) 0 D;have ch:=qk a b c 0;rw[mf];generalize cp a b c 0=W at*;obtain⟨f,e⟩:=W
 dsimp only at*
 have w:=me f;cases e with
 |false=>refine aa ?_;rw[if_neg σ];exact⟨_,ι,o,d,rfl,p⟩
 |true=>
  refine aa ?_;refine ak (tM f d S p ε) ?_;rintro _ F⟨A,B,r,g,rfl⟩;have x:=p.mono r.sub;have H:=g.len;refine aa ?_;refine aP (rL f d F x ε) ?_;refine ay (λi=>?_) λi=>?_
  .rw[if_pos ⟨rfl,ε⟩];refine ak (tM f d F x ε) ?_;rintro _ j⟨l,m,n,q,rfl⟩;refine aa ?_;refine ak (vD a y z (β f.all) f.all l m 0 j q V.all ε ε ε) ?_;rintro v I⟨s,t⟩;refine aa ?_;exact⟨_,ι,π o (π r.sub (π n.sub s)),v,rfl,t.mono rK⟩
  .rw[if_neg ε];exact⟨_,ι,π o r.sub,d,rfl,x⟩
end Go.Proofs.YtgchlmdfldnhnaaGreat
namespace Go.bw
open Go
end Go.bw
namespace Go.Proofs.YtgchlmdfldnhnaaGreat
open Go Go.bw
structure aT.o0(t:aT):Prop where
 n:β t.name<=16
 c:β t.aH<=7
 cs:∀c∈t.aH,β c<=16
 k:t.bK.o0
 z:t.c9.o0
structure cq where
 kind:UInt8
 fA:Int
 at_:Ω
abbrev cq.V(a:cq)(b:Own):R:=.agg [.v (.int .u8 (a.kind.toNat:Int)),.v (.int .i64 a.fA),.J (ab a.at_) b]
def cq.ok(a:cq)(b:Nat):Bool:=
 decide (1<=b/\b<=8)&&(if a.kind=0 then decide (a.fA=0)&&decide (β a.at_=0)
  else if a.kind=1\/a.kind=2 then(decide (0<a.fA)||decide (a.fA=0)&&decide (a.kind=2))&&decide (a.fA<=(b:Int) - 1)&&decide (β a.at_=0)
  else decide (a.kind=3)&&decide (a.fA=0)&&decide (1<b)&&decide (β a.at_=b - 1))
theorem tN(a:cq)(f:Own)(c:Nat)(d:U)(p:c<=1000000000000)(r:β a.at_<=1000000000000):
  AC δ 25 [a.V f,.v (.int .i64 (c:Int))] d λh k=>k=d/\h=.v (.bool (a.ok c)):=by
 obtain⟨b,x,o⟩:=a
 dsimp only at*
 have y:=bn (n:=o);have z:=fP b 0 ε;have C:=fP b 1 ε;have D:=fP b 2 ε;have E:=fP b 3 ε;refine aM hm MV ?_;refine bg λF G=>?_
 repeat' first|refine ay (λ_=>?_) λ_=>?_|trivial
 all_goals grind[cq.ok,aY,aN]
theorem p8(b:cq)(f:Own)(c:Nat)(d:U)(p:c<=1000000000000)(r:β b.at_<=1000000000000):
  AC δ 81 [b.V f,.v (.int .i64 (c:Int))] d λh k=>k=d/\h=.v (.bool (b.ok c)):=by
 obtain⟨a,x,o⟩:=b
 dsimp only at*
 have y:=bn (n:=o);have z:=fP a 0 ε;have C:=fP a 1 ε;have D:=fP a 2 ε;have E:=fP a 3 ε;refine aM hm Ox ?_;refine bg λF G=>?_
 repeat' first|refine ay (λ_=>?_) λ_=>?_|trivial
 all_goals try first
  |(rw[cq.ok];exact aY)
  |(refine aN ?_;simp only[cq.ok]at*;grind)
 rename_i L P S;obtain rfl:a=2:=a8v.1 (by simp_all);refine aN ?_;rw[a9W];simp[cq.ok,-List.length_eq_zero_iff];omega
abbrev hi(a b:Nat):R:=.agg [.v (.int .u64 (a:Int)),.v (.int .u64 (b:Int))]
def Gp(a c b d:Nat)(f:U):AC δ 98 [hi a c,hi b d] f λh k=>k=f/\h=.v (.bool (decide (a<b\/a=b/\c<d))):=by
 refine aM hm OX ?_;refine bg λo p=>?_;refine cy λr x y z=>?_
 repeat' first|refine ay (λ_=>?_) λ_=>?_|trivial
 all_goals exact aY
def ql(a c b d:Nat):Int:=if a=b/\c=d then 0 else if a<b\/a=b/\c<d then -1 else 1
theorem Gq(a b c d:Nat)(f:U):AC δ 87 [hi a b,hi c d] f λh k=>k=f/\h=.v (.int .i64 (ql a b c d)):=by
 have o:∀a b:Nat,dO [(2,bZ.int IntKind.u64)] [R.v (.int .u64 (a)),R.v (.int .u64 (b))]:=λa b=>by simp[dO,bZ.sq]
 have p:peq (hi a b) (hi c d)=decide ((a:Int)=c/\(b:Int)=d):=by rw[a9W];simp[peq]
 refine aM hm OF ?_;refine bg λr x=>?_;refine cy λy z C D=>?_
 repeat' first|refine ay (λ_=>?_) λ_=>?_|trivial
 all_goals grind[ql]
abbrev eo(a:Ω)(b:Nat):Int:=a.getD b 0
def ed(c d a:Ω):Bool:=cV c d (β a)&&(ψ (β a)).all λb=>decide (eo c b<=eo a b)&&decide (eo a b<=eo d b)
def mg(a b c d:Ω):Bool:=cV a b (β a)&&cV c d (β a)
def gS(b c d f:Ω):Bool:=mg b c d f&&(ψ (β b)).all λa=>decide (eo b a<=eo f a)&&decide (eo d a<=eo c a)
def mh(b c d f:Ω):Bool:=mg b c d f&&(ψ (β b)).all λa=>decide (eo b a<=eo d a)&&decide (eo f a<=eo c a)
def a2o(c:U)(h k:Nat)(d f b:Ω)(o p r:Own)(a:Nat)(z:c.read h=γ [.J (ab d) o,.J (ab f) p])(C:c.read k=γ [.J (ab b) r])(D:a<β d)(E:a<β f)(F:a<β b):
  AC δ 155 [.v (.int .i64 (a:Int)),.ptr h 0,.ptr k 0] c λx y=>y=c/\x=.v (.bool (decide (eo d a<=eo b a)&&decide (eo b a<=eo f a))):=by
 have G:=@cP d;have L:=@cP f;have P:=@cP b;refine aM hm QG ?_
 repeat' first|refine ay (λ_=>?_) λ_=>?_|trivial
 all_goals exact aY
def Gr(f:U)(b c a:Ω)(h k o:Own)(p:β a<=1000000000000):
  AC δ 93 [eL b c h k,.J (ab a) o] f λr x=>x=f/\r=.v (.bool (ed b c a)):=by
 have F:=bn (n:=a);refine aM hm OQ ?_;refine bg λy G=>?_;refine cy λz L P C=>?_;refine aP (mT _ b c _ _ _ p) ?_;refine ay (λd=>?_) λd=>?_
 .obtain⟨S,T,V,W⟩:=kl d;refine aP (va (β a) _ _ _ _ _ p abY λD E=>a2o _ y z b c a h k o D (by simp[U.read,ξ,ο,C]) (by simp[U.read,ξ]) ε ε E) ?_;refine aN ?_;rw[ed,d,a8J]
 .refine aN ?_;rw[ed,d,a8H]
def a2p(b:U)(k o:Nat)(c d f h:Ω)(p r x y:Own)(a:Nat)(D:b.read k=γ [.J (ab c) p,.J (ab d) r])(E:b.read o=γ [.J (ab f) x,.J (ab h) y])(F:a<β c)(G:a<β d)(L:a<β f)(P:a<β h):
  AC δ 204 [.v (.int .i64 (a:Int)),.ptr k 0,.ptr o 0] b λz C=>C=b/\z=.v (.bool (decide (eo c a<=eo h a)&&decide (eo f a<=eo d a))):=by
 have S:=@cP c;have T:=@cP d;have V:=@cP f;have W:=@cP h;refine aM hm RL ?_
 repeat' first|refine ay (λ_=>?_) λ_=>?_|trivial
 all_goals exact aY
def a2q(b:U)(k o:Nat)(c d f h:Ω)(p r x y:Own)(a:Nat)(D:b.read k=γ [.J (ab c) p,.J (ab d) r])(E:b.read o=γ [.J (ab f) x,.J (ab h) y])(F:a<β c)(G:a<β d)(L:a<β f)(P:a<β h):
  AC δ 131 [.v (.int .i64 (a:Int)),.ptr k 0,.ptr o 0] b λz C=>C=b/\z=.v (.bool (decide (eo c a<=eo f a)&&decide (eo h a<=eo d a))):=by
 have S:=@cP c;have T:=@cP d;have V:=@cP f;have W:=@cP h;refine aM hm PZ ?_
 repeat' first|refine ay (λ_=>?_) λ_=>?_|trivial
 all_goals exact aY
def Gs(d:U)(b c a f:Ω)(k o p r:Own)(h:β b<=1000000000000):
  AC δ 130 [eL b c k o,eL a f p r] d λx y=>y=d/\x=.v (.bool (mg b c a f)):=by
 have z:=bn (n:=b);refine aM hm PX ?_;refine bg λC D=>?_;refine cy λE F G L=>?_;refine aP (mT _ b c _ _ _ h) ?_;refine ay (λa=>?_) λa=>?_
 .refine aP (mT _ _ _ _ _ _ h) ?_;refine aN ?_;rw[mg,a,a8J]
 .refine aN ?_;rw[mg,a,a8H]
variable{n b5:Ω}
theorem vH{a b:Ω}(c:mg n b5 a b=ζ):β b5=β n/\β a=β n/\β b=β n/\1<=β n/\β n<=8:=by rw[mg,Κ]at c;obtain⟨d,f⟩:=c;have d:=kl d;grind[kl]
def zF(h:U)(a b c d:Ω)(k o p r:Own)(x:β a<=1000000000000):
  AC δ 132 [eL a b k o,eL c d p r] h λy z=>z=h/\y=.v (.bool (gS a b c d)):=by
 have L:=bn (n:=a);refine aM hm Q1 ?_;refine bg λC P=>?_;refine cy λD S T E=>?_;refine aP (Gs _ a b c d _ _ _ _ x) ?_;refine ay (λf=>?_) λf=>?_
 .obtain⟨V,W,e,g⟩:=vH f;refine aP (va (β a) _ _ _ _ _ x abY λF G=>a2p _ C D a b c d k o p r F (by simp[U.read,ξ,ο,E]) (by simp[U.read,ξ]) G ε ε ε) ?_;refine aN ?_;rw[gS,f,a8J]
 .refine aN ?_;rw[gS,f,a8H]
def Gt(h:U)(a b c d:Ω)(k o p r:Own)(x:β a<=1000000000000):
  AC δ 82 [eL a b k o,eL c d p r] h λy z=>z=h/\y=.v (.bool (mh a b c d)):=by
 have L:=bn (n:=a);refine aM hm Oz ?_;refine bg λC P=>?_;refine cy λD S T E=>?_;refine aP (Gs _ a b c d _ _ _ _ x) ?_;refine ay (λf=>?_) λf=>?_
 .obtain⟨V,W,e,g⟩:=vH f;refine aP (va (β a) _ _ _ _ _ x abY λF G=>a2q _ C D a b c d k o p r F (by simp[U.read,ξ,ο,E]) (by simp[U.read,ξ]) G ε ε ε) ?_;refine aN ?_;rw[mh,f,a8J]
 .refine aN ?_;rw[mh,f,a8H]
def dD(a b c d:Ω):Ω×Ω:=if gS a b c d=ζ then(Β max a c,Β min b d)else([],[])
set_option maxHeartbeats 1000000 in
theorem a2r(z:U)(a c f d:Ω)(m n q s:Own)(D:β a<=1000000000000):
  AC δ 84 [eL a c m n,eL f d q s] z λl8 k=>∃p t,l8=.aJ [.agg [p,t],.v (.bool (gS a c f d))]/\q8 z k (dD a c f d).1 (dD a c f d).2 p t:=by
 have k4:=bn (n:=a);have u:=@cP a;have v:=@cP c;have w:=@cP f;have A:=@cP d;refine aM hm OC ?_;refine bg λB a16=>?_;refine cy λH a18 I l9=>?_;refine gz λE n0 n2 n3 n4 n5=>?_;refine aP (zF _ a c f d _ _ _ _ D) ?_;refine ay (λF=>?_) λF=>?_
 .rw[dD,if_neg (by simp[F])];exact⟨_,ι,_,_,rfl,z,aq.nil ι,aq.nil aK⟩
 .rw[dD,if_pos F];obtain⟨a19,a27,a29,a30,a34⟩:=vH (by rw[gS,Κ]at F;exact F.1);generalize G:((z.set B _).set H _).set E _=L;have V:z.sub L:=by subst G;exact aK
  have K:L B=γ (.cells [.J (ab a) m,.J (ab c) n]):=by subst G;exact aK
  have M:L H=γ (.cells [.J (ab f) q,.J (ab d) s]):=by subst G;exact aK
  have aL:L E=γ (.cells [.J [] .nil,.J [] .nil]):=by subst G;exact aK
  clear G;refine ak (vb L a c _ _ D ε) ?_;rintro _ n9⟨p,t,rfl,a36,a00,a01⟩;obtain⟨r,⟨I,_⟩|⟨W,a02,N,k5,rfl,e,k6,a03,O,P,k7,c3⟩⟩:=a00
  .exfalso;grind
  obtain⟨C,⟨I,_⟩|⟨x,a04,Q,k8,rfl,S,k9,a05,X,T,l0,bS⟩⟩:=a01
  .exfalso;grind
  obtain rfl:a02=β a:=by rw[k4]at P;omega
  obtain rfl:a04=β a:=by rw[bn]at T;omega
  have l1:=C _ _ k6;simp only[a8m]at a03 a05 O X k7 l0;obtain⟨g,rfl⟩:∃Y,k5=ab a++Y:=⟨k5.drop (β a),by rw[<-O,a8d]⟩;obtain⟨i,rfl⟩:∃Y,k8=ab c++Y:=⟨k8.drop (β a),by rw[<-X,a8d]⟩;have h:∀ {l2:U}{b Z:Nat}{j:bq},l2 b=η->l2 Z=γ j->b≠Z/\Z≠b:=λD l=>⟨(by rintro rfl;rw[D]at l;cases l),(by rintro rfl;rw[D]at l;cases l)⟩;have kS:=C _ _ (r _ _ K);have l3:=C _ _ (r _ _ M);have l4:=C _ _ (r _ _ aL);obtain⟨a38,a06⟩:=h S k6;obtain⟨a42,a43⟩:=h e K;obtain⟨a47,a48⟩:=h e M;obtain⟨a07,a52⟩:=h e aL;obtain⟨a56,a57⟩:=h S (r _ _ K);obtain⟨a61,a62⟩:=h S (r _ _ M);obtain⟨a08,a63⟩:=h S (r _ _ aL);have a09:=Ν V e;have a10:=Ν (π V r) S;have k2:=π V (π r C);clear O X P T r C;have a65:∀a c k3 d:Nat,(R.ar a c k3 d).cells=[.ar a c k3 d]:=λ_ _ _ _=>rfl;refine aa ?_;refine aR λa11 y=>?_;obtain⟨a68,a69⟩:=h y kS;obtain⟨a71,a73⟩:=h y l3;obtain⟨a74,a81⟩:=h y l4;obtain⟨a83,a84⟩:=h y l1;obtain⟨Zp,a86⟩:=h y k9;have l5:=Ν k2 y;refine aa ?_;refine ck [2,3,4,6,17] (λb:Nat=>[(18,.v (.int .i64 (b)))]) (λb k=>b<=β a/\z.sub k/\k B=γ (.cells [.J (ab a) m,.J (ab c) n])/\k H=γ (.cells [.J (ab f) q,.J (ab d) s])/\k E=γ (.cells [.J [] .nil,.J [] .nil])/\
      k a11=γ (.cells [.ar W (β a) N 1,.ar x (β a) Q 1])/\k W=γ (.cells (ab (mix max a f b)++g))/\k x=γ (.cells (ab (mix min c d b)++i))) (λb=>β a - b) 0 ⟨⟨a7Y _,ν (ν k2 l5) l5,aK,aK,aK,aK,?_,?_⟩,aK⟩ ?_
  .have a13:mix max a f 0=a:=by rfl
   exact aK
  .have a13:mix min c d 0=c:=by rfl
   exact aK
  clear kS l3 l4 l1 k9 y k4;rintro b k⟨a88,a14,c2,aD,aL,cr,l6,l7⟩a89;have a90:=μ c2;have a92:=μ aD;have a94:=μ cr;have n9:=ω l6;have a95:=ω l7;clear I l9 n2 n3 n4 n5 k2 V;by_cases a96:b<β a
  .have k3:(b)<(β a:Int):=ε;have a97:=u ε;have a98:=v (b:=b) ε;have a99:=w (b:=b) ε;have b00:=A (b:=b) ε;clear u v w A;have b01:=vd ε ε g (v:=max (a.getD b 0) (f.getD b 0)) rfl;have b02:=vd ε ε i (v:=min (c.getD b 0) (d.getD b 0)) rfl;have b03:b+1<=(ab (mix max a f b)++g).length:=by rw[Ρ,bn,vc ε ε];omega
   have b04:b+1<=(ab (mix min c d b)++i).length:=by rw[Ρ,bn,vc ε ε];omega
   generalize a.getD b 0=b05 at*;generalize f.getD b 0=b06 at*;generalize c.getD b 0=a3 at*;generalize d.getD b 0=a4 at*;generalize ab (mix max a f b)++g=b07 at*;generalize ab (mix min c d b)++i=b08 at*;refine aa ?_;grind
  .obtain rfl:b=β a:=ε;clear u v w A;have P:mix max a f (β a)=Β max a f:=by unfold mix;grind
   have T:mix min c d (β a)=Β min c d:=by unfold mix;grind
   have b09:(ab (mix max a f (β a))).length=β a:=by rw[P,bn,aa9];omega
   have b10:(ab (mix min c d (β a))).length=β a:=by rw[T,bn,aa9];omega
   have b11:=ω aL;have b12:¬(β a:Int)<β a:=ε;refine aa ?_;refine⟨_,ι,_,_,rfl,?_⟩;rw[<-P,<-T];refine⟨(k.set E (.cells [.ar W (β a) N 1,.ar x (β a) Q 1])).del x,⟨λp j o=>?_,.inr ⟨W,β a,N,_,rfl,a09,by rw[U.eX _ a06,ο _ _ a07];exact l6,?_,?_,?_,k7,c3⟩⟩,⟨λp j o=>?_,.inr ⟨x,β a,Q,_,rfl,U.iI _ _,by rw[ο _ _ a08];exact l7,?_,?_,?_,l0,bS⟩⟩⟩
   .have h:p≠x:=by rintro rfl;rw[a10]at o;cases o
    have a15:p≠E:=by rintro rfl;rw[n0]at o;cases o
    rw[U.eX _ h,ο _ _ a15];exact a14 p j o
   .rw[Ρ,bn]at*;omega
   simp_all
   .omega
   .have h:p≠x:=by rintro rfl;rw[U.iI]at o;cases o
    rw[U.eX _ h]at o;exact o
   .rw[Ρ,bn]at*;omega
   simp_all
   .omega
def vI(f:U)(a b c d:Ω)(h k o p:Own)(y:β a<=1000000000000):
  AC δ 84 [eL a b h k,eL c d o p] f λr x=>f.sub x/\r=.aJ [eL (dD a b c d).1 (dD a b c d).2 .any .any,.v (.bool (gS a b c d))]:=
 (a2r f a b c d h k o p y).view λr x z=>by
  obtain⟨C,V,rfl,W,D,E⟩:=z;obtain⟨e,F,G⟩:=tv E;have L:=D.mono F;obtain⟨P,S,T⟩:=tv L;exact⟨_,P,View.aJ (a:=[]) ((View.agg (a:=[C]) rfl G).trans (View.agg (a:=[]) rfl T)),S,rfl⟩
abbrev gl:cq:=⟨0,0,[]⟩
def rO(a:Nat):gl.ok a=decide (1<=a/\a<=8):=by simp[cq.ok]
def mi(a:Int):Nat:=(IntKind.u64.wrap ((ς 64 (IntKind.u64.wrap a)^^^ς 64 9223372036854775808).toNat:Int)).toNat
def a2s(a:Int):bj .xor (.int .u64 (IntKind.u64.wrap a)) (.int .u64 9223372036854775808)=γ (.int .u64 (mi a:Int)):=by have b:bj .xor (.int .u64 (IntKind.u64.wrap a)) (.int .u64 9223372036854775808)=γ (.int .u64 (IntKind.u64.wrap ((ς 64 (IntKind.u64.wrap a)^^^ς 64 9223372036854775808).toNat))):=rfl;rw[b,mi,a9g];exact Int.emod_nonneg _ Μ
def vJ(a:Int)(b:U):AC δ 134 [.v (.int .i64 a)] b λc d=>d=b/\c=hi 0 (mi a):=by have f:=a2s a;refine aM hm Q5 ?_;refine bg λh k=>?_;rfl
def hZ(b:0<β n)(a:Own):cU 1 (.J (ab n) a) (.v (.int .i64 0))=γ (.c4 [.v (.int .i64 (n.getD 0 0))]):=by have:=pX (e:=1) (j:=ab n) (a7:=a) (e4:=.i64) (i:=0);rw[cP b]at this;exact this
def zG(a:Ω):R:=if 1<=β a/\β a<=8 then .aJ [hi 0 (mi (a.getD 0 0)),.v (.int .i64 0)]else .aJ [hi 0 0,.v (.int .i64 1)]
def zH(c d:Own)(a:Ω)(b:U)(h:β a<=1000000000000):AC δ 210 [gl.V c,.J (ab a) d] b λk o=>o=b/\k=zG a:=by
 have r:=bn (n:=a);have x:=@cP a;have f:=λb=>p8 gl c (β a) b h σ;simp only[rO]at f;refine aM hm CR ?_;refine bg λy z=>?_;refine cy λC D E F=>?_;refine aP (f _) ?_;rw[zG];refine ay (λp=>?_) λp=>?_
 .rfl
 .have G:=hZ (n:=a) ε d;refine aa ?_;refine aP (vJ _ _) ?_;rfl
def tO(a b:Nat)(f:Int)(c d:Nat)(h:Int):Bool:=if ql a b c d=0 then decide (f<h)else decide (ql a b c d<0)
theorem vK(a b c d:Nat)(f h:Int)(k:U):AC δ 211 [hi a b,.v (.int .i64 f),hi c d,.v (.int .i64 h)] k λo p=>p=k/\o=.v (.bool (tO a b f c d h)):=by
 refine aM hm RW ?_;refine bg λr x=>?_;refine cy λy z C D=>?_;refine aP (Gq _ _ _ _ _) ?_
 repeat' first|refine ay (λ_=>?_) λ_=>?_|trivial
 all_goals simp_all [tO,if_pos,if_neg]
def p9(a:Ω):Prop:=1<=β a/\β a<=8
def zI(a:p9 n):zG n=.aJ [hi 0 (mi (n.getD 0 0)),.v (.int .i64 0)]:=if_pos a
def tP(a b:Ω):Bool:=tO 0 (mi (a.getD 0 0)) (a.getD 0 0) 0 (mi (b.getD 0 0)) (b.getD 0 0)
def Gu(k c d:Own)(a b:Ω)(f:U)(h:p9 a)(x:β b=β a):AC δ 158 [gl.V k,.J (ab a) c,.J (ab b) d] f λo p=>p=f/\o=.v (.bool (tP a b)):=by have y:=bn (n:=a);have z:=bn (n:=b);have C:=@cP a;have D:=@cP b;have r:=id h;obtain⟨E,F⟩:=h;have G:=zI r;have L:=zI (n:=b) ⟨ε,ε⟩;refine aM hm CO ?_;refine bg λP S=>?_;refine aP (zH _ _ a _ ε) ?_;have T:=hZ (n:=a) ε c;have V:=hZ (n:=b) ε d;refine cy λW e g i=>?_;refine aP (zH _ _ b _ ε) ?_;refine gz λj l _ _ _ _=>?_;refine aP (vK _ _ _ _ _ _ _) ?_;rfl
abbrev a2t:=tP
def tQ(a b:Ω):Int:=if tP a b=ζ then -1 else if tP b a=ζ then 1 else 0
theorem a2u(d p r:Own)(a b:Ω)(f:U)(o:Nat)(z:f.read o=γ [.v (.int .u8 0),.v (.int .i64 0),.J (ab []) d])(h:p9 a)(c:β b=β a):AC δ 157 [.J (ab a) p,.J (ab b) r,.ptr o 0] f λx y=>y=f/\x=.v (.int .i64 (tQ a b)):=by
 refine aM hm CN ?_;refine aP (Gu d _ _ a b _ h c) ?_;refine ay (λk=>?_) λk=>?_
 .rw[tQ,if_pos k]
 .refine aP (Gu d _ _ b a _ ⟨by rw[c];exact h.1,by rw[c];exact h.2⟩ c.symm) ?_;refine ay (λc2=>?_) λc2=>?_
  .rw[tQ,if_neg (by simp[k]),if_pos c2]
  simp_all [tQ]
theorem Gv(f c h:Own)(a b:Ω)(d:U)(k:cV a b (β a)=ζ):AC δ 85 [gl.V f,eL a b c h] d λo p=>p=d/\o=.aJ [hi 0 (mi (a.getD 0 0)),.v (.int .i64 (a.getD 0 0)),.v (.int .i64 0)]:=by
 obtain⟨r,x,y,z⟩:=kl k;have C:=bn (n:=a);have D:gl.ok (β a)=true:=by rw[rO];simp_all
 have E:=hZ (n:=a) ε c;refine aM hm CF ?_;refine bg λF G=>?_;refine cy λL P S T=>?_;refine gz λV W e g a3 a4=>?_;refine aP (mT _ a b _ _ _ ε) ?_;refine aP (p8 gl _ _ _ ε σ) ?_;refine aP (vJ _ _) ?_;refine th λi j l m n q s t=>?_;rfl
def a2v(d o p f:Own)(a c b:Ω)(h:U)(k:cV a c (β a)=ζ)(y:β b=β a):AC δ 139 [gl.V d,eL a c o p,.J (ab b) f] h λr x=>x=h/\r=.v (.bool (a2t b a)):=by obtain⟨z,C,D,E⟩:=kl k;have F:=bn (n:=a);have G:=bn (n:=b);have L:=hZ (n:=b) ε f;have P:=zI (n:=b) ⟨ε,ε⟩;refine aM hm CM ?_;refine bg λS T=>?_;refine cy λV W e g=>?_;refine aP (Gv d _ _ a c _ k) ?_;refine gz λi j l m a3 a4=>?_;refine aP (zH _ _ b _ ε) ?_;refine th λn q s t u v w A=>?_;refine aP (vK _ _ _ _ _ _ _) ?_;rfl
def a2w(a:Nat)(h:a<=8)(b:U):AC δ 96 [.v (.int .u64 1),.v (.int .u64 (a:Int))] b λc d=>d=b/\c=.aJ [.v (.int .u64 0),.v (.int .u64 (a:Int))]:=by
 have f:AC δ 160 [.v (.int .u64 1),.v (.int .u64 (a:Int))] b λc d=>d=b/\c=.aJ [.v (.int .u64 0),.v (.int .u64 (a:Int))]:=by
  have k:bj .and (.int .u64 1) (.int .u64 4294967295)=γ (.int .u64 1):=by rfl
  have o:bj .shr (.int .u64 1) (.int .u64 32)=γ (.int .u64 0):=by rfl
  obtain⟨p,r⟩:bj .and (.int .u64 (a)) (.int .u64 4294967295)=γ (.int .u64 (a))/\bj .shr (.int .u64 (a)) (.int .u64 32)=γ (.int .u64 0):=by
   obtain rfl|rfl|rfl|rfl|rfl|rfl|rfl|rfl|rfl:a=0\/a=1\/a=2\/a=3\/a=4\/a=5\/a=6\/a=7\/a=8:=ε
   all_goals exact⟨Φ,Φ⟩
  have x:bj .shr (.int .u64 0) (.int .u64 32)=γ (.int .u64 0):=by rfl
  have y:bj .and (.int .u64 0) (.int .u64 4294967295)=γ (.int .u64 0):=by rfl
  have z:(1)*(a:Int)=a:=Int.one_mul _;have C:(0)*(a:Int)=0:=Int.zero_mul _;exact aM hm QK trivial
 refine aM hm OU ?_;exact aP f trivial
variable{s b8:R}
def a2x:∀ {a:Nat},(θ a [s]).flatten=θ a s
 |0=>rfl
 |a+1=>by simp
theorem Gw(b:Nat)(y:1<=b)(z:b<=8)(d:Int)(p:Own)(f:U):AC δ 49 [.J [.v (.int .i64 d)] p,.v (.int .i64 (b:Int))] f λC o=>aq f o 1 (ab (θ b d)) C:=by
 refine aM hm NA ?_;refine rf ?_;refine aP (a2w b z f) ?_;refine rf ?_;refine Xe ε ε λc r=>?_;rw[a2x];have S:mG 1 (.ar c b b 1) (.J [.v (.int .i64 d)] p) (f.set c (.cells (θ b (.v (.int .i64 0)))))=γ (.v (.int .i64 1),f.set c (.cells (θ 1 (.v (.int .i64 d))++θ (b - 1) (.v (.int .i64 0))))):=by obtain⟨k,rfl⟩:∃k,b=k+1:=⟨b - 1,ε⟩;simp[mG,c8,ξ,υ,flat,τ,putAt]
 refine aa ?_;refine ck [7] (λa:Nat=>[(8,.v (.int .i64 (a)))]) (λa o=>1<=a/\a<=b/\o=f.set c (.cells (θ a (.v (.int .i64 d))++θ (b - a) (.v (.int .i64 0))))) (λa=>b - a) 1 ⟨⟨Χ _,y,rfl⟩,aK⟩ ?_;rintro a _⟨T,D,rfl⟩V;refine aa ?_;refine ay (λE=>?_) λE=>?_
 .have W:cc 1 (.ar c b b 1) (γ (.v (.int .i64 (a)))) η η=γ (.bC c a (b - a) (b - a) 1):=by simp_all [gy]
  have e:cc 1 (.ar c b b 1) η (γ (.v (.int .i64 (a)))) η=γ (.ar c a b 1):=hQ D;generalize x:θ a (R.v (.int .i64 d))++θ (b - a) (.v (.int .i64 0))=h;have F:β h=b:=by subst x;simp;omega
  have G:c8 (f.set c (.cells h)) 1 (.ar c a b 1)=γ (a,θ a (.v (.int .i64 d))):=by have L:(f.set c (.cells h)).read c=γ h:=μ (ξ _ _ _);simp only[c8,L,F,a8m];grind
  have P:=hR (I:=a) (i:=b - a) (e5:=b - a) G (ξ f c (.cells h)) ε;have k:putAt h a ((θ a (R.v (.int .i64 d))).take ((b - a)*1))=θ (a+min a (b - a)) (.v (.int .i64 d))++θ (b -(a+min a (b - a))) (.v (.int .i64 0)):=by subst x;rw[a8m,List.take_replicate,putAt,a9M σ,a9s,Nat.min_comm (b - a) a,<-List.replicate_append_replicate,a9m,a9s,a8k σ,a7T,List.drop_replicate];congr 2;omega
  rw[k,υ]at P;refine aa ?_;exact⟨a+min a (b - a),⟨ε,ε,rfl⟩,by congr 2,ε⟩
 .obtain rfl:a=b:=ε;refine⟨_,ι,ν ι r,.inr ⟨c,a,a,_,rfl,r,ξ _ _ _,?_,?_,?_,Χ _,by unfold maxLen;omega⟩⟩
  .simp
  .simp[ab]
  .simp[ab]
def jc:Int:= -9223372036854775808
def jM:Int:=9223372036854775807
def a2y(a:Nat)(o:1<=a)(p:a<=8)(f:U):AC δ 23 [.v (.int .i64 (a:Int))] f λz C=>∃b c,z=.agg [b,c]/\q8 f C (θ a jc) (θ a jM) b c:=by have G:¬(a:Int)<1:=ε;have L:¬8<(a:Int):=ε;refine aM hm MR ?_;refine bg λr h=>?_;have P:=h;refine YZ λS D T x=>?_;refine DS (Gw a o p jc _ _) λb V k=>?_;have y:=k.1 _ _ ((ο _ _ x).trans (ξ f r (.cells [.J [] .nil,.J [] .nil])));refine kR λW E=>?_;refine DS (Gw a o p jM _ _) λc e d=>?_;have d:=d.base (ν ι E);have c2:=ω (d.1 _ _ y);have g:=eG k;have i:=eG d;refine aa ?_;have F:=(kj (b0:=.cells [b,c]) k ((ο _ _ x).trans (ξ f r (.cells [.J [] .nil,.J [] .nil])))).base (ν (ν (ν ι h) D) h);exact⟨_,ι,b,c,rfl,_,F,kj d y⟩
def lq(a:Nat)(b:Bool):au:=⟨38,5,
(.seq
(.plain (bx 10 (.dP (mL 0))::[]))
(.block 0
(.loop
(.seq
(.seq
(.plain (aC 11 10::aC 12 3::cG 13 .lss 11 12::[]))
(.cond (aI 13)
.skip
(.exit 0)))
(.seq
(.block 1
(.draw (aC 16 0::aC 17 1::aC 18 10::cG 19 .add 17 18::aC 20 0::aC 21 2::aC 22 10::cG 23 .add 21 22::aC 24 0::aC 25 2::aC 26 10::cG 27 .add 25 26::bx 28 (.dZ a (aI 24) (aI 27))::bx 29 (.load b a (aI 28))::aC 30 0::aC 31 1::aC 32 10::cG 33 .add 31 32::bx 34 (.dZ a (aI 30) (aI 33))::bx 35 (.load b a (aI 34))::bx 36 (.dZ a (aI 16) (aI 19))::on (.store a (aI 36) (aI 29))::bx 37 (.dZ a (aI 20) (aI 23))::on (.store a (aI 37) (aI 35))::[])
(bc 0::bc 1::bc 2::bc 3::bc 4::bc 5::bc 6::bc 7::bc 8::bc 9::bc 10::bc 11::bc 12::bc 13::bc 14::bc 15::bc 16::bc 17::bc 18::bc 19::bc 20::bc 21::bc 22::bc 23::[])))
(.plain (aC 14 10::fM 15 .add 14 1::aC 10 15::[]))))))),[]⟩
def Gx:cu δ 0 265=γ (lq 41 ζ):=Φ
def Gy:cu δ 0 307=γ (lq 1 κ):=Φ
def nc(b:Nat)(c:Bool)(a:FuncId):au:=⟨58,5,
(.seq
(.plain (aC 12 2::aC 13 1::cG 14 .sub 12 13::aC 10 14::[]))
(.seq
(.plain (aC 15 3::aC 16 2::cG 17 .sub 15 16::aC 11 17::[]))
(.seq
(.block 0
(.loop
(.seq
(.seq
(.plain (aC 18 10::aC 19 11::cG 20 .neq 18 19::[]))
(.cond (aI 20)
.skip
(.exit 0)))
(.block 1
(.seq
(.plain (aC 21 10::aC 22 11::cG 23 .gtr 21 22::[]))
(.cond (aI 23)
(.seq
(.plain (aC 24 0::aC 25 2::aC 26 10::cG 27 .sub 25 26::aC 28 2::aC 29 11::aC 30 4::bx 31 (.gv a [(aI 24),(aI 27),(aI 28),(aI 29),(aI 30)])::[]))
(.plain (aC 32 10::aC 33 11::cG 34 .sub 32 33::aC 10 34::[])))
(.seq
(.plain (aC 35 0::aC 36 2::aC 37 10::cG 38 .sub 36 37::aC 39 2::aC 40 11::cG 41 .add 39 40::aC 42 10::cG 43 .sub 41 42::aC 44 10::aC 45 4::bx 46 (.gv a [(aI 35),(aI 38),(aI 43),(aI 44),(aI 45)])::[]))
(.plain (aC 47 11::aC 48 10::cG 49 .sub 47 48::aC 11 49::[])))))))))
(.plain (aC 50 0::aC 51 2::aC 52 10::cG 53 .sub 51 52::aC 54 2::aC 55 10::aC 56 4::bx 57 (.gv a [(aI 50),(aI 53),(aI 54),(aI 55),(aI 56)])::[]))))),[]⟩
def Gz:cu δ 0 209=γ (nc 41 ζ 265):=Φ
def GA:cu δ 0 298=γ (nc 1 κ 307):=Φ
def pa(a:Nat)(b:Bool):au:=⟨53,4,
(.seq
(.plain (aC 10 1::fM 11 .add 10 1::aC 8 11::[]))
(.block 0
(.loop
(.seq
(.seq
(.plain (aC 12 8::aC 13 2::cG 14 .lss 12 13::[]))
(.cond (aI 14)
.skip
(.exit 0)))
(.seq
(.block 1
(.seq
(.plain (aC 17 8::aC 9 17::[]))
(.block 2
(.loop
(.seq
(.seq
(.draw (aC 18 9::aC 19 1::cG 20 .gtr 18 19::aC 21 20::fs 21 ζ 22 (.dP (aI 3))::fs 21 ζ 23 (.dP (aI 0))::fs 21 ζ 24 (.dP (aI 9))::fs 21 ζ 25 (.dZ a (aI 23) (aI 24))::fs 21 ζ 26 (.load b a (aI 25))::fs 21 ζ 27 (.dP (aI 0))::fs 21 ζ 28 (.dP (aI 9))::fs 21 ζ 29 (.bin .sub (aI 28) (mL 1))::fs 21 ζ 30 (.dZ a (aI 27) (aI 29))::fs 21 ζ 31 (.load b a (aI 30))::fs 21 ζ 32 (.jl (aI 22) [(aI 26),(aI 31)])::fs 21 ζ 33 (.bin .lss (aI 32) (mL 0))::bx 34 (.pick (aI 21) (aI 33) qZ)::[])
(bc 0::bc 1::bc 2::bc 3::bc 4::bc 5::bc 6::bc 7::bc 8::bc 9::bc 10::bc 11::bc 12::bc 13::bc 14::bc 15::bc 16::[]))
(.cond (aI 34)
.skip
(.exit 2)))
(.seq
(.block 3
(.draw (aC 37 0::aC 38 9::aC 39 0::aC 40 9::fM 41 .sub 40 1::aC 42 0::aC 43 9::fM 44 .sub 43 1::bx 45 (.dZ a (aI 42) (aI 44))::bx 46 (.load b a (aI 45))::aC 47 0::aC 48 9::bx 49 (.dZ a (aI 47) (aI 48))::bx 50 (.load b a (aI 49))::bx 51 (.dZ a (aI 37) (aI 38))::on (.store a (aI 51) (aI 46))::bx 52 (.dZ a (aI 39) (aI 41))::on (.store a (aI 52) (aI 50))::[])
(bc 0::bc 1::bc 2::bc 3::bc 4::bc 5::bc 6::bc 7::bc 8::bc 9::bc 10::bc 11::bc 12::bc 13::bc 14::bc 15::bc 16::bc 17::[])))
(.plain (aC 35 9::fM 36 .sub 35 1::aC 9 36::[]))))))))
(.plain (aC 15 8::fM 16 .add 15 1::aC 8 16::[]))))))),[]⟩
def GB:cu δ 0 137=γ (pa 41 ζ):=Φ
def GC:cu δ 0 190=γ (pa 1 κ):=Φ
def pb(a:Nat)(b:Bool)(c d:FuncId):au:=⟨220,5,
(.seq
(.seq
(.plain (aC 25 2::aC 26 1::cG 27 .sub 25 26::fM 28 .eql 27 1::[]))
(.cond (aI 28)
(.seq
(.plain (aC 29 2::aC 10 29::[]))
(.seq
(.plain (aC 30 3::aC 11 30::[]))
(.seq
(.block 0
(.loop
(.seq
(.seq
(.plain (aC 31 10::aC 32 11::cG 33 .lss 31 32::[]))
(.cond (aI 33)
.skip
(.exit 0)))
(.block 1
(.seq
(.plain (aC 34 10::aC 35 11::cG 36 .add 34 35::bx 37 (.jk .u64 (aI 36))::bx 38 (.bin .shr (aI 37) (.const (.int .u64 1)))::bx 39 (.jk .i64 (aI 38))::aC 12 39::[]))
(.seq
(.draw (aC 40 4::aC 41 0::aC 42 12::bx 43 (.dZ a (aI 41) (aI 42))::bx 44 (.load b a (aI 43))::aC 45 0::aC 46 1::bx 47 (.dZ a (aI 45) (aI 46))::bx 48 (.load b a (aI 47))::bx 49 (.jl (aI 40) [(aI 44),(aI 48)])::fM 50 .lss 49 0::[])
(bc 0::bc 1::bc 2::bc 3::bc 4::bc 5::bc 6::bc 7::bc 8::bc 9::bc 10::[]))
(.cond (aI 50)
(.plain (aC 51 12::fM 52 .add 51 1::aC 10 52::[]))
(.plain (aC 53 12::aC 11 53::[])))))))))
(.seq
(.seq
(.plain (aC 54 1::aC 13 54::[]))
(.block 2
(.loop
(.seq
(.seq
(.plain (aC 55 13::aC 56 10::fM 57 .sub 56 1::cG 58 .lss 55 57::[]))
(.cond (aI 58)
.skip
(.exit 2)))
(.seq
(.block 3
(.draw (aC 61 0::aC 62 13::aC 63 0::aC 64 13::fM 65 .add 64 1::aC 66 0::aC 67 13::fM 68 .add 67 1::bx 69 (.dZ a (aI 66) (aI 68))::bx 70 (.load b a (aI 69))::aC 71 0::aC 72 13::bx 73 (.dZ a (aI 71) (aI 72))::bx 74 (.load b a (aI 73))::bx 75 (.dZ a (aI 61) (aI 62))::on (.store a (aI 75) (aI 70))::bx 76 (.dZ a (aI 63) (aI 65))::on (.store a (aI 76) (aI 74))::[])
(bc 0::bc 1::bc 2::bc 3::bc 4::bc 5::bc 6::bc 7::bc 8::bc 9::bc 10::bc 11::bc 12::bc 13::bc 14::bc 15::bc 16::bc 17::[])))
(.plain (aC 59 13::fM 60 .add 59 1::aC 13 60::[])))))))
.ret))))
.skip))
(.seq
(.seq
(.plain (aC 77 3::aC 78 2::cG 79 .sub 77 78::fM 80 .eql 79 1::[]))
(.cond (aI 80)
(.seq
(.plain (aC 81 1::aC 14 81::[]))
(.seq
(.plain (aC 82 2::aC 15 82::[]))
(.seq
(.block 4
(.loop
(.seq
(.seq
(.plain (aC 83 14::aC 84 15::cG 85 .lss 83 84::[]))
(.cond (aI 85)
.skip
(.exit 4)))
(.block 5
(.seq
(.plain (aC 86 14::aC 87 15::cG 88 .add 86 87::bx 89 (.jk .u64 (aI 88))::bx 90 (.bin .shr (aI 89) (.const (.int .u64 1)))::bx 91 (.jk .i64 (aI 90))::aC 16 91::[]))
(.seq
(.draw (aC 92 4::aC 93 0::aC 94 2::bx 95 (.dZ a (aI 93) (aI 94))::bx 96 (.load b a (aI 95))::aC 97 0::aC 98 16::bx 99 (.dZ a (aI 97) (aI 98))::bx 100 (.load b a (aI 99))::bx 101 (.jl (aI 92) [(aI 96),(aI 100)])::fM 102 .lss 101 0::bx 103 (.un .not (aI 102))::[])
(bc 0::bc 1::bc 2::bc 3::bc 4::bc 5::bc 6::bc 7::bc 8::bc 9::bc 10::bc 11::[]))
(.cond (aI 103)
(.plain (aC 104 16::fM 105 .add 104 1::aC 14 105::[]))
(.plain (aC 106 16::aC 15 106::[])))))))))
(.seq
(.seq
(.plain (aC 107 2::aC 17 107::[]))
(.block 6
(.loop
(.seq
(.seq
(.plain (aC 108 17::aC 109 14::cG 110 .gtr 108 109::[]))
(.cond (aI 110)
.skip
(.exit 6)))
(.seq
(.block 7
(.draw (aC 113 0::aC 114 17::aC 115 0::aC 116 17::fM 117 .sub 116 1::aC 118 0::aC 119 17::fM 120 .sub 119 1::bx 121 (.dZ a (aI 118) (aI 120))::bx 122 (.load b a (aI 121))::aC 123 0::aC 124 17::bx 125 (.dZ a (aI 123) (aI 124))::bx 126 (.load b a (aI 125))::bx 127 (.dZ a (aI 113) (aI 114))::on (.store a (aI 127) (aI 122))::bx 128 (.dZ a (aI 115) (aI 117))::on (.store a (aI 128) (aI 126))::[])
(bc 0::bc 1::bc 2::bc 3::bc 4::bc 5::bc 6::bc 7::bc 8::bc 9::bc 10::bc 11::bc 12::bc 13::bc 14::bc 15::bc 16::bc 17::[])))
(.plain (aC 111 17::fM 112 .sub 111 1::aC 17 112::[])))))))
.ret))))
.skip))
(.seq
(.plain (aC 129 1::aC 130 3::cG 131 .add 129 130::bx 132 (.jk .u64 (aI 131))::bx 133 (.bin .shr (aI 132) (.const (.int .u64 1)))::bx 134 (.jk .i64 (aI 133))::aC 18 134::[]))
(.seq
(.plain (aC 135 18::aC 136 2::cG 137 .add 135 136::aC 19 137::[]))
(.seq
(.plain (bx 20 (.dP (mL 0))::bx 21 (.dP (mL 0))::[]))
(.seq
(.seq
(.plain (aC 138 2::aC 139 18::cG 140 .gtr 138 139::[]))
(.cond (aI 140)
(.seq
(.plain (aC 141 19::aC 142 3::cG 143 .sub 141 142::aC 20 143::[]))
(.plain (aC 144 18::aC 21 144::[])))
(.seq
(.plain (aC 145 1::aC 20 145::[]))
(.plain (aC 146 2::aC 21 146::[])))))
(.seq
(.plain (aC 147 19::fM 148 .sub 147 1::aC 22 148::[]))
(.seq
(.block 8
(.loop
(.seq
(.seq
(.plain (aC 149 20::aC 150 21::cG 151 .lss 149 150::[]))
(.cond (aI 151)
.skip
(.exit 8)))
(.block 9
(.seq
(.plain (aC 152 20::aC 153 21::cG 154 .add 152 153::bx 155 (.jk .u64 (aI 154))::bx 156 (.bin .shr (aI 155) (.const (.int .u64 1)))::bx 157 (.jk .i64 (aI 156))::aC 23 157::[]))
(.seq
(.draw (aC 158 4::aC 159 0::aC 160 22::aC 161 23::cG 162 .sub 160 161::bx 163 (.dZ a (aI 159) (aI 162))::bx 164 (.load b a (aI 163))::aC 165 0::aC 166 23::bx 167 (.dZ a (aI 165) (aI 166))::bx 168 (.load b a (aI 167))::bx 169 (.jl (aI 158) [(aI 164),(aI 168)])::fM 170 .lss 169 0::bx 171 (.un .not (aI 170))::[])
(bc 0::bc 1::bc 2::bc 3::bc 4::bc 5::bc 6::bc 7::bc 8::bc 9::bc 10::bc 11::bc 12::bc 13::[]))
(.cond (aI 171)
(.plain (aC 172 23::fM 173 .add 172 1::aC 20 173::[]))
(.plain (aC 174 23::aC 21 174::[])))))))))
(.seq
(.plain (aC 175 19::aC 176 20::cG 177 .sub 175 176::aC 24 177::[]))
(.seq
(.seq
(.plain (aC 178 20::aC 179 2::cG 180 .lss 178 179::aC 181 180::fs 181 ζ 182 (.dP (aI 2))::fs 181 ζ 183 (.dP (aI 24))::fs 181 ζ 184 (.bin .lss (aI 182) (aI 183))::bx 185 (.pick (aI 181) (aI 184) qZ)::[]))
(.cond (aI 185)
(.plain (aC 186 0::aC 187 20::aC 188 2::aC 189 24::aC 190 4::bx 191 (.gv d [(aI 186),(aI 187),(aI 188),(aI 189),(aI 190)])::[]))
.skip))
(.seq
(.seq
(.plain (aC 192 1::aC 193 20::cG 194 .lss 192 193::aC 195 194::fs 195 ζ 196 (.dP (aI 20))::fs 195 ζ 197 (.dP (aI 18))::fs 195 ζ 198 (.bin .lss (aI 196) (aI 197))::bx 199 (.pick (aI 195) (aI 198) qZ)::[]))
(.cond (aI 199)
(.plain (aC 200 0::aC 201 1::aC 202 20::aC 203 18::aC 204 4::bx 205 (.gv c [(aI 200),(aI 201),(aI 202),(aI 203),(aI 204)])::[]))
.skip))
(.seq
(.plain (aC 206 18::aC 207 24::cG 208 .lss 206 207::aC 209 208::fs 209 ζ 210 (.dP (aI 24))::fs 209 ζ 211 (.dP (aI 3))::fs 209 ζ 212 (.bin .lss (aI 210) (aI 211))::bx 213 (.pick (aI 209) (aI 212) qZ)::[]))
(.cond (aI 213)
(.plain (aC 214 0::aC 215 18::aC 216 24::aC 217 3::aC 218 4::bx 219 (.gv c [(aI 214),(aI 215),(aI 216),(aI 217),(aI 218)])::[]))
.skip))))))))))))),[]⟩
def GD:cu δ 0 138=γ (pb 41 ζ 138 209):=Φ
def GF:cu δ 0 277=γ (pb 1 κ 277 298):=Φ
def rP(c:Nat)(d:Bool)(a b:FuncId):au:=⟨63,3,
(.seq
(.plain (bx 6 (.dP (mL 20))::[]))
(.seq
(.plain (aC 10 6::bx 7 (.dP (mL 0))::aC 8 10::[]))
(.seq
(.block 0
(.loop
(.seq
(.seq
(.plain (aC 11 8::aC 12 1::cG 13 .leq 11 12::[]))
(.cond (aI 13)
.skip
(.exit 0)))
(.block 1
(.seq
(.plain (aC 14 0::aC 15 7::aC 16 8::aC 17 2::bx 18 (.gv a [(aI 14),(aI 15),(aI 16),(aI 17)])::[]))
(.seq
(.plain (aC 19 8::aC 7 19::[]))
(.plain (aC 20 8::aC 21 6::cG 22 .add 20 21::aC 8 22::[]))))))))
(.seq
(.plain (aC 23 0::aC 24 7::aC 25 1::aC 26 2::bx 27 (.gv a [(aI 23),(aI 24),(aI 25),(aI 26)])::[]))
(.block 2
(.loop
(.seq
(.seq
(.plain (aC 28 6::aC 29 1::cG 30 .lss 28 29::[]))
(.cond (aI 30)
.skip
(.exit 2)))
(.block 3
(.seq
(.plain (aC 31 6::bx 32 (.bin .mul (mL 2) (aI 31))::bx 7 (.dP (mL 0))::aC 8 32::[]))
(.seq
(.block 4
(.loop
(.seq
(.seq
(.plain (aC 33 8::aC 34 1::cG 35 .leq 33 34::[]))
(.cond (aI 35)
.skip
(.exit 4)))
(.block 5
(.seq
(.plain (aC 36 0::aC 37 7::aC 38 7::aC 39 6::cG 40 .add 38 39::aC 41 8::aC 42 2::bx 43 (.gv b [(aI 36),(aI 37),(aI 40),(aI 41),(aI 42)])::[]))
(.seq
(.plain (aC 44 8::aC 7 44::[]))
(.plain (aC 45 8::aC 46 6::bx 47 (.bin .mul (mL 2) (aI 46))::cG 48 .add 45 47::aC 8 48::[]))))))))
(.seq
(.seq
(.plain (aC 49 7::aC 50 6::cG 51 .add 49 50::aC 9 51::[]))
(.seq
(.plain (aC 52 9::aC 53 1::cG 54 .lss 52 53::[]))
(.cond (aI 54)
(.plain (aC 55 0::aC 56 7::aC 57 9::aC 58 1::aC 59 2::bx 60 (.gv b [(aI 55),(aI 56),(aI 57),(aI 58),(aI 59)])::[]))
.skip)))
(.plain (aC 61 6::fM 62 .mul 61 2::aC 6 62::[]))))))))))))),[]⟩
def GG:cu δ 0 86=γ (rP 41 ζ 137 138):=Φ
def GH:cu δ 0 234=γ (rP 1 κ 190 277):=Φ
structure jd(k:Nat)(a:R)(l b n:Nat):Prop where
 eU:∀i,i<n->cU k a (.v (.int .i64 ((i:Nat):Int)))=γ (.ptr l (b+i*k))
 len:gX a=γ (.v (.int .i64 (n:Int)))
 cl:a.cells=[a]
def jN(b:Nat)(c:Bool)(a:R):Prop:=β a.cells=b/\aX c b a.cells=a
def el(a:ύ)(b:Nat):R:=a.getD b (.aJ [])
def rQ(a:ύ)(b c:Nat):ύ:=(a.set b (el a c)).set c (el a b)
def W(a:U)(b:Nat)(c d f:ύ):U:=a.set b (.cells (c++flat f++d))
variable{j B b7:ύ}{e i t I b3 e5:Nat}
def a2z(a:e<β j):j[e]?=γ (el j e):=by simp[el,a]
theorem gE(a:e<β j):el j e∈j:=a7C (a2z a)
theorem pc(a:e<β j)(b:i<β j):(rQ j e i).Perm j:=by have c:=Array.swap_perm (xs:=j.toArray) (i:=e) (j:=i) (by trivial) (by trivial);grind[Array.perm_iff_toList_perm,rQ,Array.swap,el,List.getD]
theorem zJ(b:∀a∈j,β a.cells=i)(d:e<β j):(B++flat j++b7).drop (β B+e*i)=(el j e).cells++(flat (j.drop (e+1))++b7):=by
 have f:j=j.take e++el j e::j.drop (e+1):=by grind[List.take_append_drop,List.drop_eq_getElem_cons,el,List.getD]
 have h:(flat (j.take e)).length=e*i:=by rw[dg (λa c=>b a (a7J c)),a7z,a8P ε]
 grind[flat,el,List.append_assoc,List.drop_drop,List.drop_left]
theorem GI(a:∀b∈j,β b.cells=i)(c:e<β j)(d:β s.cells=i):putAt (B++flat j++b7) (β B+e*i) s.cells=B++flat (j.set e s)++b7:=by
 have x:(flat (j.take e)).length=e*i:=by rw[dg (λb f=>a b (a7J f)),a7z,a8P ε]
 have h:j=j.take e++el j e::j.drop (e+1):=by grind[List.take_append_drop,List.drop_eq_getElem_cons,el,List.getD]
 have y:flat j=flat (j.take e)++((el j e).cells++flat (j.drop (e+1))):=by
  conv=>lhs;rw[h]
  simp[flat]
 have k:flat (j.set e s)=flat (j.take e)++(s.cells++flat (j.drop (e+1))):=by rw[a8N,if_pos c];simp[flat]
 have o:=a _ (gE c);have p:(B++flat j++b7).take (β B+e*i)=B++flat (j.take e):=by grind
 have r:(B++flat j++b7).drop (β B+e*i+β s.cells)=flat (j.drop (e+1))++b7:=by rw[<-a8p,zJ a c,d,<-o,aan]
 rw[putAt,p,r,k];simp
structure a2A(k:Nat)(o:Bool)(d:U)(l c:Nat)(pre post es:ύ)(i f:Nat)(a b:R)(cs h p:ύ):Prop where
 st:eE (W d l pre post es) l=γ cs
 tt:cO o k (W d l pre post es) (.ptr l (c+i*k))=γ a
 tu:cO o k (W d l pre post es) (.ptr l (c+f*k))=γ b
 tR:β a.cells=k
 p7:β b.cells=k
 oi:c+i*k+k<=β cs
 oj:c+f*k+k<=β h
 oc:putAt cs (c+i*k) b.cells=h
 od:putAt h (c+f*k) a.cells=p
 fin:(W d l pre post es).set l (.cells p)=W d l pre post (rQ es i f)
variable{M:Bool}{g w h7:U}
theorem ia(C:0<e)(k:β B=I)(c:∀a∈j,jN e M a)(d:i<β j):cO M e (W g t B b7 j) (.ptr t (I+i*e))=γ (el j i):=by
 subst k;have o:=λa p=>(c a p).1;have r:=c _ (gE d);have x:(W g t B b7 j).read t=γ (B++flat j++b7):=μ (ξ _ _ _);have f:=zJ o d (B:=B) (b7:=b7);have y:β B+i*e+e<=(B++flat j++b7).length:=by have:=congrArg β f;grind[Ζ,el,flat,List.length_drop]
 simp only[cO,x,if_pos y,f];obtain⟨h,b⟩:=r;rw[<-b]
 conv=>rhs;rw[b]
 generalize el j i=a at*;cases M
 .simp only[aX,a8x,if_false]at b|-;cases z:a.cells with
  |nil=>rw[z]at h;simp at h;omega
  |cons D E=>simp_all
 simp_all [a7x,aX]
theorem pd(D:0<e)(k:β B=b3)(o:∀a∈j,jN e M a)(b:i<β j)(c:t<β j):
  ∃E F G,a2A e M g I b3 B b7 j i t (el j i) (el j t) E F G:=by
 have d:=λa p=>(o a p).1;have r:=d _ (gE b);have x:=d _ (gE c);have y:∀a∈j.set i (el j t),β a.cells=e:=λa p=>by
  grind
 have L:=GI d b (B:=B) (b7:=b7) x;have P:=GI y (by simpa using c) (B:=B) (b7:=b7) r;have z:=λ{i} b=>ia D (g:=g) (t:=I) (b7:=b7) k o (i:=i) b;have C:∀(f)(h),(∀a∈f,β a.cells=e)->h<β f->β B+h*e+e<=(B++flat f++b7).length:=λf h S T=>by
  have:=congrArg β (zJ S T (B:=B) (b7:=b7));grind[Ζ,el,flat,List.length_drop,gE]
 subst k;refine⟨_,_,_,?_,z b,z c,r,x,C j i d b,C _ t y (by simpa using c),L,P,?_⟩
 .simp[eE,W,ξ]
 .simp only[W,υ,rQ]
variable{b9:FuncId}
section
def zK(r:cu δ 0 b9=γ (lq e M))(x:0<e)(y:β j=t)(f:jd e s i t (β b7))(S:β b7<=1000000000000)(T:I+e5<=β b7)(V:b3+e5<=β b7)(z:R)(h:ύ)(C:h.Perm b7)(D:∀k∈b7,jN e M k):
  AC δ b9 [s,.v (.int .i64 (I:Int)),.v (.int .i64 (b3:Int)),.v (.int .i64 (e5:Int)),z] (W g i j B h) λl o=>∃p,p.Perm b7/\o=W g i j B p:=by
 have m:=f.cl;refine aM hm r ?_;refine ck [0,1,2,3] (λb:Nat×ύ=>[(10,.v (.int .i64 (b.1)))]) (λb o=>o=W g i j B b.2/\b.2.Perm b7/\b.1<=e5) (λb=>e5 - b.1) (0,h) ⟨⟨rfl,C,ε⟩,aK⟩ ?_;rintro⟨a,d⟩ _ ⟨rfl,c,E⟩ n
 dsimp only at c E|-
 refine aa ?_;refine ay (λF=>?_) λF=>?_
 .have q:=c.length_eq;obtain⟨u,v,w,G⟩:=pd x (g:=g) (I:=i) (b7:=B) y (λk L=>D k (c.mem_iff.1 L)) (i:=I+a) (t:=b3+a) ε ε;have P:=pc (j:=d) (e:=I+a) (i:=b3+a) ε ε;obtain⟨A,H,K,N,O,Q,X,Y,Z,k2⟩:=G;have k3:=f.eU (I+a) ε;have k4:=f.eU (b3+a) ε;generalize W g i j B d=k5 at*;generalize el d (I+a)=b at*;generalize el d (b3+a)=k6 at*;have k7:(I)+(a)=((I+a:Nat):Int):=rfl;have k8:(b3)+(a)=((b3+a:Nat):Int):=rfl;refine aa ?_;exact⟨(a+1,_),⟨rfl,P.trans c,by show a+1<=e5;omega⟩,rfl,by show e5 -(a+1)<e5 - a;omega⟩
 .exact⟨_,ι,_,c,rfl⟩
theorem a2B{G:FuncId}(S:cu δ 0 b9=γ (nc e M G))(p:cu δ 0 G=γ (lq e M))(r:0<e)(x:β j=t)(k:jd e s i t (β b7))(y:β b7<=1000000000000)(v:e5<I)(w:I<b3)(A:b3<=β b7)(o:R)(z:ύ)(T:z.Perm b7)(C:∀V∈b7,jN e M V):
  AC δ b9 [s,.v (.int .i64 (e5:Int)),.v (.int .i64 (I:Int)),.v (.int .i64 (b3:Int)),o] (W g i j B z) λD E=>∃L,L.Perm b7/\E=W g i j B L:=by
 have H:=k.cl;have P:(I) -(e5)=((I - e5:Nat):Int):=ε;have d:(b3) -(I)=((b3 - I:Nat):Int):=ε;refine aM hm S ?_;refine ck [0,1,2,3,4] (λc:(Nat×Nat)×ύ=>[(10,.v (.int .i64 (c.1.1))),(11,.v (.int .i64 (c.1.2)))]) (λc E=>E=W g i j B c.2/\c.2.Perm b7/\0<c.1.1/\0<c.1.2/\c.1.1<=I - e5/\c.1.2<=b3 - I) (λc=>c.1.1+c.1.2) ((I - e5,b3 - I),z) ⟨⟨rfl,T,by show 0<I - e5;omega,by show 0<b3 - I;omega,Χ _,Χ _⟩,aK⟩ ?_;clear P d;rintro⟨⟨a,b⟩,d⟩ _ ⟨rfl,F,l,m,n,q⟩ K
 dsimp only at*
 have P:(I) -(a)=((I - a:Nat):Int):=ε;refine aa ?_;refine ay (λu=>?_) λu=>?_
 .refine ay (λc2=>?_) λc2=>?_
  .refine ak (zK p r x k y ε ε o d F C) ?_;rintro D _⟨f,h,rfl⟩;refine aa ?_;exact⟨((a - b,b),f),⟨rfl,h,by show 0<a - b;omega,m,by show a - b<=I - e5;omega,q⟩,⟨by grind,rfl⟩,by show a - b+b<a+b;omega⟩
  .have f:(I)+(b) -(a)=((I+b - a:Nat):Int):=ε;refine aa ?_;refine ak (zK p r x k y ε ε o d F C) ?_;rintro D _⟨f,h,rfl⟩;refine aa ?_;exact⟨((a,b - a),f),⟨rfl,h,l,by show 0<b - a;omega,n,by show b - a<=b3 - I;omega⟩,⟨rfl,by grind⟩,by show a+(b - a)<a+b;omega⟩
 .obtain rfl:a=b:=ε;refine aa ?_;refine ak (zK p r x k y ε ε o d F C) ?_;rintro D _⟨f,h,rfl⟩;refine aa ?_;exact⟨_,ι,_,h,rfl⟩
def jO(c:U)(d:Nat)(f h a:ύ)(k:FuncId)(r x:ύ)(y:R->R->Int):Prop:=
 gw δ k=ζ/\∀b,b.Perm a->∀o∈a,∀p∈a,AC δ k (r++[o,p]++x) (W c d f h b) λz C=>C=W c d f h b/\z=.v (.int .i64 (y o p))
def GJ(L:cu δ 0 b9=γ (pa e M))(k:0<e)(o:β j=t)(p:jd e s i t (β b7))(u:β b7<=1000000000000)(v:I<=b3)(w:b3<=β b7){z:FuncId}{C D:ύ}{P:R->R->Int}(E:jO g i j B b7 z C D P)(r:ύ)(S:r.Perm b7)(T:∀x∈b7,jN e M x):
  AC δ b9 [s,.v (.int .i64 (I:Int)),.v (.int .i64 (b3:Int)),.bG z C D] (W g i j B r) λA f=>∃F,F.Perm b7/\f=W g i j B F:=by
 have H:=p.cl;refine aM hm L ?_;refine ck [0,1,2,3] (λa:Nat×ύ=>[(8,.v (.int .i64 (a.1)))]) (λa f=>f=W g i j B a.2/\a.2.Perm b7/\I<a.1/\a.1<=b3+1) (λa=>b3+1 - a.1) (I+1,r) ⟨⟨rfl,S,by show I<I+1;omega,by show I+1<=b3+1;omega⟩,aa DQ⟩ ?_;rintro⟨c,V⟩ _ ⟨rfl,G,K,N⟩ O
 dsimp only at*
 refine aa ?_;refine ay (λl=>?_) λl=>?_
 .refine ck [0,1,2,3,8] (λa:Nat×ύ=>[(9,.v (.int .i64 (a.1)))]) (λa f=>f=W g i j B a.2/\a.2.Perm b7/\I<=a.1/\a.1<=c) (λa=>a.1) (c,V) ⟨⟨rfl,G,by show I<=c;omega,Χ _⟩,aK⟩ ?_;rintro⟨b,h⟩ _ ⟨rfl,d,Q,X⟩ Y
  dsimp only at*
  have Z:=d.length_eq;refine aa ?_;refine ay (λm=>?_) λm=>?_
  .have k2:=p.eU b ε;have k3:=p.eU (b - 1) ε;have k4:(b) - 1=((b - 1:Nat):Int):=ε;have y:=λx n=>T x (d.mem_iff.1 n);have k5:=ia k (g:=g) (t:=i) (b7:=B) o y (i:=b) ε;have k6:=ia k (g:=g) (t:=i) (b7:=B) o y (i:=b - 1) ε;refine aa ?_;refine fa E.1 (E.2 h d _ (d.mem_iff.1 (gE ε)) _ (d.mem_iff.1 (gE ε))) ?_;rintro _ _⟨rfl,rfl⟩;refine aa ?_;refine ay (λc2=>?_) λc2=>?_
   .obtain⟨k7,k8,k9,l0,l1,l2,l3,l4,l5,l6,l7,l8,l9⟩:=pd k (g:=g) (I:=i) (b7:=B) o y (i:=b) (t:=b - 1) ε ε;have q:=pc (j:=h) (e:=b) (i:=b - 1) ε ε;generalize W g i j B h=n0 at*;generalize el h b=a at*;generalize el h (b - 1)=n2 at*;refine aa ?_;exact⟨(b - 1,_),⟨rfl,q.trans d,by show I<=b - 1;omega,by show b - 1<=c;omega⟩,rfl,by show b - 1<b;omega⟩
   .exact⟨(c+1,_),⟨rfl,d,by show I<c+1;omega,by show c+1<=b3+1;omega⟩,rfl,ε⟩
  .exact⟨(c+1,_),⟨rfl,d,by show I<c+1;omega,by show c+1<=b3+1;omega⟩,rfl,ε⟩
 .exact⟨_,ι,_,G,rfl⟩
def pe(a b:Nat):bj .shr (.int .u64 ((a:Int)+(b:Int))) (.int .u64 1)=γ (.int .u64 (((a+b)/2:Nat):Int)):=by have:=sW (a+b) .u64 1 ε ε;rw[a9e]at this;exact this
theorem vL{O A k8:FuncId}(Q:cu δ 0 O=γ (pb e M O A))(X:cu δ 0 A=γ (nc e M k8))(Y:cu δ 0 k8=γ (lq e M))(L:0<e)(P:β j=t)(E:jd e s i t (β b7))(Z:β b7<=1000000000000){k9:FuncId}{l0 l1:ύ}{l7:R->R->Int}(T:jO g i j B b7 k9 l0 l1 l7)(V:∀C∈b7,jN e M C):∀(H f c h:Nat),h - f<=H->f<c->c<h->h<=β b7->∀(D:ύ),D.Perm b7->
  AC δ O [s,.v (.int .i64 (f:Int)),.v (.int .i64 (c:Int)),.v (.int .i64 (h:Int)),.bG k9 l0 l1] (W g i j B D) λa13 z=>∃l2,l2.Perm b7/\z=W g i j B l2
 |0,f,c,h,l8,l9,n0,n2,D,x=>by omega
 |H+1,f,c,h,l8,l9,n0,n2,D,x=>by
  have a14:=E.cl;refine aM hm Q ?_;refine ay (λn3=>?_) λn3=>?_
  .refine fO [0,1,2,3,4] (λa:Nat×Nat=>[(10,.v (.int .i64 (a.1))),(11,.v (.int .i64 (a.2)))]) (λa=>c<=a.1/\a.1<=a.2/\a.2<=h) (λa=>a.2 - a.1) (c,h) ⟨Χ _,by show c<=h;omega,Χ _⟩ aK ?_;rintro⟨b,d⟩ ⟨F,l,G⟩ m
   dsimp only at F l G|-
   refine aa ?_;have k2:=pe b d;have I:=x.length_eq;have n:=λC S=>V C (x.mem_iff.1 S);refine ay (λc2=>?_) λc2=>?_
   .have K:=E.eU ((b+d)/2) ε;have N:=E.eU f ε;have l3:=ia L (g:=g) (t:=i) (b7:=B) P n (i:=(b+d)/2) ε;have l4:=ia L (g:=g) (t:=i) (b7:=B) P n (i:=f) ε;have l5:(b+d)/2<=1000000000000:=ε;obtain⟨q,k3⟩:b<=(b+d)/2/\(b+d)/2<d:=ε;have w:=T.2 D x _ (x.mem_iff.1 (gE (e:=(b+d)/2) ε)) _ (x.mem_iff.1 (gE (e:=f) ε));generalize (b+d)/2=k at*;refine aa ?_;refine fa T.1 w ?_;rintro _ _⟨rfl,rfl⟩;refine aa ?_;refine ay (λaD=>?_) λaD=>?_
    .exact⟨(k+1,d),⟨by show c<=k+1;omega,by show k+1<=d;omega,G⟩,⟨rfl,rfl⟩,by show d -(k+1)<d - b;omega⟩
    .exact⟨(b,k),⟨F,q,by show k<=h;omega⟩,⟨rfl,rfl⟩,by show k - b<d - b;omega⟩
   .refine ck [0,1,2,3,4,10] (λa:Nat×ύ=>[(13,.v (.int .i64 (a.1)))]) (λa z=>z=W g i j B a.2/\a.2.Perm b7/\f<=a.1) (λa=>b - a.1) (f,D) ⟨⟨rfl,x,Χ _⟩,aK⟩ ?_;rintro⟨o,y⟩ _ ⟨rfl,r,k4⟩ A
    dsimp only at r k4|-
    refine aa ?_;refine ay (λaD=>?_) λaD=>?_
    .have I:=r.length_eq;have k5:=λC S=>V C (r.mem_iff.1 S);have K:=E.eU o ε;have N:=E.eU (o+1) ε;have l6:(o)+1=((o+1:Nat):Int):=ε;obtain⟨n4,n5,n9,a00,a01,a02,a03,a04,a05,a06,a07,a08,a09⟩:=pd L (g:=g) (I:=i) (b7:=B) P k5 (i:=o) (t:=o+1) ε ε;have k6:=pc (j:=y) (e:=o) (i:=o+1) ε ε;generalize W g i j B y=a10 at*;generalize el y o=a at*;generalize el y (o+1)=a11 at*;refine aa ?_;exact⟨(o+1,_),⟨rfl,k6.trans r,by show f<=o+1;omega⟩,rfl,by show b -(o+1)<b - o;omega⟩
    .exact⟨_,ι,_,r,rfl⟩
  .refine ay (λc2=>?_) λc2=>?_
   .refine fO [0,1,2,3,4] (λa:Nat×Nat=>[(14,.v (.int .i64 (a.1))),(15,.v (.int .i64 (a.2)))]) (λa=>f<=a.1/\a.1<=a.2/\a.2<=c) (λa=>a.2 - a.1) (f,c) ⟨Χ _,by show f<=c;omega,Χ _⟩ aK ?_;rintro⟨b,d⟩ ⟨F,l,G⟩ m
    dsimp only at F l G|-
    refine aa ?_;have k2:=pe b d;have I:=x.length_eq;have n:=λC S=>V C (x.mem_iff.1 S);refine ay (λaD=>?_) λaD=>?_
    .have K:=E.eU ((b+d)/2) ε;have N:=E.eU c ε;have l3:=ia L (g:=g) (t:=i) (b7:=B) P n (i:=(b+d)/2) ε;have l4:=ia L (g:=g) (t:=i) (b7:=B) P n (i:=c) ε;obtain⟨q,k3⟩:b<=(b+d)/2/\(b+d)/2<d:=ε;have w:=T.2 D x _ (x.mem_iff.1 (gE (e:=c) ε)) _ (x.mem_iff.1 (gE (e:=(b+d)/2) ε));have l5:(b+d)/2<=1000000000000:=ε;generalize (b+d)/2=k at*;refine aa ?_;refine fa T.1 w ?_;rintro _ _⟨rfl,rfl⟩;refine aa ?_;refine ay (λaD=>?_) λaD=>?_
     .exact⟨(k+1,d),⟨by show f<=k+1;omega,by show k+1<=d;omega,G⟩,⟨rfl,rfl⟩,by show d -(k+1)<d - b;omega⟩
     .exact⟨(b,k),⟨F,q,by show k<=c;omega⟩,⟨rfl,rfl⟩,by show k - b<d - b;omega⟩
    .refine ck [0,1,2,3,4,14] (λa:Nat×ύ=>[(17,.v (.int .i64 (a.1)))]) (λa z=>z=W g i j B a.2/\a.2.Perm b7/\a.1<=c) (λa=>a.1) (c,D) ⟨⟨rfl,x,Χ _⟩,aK⟩ ?_;rintro⟨o,y⟩ _ ⟨rfl,r,k4⟩ A
     dsimp only at r k4|-
     refine aa ?_;refine ay (λaL=>?_) λaL=>?_
     .have I:=r.length_eq;have k5:=λC S=>V C (r.mem_iff.1 S);have K:=E.eU o ε;have N:=E.eU (o - 1) ε;have l6:(o) - 1=((o - 1:Nat):Int):=ε;obtain⟨n4,n5,n9,a00,a01,a02,a03,a04,a05,a06,a07,a08,a09⟩:=pd L (g:=g) (I:=i) (b7:=B) P k5 (i:=o) (t:=o - 1) ε ε;have k6:=pc (j:=y) (e:=o) (i:=o - 1) ε ε;generalize W g i j B y=a10 at*;generalize el y o=a at*;generalize el y (o - 1)=a11 at*;refine aa ?_;exact⟨(o - 1,_),⟨rfl,k6.trans r,by show o - 1<=c;omega⟩,rfl,by show o - 1<o;omega⟩
     .exact⟨_,ι,_,r,rfl⟩
   .have k2:=pe f h;have a15:(f+h)/2<=1000000000000:=ε;obtain⟨q,k3⟩:f<(f+h)/2/\(f+h)/2<h:=ε;have a16:(f+h)/2 - f<=h -(f+h)/2:=ε;have a18:h -(f+h)/2<=(f+h)/2 - f+1:=ε;generalize (f+h)/2=p at*;refine aa ?_;refine nT [0,1,2,3,4,18,19] (λa:Nat×Nat=>[(20,.v (.int .i64 (a.1))),(21,.v (.int .i64 (a.2)))]) (λa z=>z=W g i j B D/\f<=a.1/\a.1<=a.2/\p+c<=h+a.1/\a.2<=p/\a.2<=c) (λaD=>?_) (λaD=>?_) ?_
    .have aD:=of_decide_eq_true aD;have a19:(p)+(c) -(h)=((p+c - h:Nat):Int):=ε;refine aa ?_;exact⟨(p+c - h,p),⟨by show f<=p+c - h;omega,by show p+c - h<=p;omega,ε,Χ _,by show p<=c;omega⟩,rfl,rfl⟩
    .have aD:=of_decide_eq_false aD;refine aa ?_;exact⟨(f,c),⟨Χ _,by show f<=c;omega,by show p+c<=h+f;omega,by show c<=p;omega,Χ _⟩,rfl,rfl⟩
    rintro⟨b,d⟩ _ ⟨rfl,F,l,u,G,v⟩ m
    dsimp only at F l u G v|-
    refine jy [0,1,2,3,4,18,19,20,21] (λ_:Unit=>[(22,.v (.int .i64 ((p+c - 1:Nat))))]) (λ_ z=>z=W g i j B D) ?_ ?_
    .refine aa ?_;exact⟨(),by congr 2;omega⟩
    rintro _ _ rfl m;refine jy [0,1,2,3,4,18,19] (λb:Nat=>[(20,.v (.int .i64 (b)))]) (λb z=>z=W g i j B D/\f<=b/\p+c<=h+b/\b<=p/\b<=c) ?_ ?_
    .refine aa ?_;refine fO [0,1,2,3,4,18,19,22] (λa:Nat×Nat=>[(20,.v (.int .i64 (a.1))),(21,.v (.int .i64 (a.2)))]) (λa=>f<=a.1/\a.1<=a.2/\p+c<=h+a.1/\a.2<=p/\a.2<=c) (λa=>a.2 - a.1) (b,d) ⟨F,l,u,G,v⟩ aK ?_;rintro⟨b,d⟩ ⟨F,l,u,G,v⟩ m
     dsimp only at F l u G v|-
     have k2:=pe b d;have I:=x.length_eq;have n:=λC S=>V C (x.mem_iff.1 S);refine aa ?_;refine ay (λaL=>?_) λaL=>?_
     .obtain⟨q,k3⟩:b<=(b+d)/2/\(b+d)/2<d:=ε;have l5:(b+d)/2<=1000000000000:=ε;generalize (b+d)/2=k at*;have l6:((p+c - 1:Nat)) -(k)=((p+c - 1 - k:Nat):Int):=ε;have K:=E.eU k ε;have N:=E.eU (p+c - 1 - k) ε;have l3:=ia L (g:=g) (t:=i) (b7:=B) P n (i:=k) ε;have l4:=ia L (g:=g) (t:=i) (b7:=B) P n (i:=p+c - 1 - k) ε;have w:=T.2 D x _ (x.mem_iff.1 (gE (e:=p+c - 1 - k) ε)) _ (x.mem_iff.1 (gE (e:=k) ε));refine aa ?_;refine fa T.1 w ?_;rintro _ _⟨rfl,rfl⟩;refine aa ?_;refine ay (λaZ=>?_) λaZ=>?_
      .exact⟨(k+1,d),⟨by show f<=k+1;omega,by show k+1<=d;omega,by show p+c<=h+(k+1);omega,G,v⟩,⟨rfl,rfl⟩,by show d -(k+1)<d - b;omega⟩
      .exact⟨(b,k),⟨F,q,u,by show k<=p;omega,by show k<=c;omega⟩,⟨rfl,rfl⟩,by show k - b<d - b;omega⟩
     grind
    rintro b _⟨rfl,F,u,G,v⟩m;refine jy [0,1,2,3,4,18,20] (λ_:Unit=>[(24,.v (.int .i64 ((p+c - b:Nat))))]) (λ_ z=>z=W g i j B D) ?_ ?_
    .refine aa ?_;exact⟨(),by congr 2;omega⟩
    rintro _ _ rfl m;obtain⟨C,S⟩:∃C,p+c - b=C:=⟨_,rfl⟩;have a27:C<=h:=ε;rw[S];refine jy [0,1,2,3,4,18,20,24] (λ_:ύ=>[]) (λa z=>z=W g i j B a/\a.Perm b7) ?_ ?_
    .refine aa ?_;refine ay (λaL=>?_) λaL=>?_
     .refine ay (λaZ=>?_) λaZ=>?_
      .refine ak (a2B X Y L P E Z ε ε ε _ D x V) ?_;rintro _ _⟨y,r,rfl⟩;refine aa ?_;exact⟨y,rfl,r⟩
      .exact⟨D,rfl,x⟩
     .exact⟨D,rfl,x⟩
    rintro y _⟨rfl,r⟩m;refine jy [0,1,2,3,4,18,20,24] (λ_:ύ=>[]) (λa z=>z=W g i j B a/\a.Perm b7) ?_ ?_
    .refine aa ?_;refine ay (λaL=>?_) λaL=>?_
     .refine ay (λaZ=>?_) λaZ=>?_
      .refine ak (vL Q X Y L P E Z T V H f b p ε ε ε ε y r) ?_;rintro _ _⟨k7,r,rfl⟩;refine aa ?_;exact⟨k7,rfl,r⟩
      .exact⟨y,rfl,r⟩
     .exact⟨y,rfl,r⟩
    rintro y _⟨rfl,r⟩m;refine aa ?_;refine ay (λaL=>?_) λaL=>?_
    .refine ay (λaZ=>?_) λaZ=>?_
     .refine ak (vL Q X Y L P E Z T V H p C h ε ε ε ε y r) ?_;rintro _ _⟨k7,r,rfl⟩;refine aa ?_;exact⟨_,ι,k7,r,rfl⟩
     .exact⟨_,ι,y,r,rfl⟩
    .exact⟨_,ι,y,r,rfl⟩
def a2C{S T C V:FuncId}(O:cu δ 0 S=γ (rP e M T b9))(l:cu δ 0 T=γ (pa e M))(m:cu δ 0 b9=γ (pb e M b9 C))(n:cu δ 0 C=γ (nc e M V))(q:cu δ 0 V=γ (lq e M))(o:0<e)(p:β j=t)(D:jd e s i t (β b7))(Q:β b7<=1000000000){u:FuncId}{v w:ύ}{X:R->R->Int}(r:jO g i j B b7 u v w X)(x:∀Y∈b7,jN e M Y):
  AC δ S [s,.v (.int .i64 (β b7:Int)),.bG u v w] (W g i j B b7) λk7 f=>∃A,A.Perm b7/\f=W g i j B A:=by
 have k8:=D.cl;have H:β b7<=1000000000000:=ε;have y:=D;have z:=H;obtain⟨b,Z⟩:∃b,β b7=b:=⟨_,rfl⟩;rw[Z]at Q H D|-;refine aM hm O ?_;refine ck [0,1,2,6] (λa:Nat×ύ=>[(7,.v (.int .i64 (a.1))),(8,.v (.int .i64 ((a.1+20:Nat))))]) (λa f=>f=W g i j B a.2/\a.2.Perm b7/\a.1<=b) (λa=>b - a.1) (0,b7) ⟨⟨rfl,.refl _,a7Y _⟩,aK⟩ ?_;rintro⟨c,I⟩ _ ⟨rfl,E,F⟩ k9
 dsimp only at E F|-
 refine aa ?_;refine ay (λk2=>?_) λk2=>?_
 .refine ak (GJ l o p y z ε ε r I E x) ?_;rintro _ _⟨G,h,rfl⟩;refine aa ?_;exact⟨(c+20,G),⟨rfl,h,by show c+20<=b;omega⟩,⟨rfl,rfl⟩,by show b -(c+20)<b - c;omega⟩
 .refine ak (GJ l o p y z ε ε r I E x) ?_;rintro _ _⟨G,h,rfl⟩;refine aa ?_;refine ck [0,1,2] (λa:Nat×ύ=>[(6,.v (.int .i64 (a.1)))]) (λa f=>f=W g i j B a.2/\a.2.Perm b7/\0<a.1/\a.1<=20+2*b) (λa=>b - a.1) (20,G) ⟨⟨rfl,h,by show 0<20;omega,by show 20<=20+2*b;omega⟩,aK⟩ ?_;rintro⟨aN,K⟩ _ ⟨rfl,L,k3,k4⟩ b9
  dsimp only at L k3 k4|-
  refine aa ?_;refine ay (λc2=>?_) λc2=>?_
  .have l0:2*(aN)=((2*aN:Nat):Int):=ε;refine ck [0,1,2,6] (λa:Nat×ύ=>[(7,.v (.int .i64 (a.1))),(8,.v (.int .i64 ((a.1+2*aN:Nat))))]) (λa f=>f=W g i j B a.2/\a.2.Perm b7/\a.1<=b) (λa=>b - a.1) (0,K) ⟨⟨rfl,L,a7Y _⟩,by rw[a7X];exact aK⟩ ?_;rintro⟨c,N⟩ _ ⟨rfl,P,F⟩ C
   dsimp only at P F|-
   have l1:(c)+(aN)=((c+aN:Nat):Int):=rfl;refine aa ?_;refine ay (λaD=>?_) λaD=>?_
   .refine ak (vL m n q o p y z r x _ c (c+aN) (c+2*aN) (Χ _) ε ε ε N P) ?_;rintro _ _⟨d,h,rfl⟩;refine aa ?_;exact⟨(c+2*aN,d),⟨rfl,h,by show c+2*aN<=b;omega⟩,⟨rfl,σ⟩,by show b -(c+2*aN)<b - c;omega⟩
   .have k5:∀d:ύ,d.Perm b7->∃k:Nat×ύ,(W g i j B d=W g i j B k.2/\k.2.Perm b7/\0<k.1/\k.1<=20+2*b)/\R.v (.int .i64 ((aN)*2))=.v (.int .i64 (k.1))/\b - k.1<b - aN:=λd k6=>⟨(aN*2,d),⟨rfl,k6,by show 0<aN*2;omega,by show aN*2<= _;omega⟩,rfl,by show b - aN*2<b - aN;omega⟩;refine ay (λaL=>?_) λaL=>?_
    .refine ak (vL m n q o p y z r x _ c (c+aN) b (Χ _) ε ε ε N P) ?_;rintro _ _⟨d,h,rfl⟩;have:=k5 d h;exact aK
    .trivial
  .exact⟨_,ι,K,L,rfl⟩
def vM(a:FuncId):au:=⟨9,2,.plain (aC 4 0::aC 5 0::pL 6 5::aC 7 1::bx 8 (.gv a [aI 4,aI 6,aI 7])::[]),[]⟩
def zL{b c d f h:FuncId}(x:cu δ 0 b=γ (vM c))(y:cu δ 0 c=γ (rP e M d b9))(z:cu δ 0 d=γ (pa e M))(C:cu δ 0 b9=γ (pb e M b9 f))(D:cu δ 0 f=γ (nc e M h))(E:cu δ 0 h=γ (lq e M))(F:0<e)(G:β j=t)(a:jd e s i t (β b7))(L:β b7<=1000000000){k:FuncId}{o p:ύ}{P:R->R->Int}(S:jO g i j B b7 k o p P)(T:∀V∈b7,jN e M V):
  AC δ b [s,.bG k o p] (W g i j B b7) λq l=>∃r,r.Perm b7/\l=W g i j B r:=by
 have u:=a.cl;have v:=a.len;refine aM hm x ?_;refine ak (a2C y z C D E F G a L S T) ?_;rintro _ _⟨m,n,rfl⟩;refine aa ?_;exact⟨_,ι,m,n,rfl⟩
end
def GK:cu δ 0 44=γ (vM 86):=Φ
def GL:cu δ 0 156=γ (vM 234):=Φ
theorem aq.wr(d:aq w g e B s)(f:0<e)(h:B=flat j)(k:∀c∈j,β c.cells=e)(D:j≠[]):
  ∃a post b,w a=η/\s=.ar a (β j) b e/\g=W g a [] post j/\jd e s a 0 (β j)/\β j<=b/\b<=maxLen/\(β j*e+β post=b*e):=by
 subst h;have E:=dg k;obtain⟨F,⟨c,_⟩|⟨a,o,b,p,rfl,r,x,G,y,L,z,C⟩⟩:=d;grind[List.length_nil,List.length_pos_iff,Nat.mul_pos]
 .obtain rfl:o=β j:=a9Z f ε;refine⟨a,p.drop (β j*e),b,r,rfl,?_,⟨λP S=>?_,rfl,rfl⟩,z,C,?_⟩
  .rw[W,a7T,<-y,a8d];exact(U.rC x).symm
  simp_all [iL];grind
theorem W.dq(d:g.sub w)(b:g t=η)(f:∀a∈j,β a.cells=e)(c:B.Perm j)(h:β j<=i)(k:i<=maxLen)(r:β j*e+β b7=i*e):
  aq g (W w t [] b7 B) e (flat B) (.ar t (β j) i e):=by
 have o:(flat B).length=β j*e:=by rw[dg λa p=>f a (c.mem_iff.1 p),c.length_eq]
 refine⟨ν d b,.inr ⟨t,_,i,_,rfl,b,ξ _ _ _,?_,?_,o,h,k⟩⟩;simp_all;simp_all
theorem aw.mem{f:Type}{h:f->R->Prop}:∀ {c:List f}{aN:ύ},aw h c aN->∀ {b:R},b∈aN->∃d,d∈c/\h d b
 |[],[],_,b,a=>by cases a
 |d::c,o::aN,⟨h1,k⟩,b,a=>by
  rcases a7S.1 a with rfl|a
  .simp_all
  .obtain⟨p,r,x⟩:=aw.mem k a;grind
 |[],_:: _,a,_,_=>a.elim
 |_:: _,[],a,_,_=>a.elim
variable{K:Type}
def aw.perm{o:K->R->Prop}(p:j.Perm B):∀ {a:List K},aw o a B->∃c,c.Perm a/\aw o c j:=by
 induction p with
 |nil=>exact λ{a} b=>⟨a,.refl _,b⟩
 |cons r _ ih=>
  intro a b
  match a,b with
  |f::a,⟨h1,h⟩=>obtain⟨c,d,k⟩:=ih h;exact⟨f::c,d.cons _,h1,k⟩
 |swap r F G=>
  intro a b
  match a,b with
  |f::x::a,⟨h1,h,d⟩=>exact⟨x::f::a,.swap _ _ _,h,h1,d⟩
 |trans _ _ y z=>intro a b;obtain⟨c,d,k⟩:=z b;obtain⟨C,D,E⟩:=y k;exact⟨C,D.trans d,E⟩
theorem jO.of{s:U}{l:Nat}{ds d:ύ}(p:gw δ b9=ζ)(r:∀b∈b7,∀c∈b7,∃f:Int,∀a,a.Perm b7->AC δ b9 (ds++[b,c]++d) (W s l j B a) λh k=>k=W s l j B a/\h=.v (.int .i64 f)):
  ∃x,jO s l j B b7 b9 ds d x:=by
 classical
 exact⟨λb c=>if y:∃f:Int,∀a,a.Perm b7->AC δ b9 (ds++[b,c]++d) (W s l j B a) λh k=>k=W s l j B a/\h=.v (.int .i64 f)then y.choose else 0,p,λa z b C c D=>by
  have o:=r b C c D;simp only[dif_pos o];exact o.choose_spec a z⟩
theorem a2D(D:Own)(o:Nat)(a00:1<=o)(a01:o<=8)(a:List Ω)(q:ύ)(T:R)(r:U)(E:bL r 1 T q)(V:aw isRow a q)(s:∀h∈a,β h=o)(a02:β a<=100000)(k2:a≠[]):
  AC δ 95 [gl.V D,T] r λh e=>∃t g,g.Perm a/\aw isRow g t/\aq r e 1 (flat t) h:=by
 have k3:=V.len;have a03:=E.one;have k4:=E.len;rw[k3]at k4;refine aM hm CI ?_;refine bg λx a04=>?_;generalize i:r.set x _=j;have u:r.sub j:=by subst i;exact aK
 have F:j x=γ (.cells [.v (.int .u8 0),.v (.int .i64 0),.J (ab []) D]):=by subst i;exact aK
 clear i;refine ck [1,2,8,9] (λd:Nat×R=>[(10,.v (.int .i64 (d.1))),(5,d.2)]) (λd e=>d.1<=β a/\∃f,aq j e 1 f d.2/\f=flat f/\aw isRow (a.take d.1) f) (λd=>β a - d.1) (0,.J [] .nil) ⟨⟨a7Y _,[],aq.nil ι,rfl,trivial⟩,aK⟩ ?_;rintro⟨b,d⟩ p ⟨k5,f,k,y,c⟩ a05
 dsimp only at k5 k c|-
 have a06:=μ (k.1 _ _ F);refine aa ?_;refine ay (λk6=>?_) λk6=>?_
 .have k7:=a8l.2 k2;obtain⟨_,G,v,rfl⟩:=V.get (i:=b) (x:=a.getD b []) (by grind);obtain⟨_,k8,k9,rfl⟩:=V.get (i:=0) (x:=a.getD 0 []) (by simp[k7]);obtain⟨z,a07,l⟩:=E.get b _ G;obtain⟨w,A,l0⟩:=E.get 0 _ k8;have A:cU 1 T (.v (.int .i64 0))=γ w:=A;have B:=π u k.1;have a08:cO κ 1 p z=γ (.J (ab (a.getD b [])) v):=l.ld p B κ 1 ε (by simp[τ]);have a09:cO κ 1 p w=γ (.J (ab (a.getD 0 [])) k9):=l0.ld p B κ 1 ε (by simp[τ]);have l1:(ab (a.getD b [])).length=o:=by grind[bn,List.getD]
  have a10:(ab (a.getD 0 [])).length=o:=by rw[bn];grind
  have C:=fX (a:=a) (e:=b) (b:=[]) ε;have a11:gl.ok o=true:=by rw[rO];grind
  generalize a.getD b []=h at*;generalize a.getD 0 []=a13 at*;refine aa ?_;refine aP (p8 gl _ _ _ ε σ) ?_;refine ak (rr h v p (by rw[bn]at l1;omega)) ?_;rintro _ a14⟨l2,rfl⟩;have l3:=k.mono l2;refine aa ?_;refine gY (by simp[ba,τ]) σ λa15 l4=>?_;have H:=l3.mono (ν (b0:=.cells (flat [R.J (ab h) .any])) ι l4);have m:(flat f).length=b:=by rw[dg (c.cells λ_ _=>ρ),c.len,a7z];omega
  rw[y]at H;refine aa ?_;refine fN H ε (mU rfl) rfl (by rw[m];simp[flat,τ];omega) (by rw[m];simp[flat,τ];omega) λl5 a16 I=>?_;refine aa ?_;refine⟨(b+1,l5),⟨by show b+1<=β a;omega,f++[.J (ab h) .any],?_,?_,?_⟩,⟨rfl,rfl⟩,ε⟩
  .rw[<-y]at I;exact I
  .conv=>lhs;rw[y]
   simp[flat,τ]
  .show aw isRow (a.take (b+1)) _;rw[C];exact c.snoc ⟨_,rfl⟩
 .obtain rfl:b=β a:=ε;rw[a8c]at c;have L:∀C∈f,β C.cells=1:=c.cells λ_ _=>ρ;have m:=c.len;have l6:f≠[]:=by grind
  obtain⟨K,post,a18,M,rfl,N,O,l7,l8,Q⟩:=aq.wr k ε y L l6;have l9:K≠x:=by rintro rfl;rw[M]at F;cases F
  have X:∀Y,(W p K [] post Y).read x=γ [.v (.int .u8 0),.v (.int .i64 0),.J (ab []) D]:=λY=>μ ((ο _ _ l9.symm).trans (k.1 _ _ F));have n0:=λP S=>W.dq (B:=P) k.1 M L S l7 l8 Q;obtain⟨a19,n2⟩:=jO.of (b9:=157) (ds:=[]) abY λa27 n3 a29 n4=>by
   obtain⟨z,l,Z,rfl⟩:=c.mem n3;obtain⟨n,n5,n9,rfl⟩:=c.mem n4;have Q:=s z l;have a30:=s n n5;exact⟨tQ z n,λP _=>a2u D Z n9 z n _ x (X P) ⟨ε,ε⟩ ε⟩
  rw[N];clear N;refine ak (zL GL GH GC GF GA Gy ε rfl O ε n2 λC G=>⟨L C G,?_⟩) ?_
  .obtain⟨h,_,Z,rfl⟩:=c.mem G;rfl
  rintro _ _⟨P,S,rfl⟩;clear y X L O;refine aa ?_;obtain⟨g,a34,a36⟩:=c.perm S;have a38:=(n0 _ S).base u;grind[ι]
abbrev pf(a b:Ω)(c d f:Own):ύ:=[.J (ab a) c,.J (ab b) d,.v (.int .u8 0),.v (.int .i64 0),.J [] f,.v (.int .i64 1),.v (.bool κ)]
theorem a2E(x y:Ω)(z C D:Own)(d f:U)(h:ύ)(k:R)(a:aq d f 1 h k):AC δ 94 [k,.agg (pf x y z C D)] f λE F=>aq d F 1 (h.take 1) E:=by
 have g:=eG a;obtain⟨G,L,_,i⟩:=a.src;refine aM hm CH ?_;refine bg λj o=>?_;refine ay (λP=>?_) λP=>?_
 .obtain⟨p,⟨rfl,_⟩|⟨b,r,c,S,rfl,T,V,W,l,m,n,e⟩⟩:=a
  .simp at L;omega
  .obtain rfl:r=G:=ε;have q:cc 1 (.ar b r c 1) η (γ (.v (.int .i64 1))) η=γ (.ar b 1 c 1):=hQ (t:=1) ε;refine aa ?_;refine⟨_,ι,ν p (Ν p o),.inr ⟨b,1,c,S,rfl,T,ν ι o _ _ V,W,?_,?_,ε,e⟩⟩;grind
   .rw[a7z];omega
 grind[Λ,ι,ν]
def dE(b c:Ω)(a:aj):Bool:=decide (a.live≠0)&&gS b c a.az a.aE
theorem a2F(b c:Ω)(o p r d f h:Own)(a:aj)(x:β a.sum=32)(y:β b<=1000000000000)(k:U):AC δ 83 [.agg (pf b c o p r),.agg (ag a d f h)] k λz C=>C=k/\z=.v (.bool (dE b c a)):=by
 have E:=(aV (a7:=d) (h5:=f) (j1:=h) x).all;refine aM hm CE ?_;refine bg λF G=>?_;refine cy λL P S T=>?_;generalize V:ag a d f h=W at*;refine ay (λD=>?_) λD=>?_
 .refine aP (zF _ b c a.az a.aE _ _ _ _ y) ?_;refine ay (λc2=>?_) λc2=>?_
  .refine aN ?_;rw[dE,c2,aaV]
  simp_all [dE]
 .refine aN ?_;rw[dE,decide_eq_false ε,a8H]
theorem vN{a b:Ω}(c:gS n b5 a b=ζ):cV (dD n b5 a b).1 (dD n b5 a b).2 (dD n b5 a b).1.length=ζ/\(dD n b5 a b).1.length=β n:=by
 have d:=id c;rw[gS,Κ]at c;obtain⟨f,hm⟩:=c;obtain⟨x,y,z,C,D⟩:=vH f;rw[mg,Κ]at f;obtain⟨p,r⟩:=f;simp only[cV,Κ,decide_eq_true_eq,a7L,a8B]at p r hm;have h:(dD n b5 a b).1.length=β n:=by rw[dD,if_pos d];simp[y]
 have E:(dD n b5 a b).2.length=β n:=by rw[dD,if_pos d];simp[x,z]
 refine⟨?_,h⟩;rw[h];simp only[cV,Κ,decide_eq_true_eq,a7L,a8B];refine⟨⟨⟨⟨C,D⟩,h⟩,E⟩,λk o=>?_⟩;have F:=p.2 k o;have G:=r.2 k o;obtain⟨L,P⟩:=hm k o;rw[dD,if_pos d];grind
def zM(b c:Ω)(a:aj)(d:Ω):Bool:=gS b c a.az a.aE&&tP d (dD b c a.az a.aE).1
def a2G(a d:Ω)(F G p r x y P:Own)(b:aj)(f:Ω)(S:β b.sum=32)(j:β f=β a)(l:β a<=8)(h:U):AC δ 88 [.agg (pf a d F G p),.agg (ag b r x y),.J (ab f) P] h λT V=>V=h/\T=.v (.bool (zM a d b f)):=by
 have m:=(aV (a7:=r) (h5:=x) (j1:=y) S).all;refine aM hm CG ?_;refine bg λz n=>?_;refine cy λL q s t=>?_;generalize u:ag b r x y=W at*;generalize k:(h.set z _).set L _=C;have D:h.sub C:=by subst k;exact aK
 have cl:C z=γ (.cells (pf a d F G p)):=by subst k;exact aK
 have v:C L=γ (.cells W):=by subst k;exact aK
 clear k;refine gs (vI _ a d b.az b.aE _ _ _ _ ε) λw c=>?_;have A:=μ (c _ _ cl);refine aR λe E=>?_;have g:z≠e:=by rintro rfl;rw[c _ _ cl]at E;cases E
 have B:=g.symm;have H:=Ν (π D c) E;refine aa ?_;refine ay (λo=>?_) λo=>?_
 .obtain⟨i,c2⟩:=vN o;refine aP (a2v p _ _ _ _ _ f _ i ε) ?_;refine⟨π D c,aN ?_⟩;rw[zM,o,a8J]
 .refine⟨π D c,aN ?_⟩;rw[zM,o,a8H]
abbrev lr(a:aj)(b c d:Own)(f h:Nat)(id k:Int):ύ:=ag a b c d++[.v (.int .u64 (f:Int)),.v (.int .u64 (h:Int)),.v (.int .i64 id),.v (.int .i64 k)]
def nd(a:aj)(b:R):Prop:=β a.sum=32/\a.cL/\∃c d f h k id o,b=.agg (lr a c d f h k id o)
variable{N j2:Int}{A j6:aj}{a7 h5 j1:Own}
theorem rR{id:Int}(d:β A.sum=32):(lr A a7 h5 j1 e i id N).length=41/\(lr A a7 h5 j1 e i id N).take 41=lr A a7 h5 j1 e i id N/\(lr A a7 h5 j1 e i id N).take 37=ag A a7 h5 j1/\
  ((lr A a7 h5 j1 e i id N).drop 37).take 2=[.v (.int .u64 (e:Int)),.v (.int .u64 (i:Int))]/\aX κ 1 ((lr A a7 h5 j1 e i id N).drop 39)=.v (.int .i64 id)/\aX κ 1 ((lr A a7 h5 j1 e i id N).drop 40)=.v (.int .i64 N):=by
 have c:=(aV (a7:=a7) (h5:=h5) (j1:=j1) d).len;have a:∀b,(lr A a7 h5 j1 e i id N).drop (37+b)=[R.v (.int .u64 (e)),.v (.int .u64 (i)),.v (.int .i64 id),.v (.int .i64 N)].drop b:=λb=>by
  rw[a9m,a8k ε,c,aac,a7T]
 have f:(lr A a7 h5 j1 e i id N).length=41:=by rw[Ρ,c];rfl
 refine⟨f,a7x ε,?_,?_,?_,?_⟩;simp_all
 .rw[a 0];rfl
 .rw[a 2];rfl
 .rw[a 3];rfl
theorem GM(D:nd A s)(E:nd j6 b8):∃F:Int,∀h,AC δ 45 [s,b8] h λG L=>L=h/\G=.v (.int .i64 F):=by
 obtain⟨P,_,p,r,x,a,b,id,k,rfl⟩:=D;obtain⟨S,_,y,z,C,c,d,f,o,rfl⟩:=E;have T:=rR (a7:=p) (h5:=r) (j1:=x) (e:=a) (i:=b) (id:=id) (N:=k) P;have V:=rR (a7:=y) (h5:=z) (j1:=C) (e:=c) (i:=d) (id:=f) (N:=o) S;refine⟨if ql a b c d=0 then(if id=f then IntKind.i64.wrap (k - o)else if id<f then -1 else 1)else ql a b c d,λh=>?_⟩;generalize lr A p r x a b id k=W at*;generalize lr j6 y z C c d f o=e at*;refine aM hm Nu ?_;refine bg λg i=>?_;refine cy λj l a b=>?_;refine aP (Gq _ _ _ _ _) ?_
 repeat' first|refine ay (λ_=>?_) λ_=>?_|trivial
 all_goals simp_all
theorem a2H(c d:Ω)(h k f:Own)(a:Nat)(o:a<=1000000000000)(b:U):AC δ 42 [.agg (pf c d h k f),.v (.int .i64 (a:Int))] b λx y=>y=b/\x=.v (.bool (cV c d a)):=by
 have p:=λb=>p8 gl f a b o σ;simp only[rO]at p;refine aM hm Cu ?_;refine bg λz E=>?_;refine ay (λC=>?_) λC=>?_
 .refine ay (λc2=>?_) λc2=>?_
  .refine aP (mT _ c d _ _ _ o) ?_;refine ay (λaD=>?_) λaD=>?_
   .trivial
   .have D:decide (1<=a/\a<=8)=true:=decide_eq_true ε;have r:=p (b.set z (.cells (pf c d h k f)));rw[D]at r;exact aP r trivial
  grind[cV,kl]
 grind[cV,kl]
end Go.Proofs.YtgchlmdfldnhnaaGreat
