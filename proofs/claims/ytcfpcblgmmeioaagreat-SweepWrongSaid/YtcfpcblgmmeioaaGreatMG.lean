import Derived.Test.YtcfpcblgmmeioaaGreatMF
import Derived.Test.YtcfpcblgmmeioaaGreatME
import Derived.Test.YtcfpcblgmmeioaaGreatMD
import Derived.Test.YtcfpcblgmmeioaaGreatMB
import Derived.Shelf.SlSortCmp.NoneTotal
import Derived.Shelf.SlLaysF
import Derived.Test.YtcfpcblgmmeioaaGreatProg
set_option linter.all false
open Option renaming some->β,none->ε
open Go.Proofs.Tryz renaming prog->γ
open List renaming replicate->ζ,range->ψ,take_of_length_le->Θ,length->α
open Bool renaming true->η,false->ι
open Go.bt.U renaming a6->θ,af->κ,ag->μ,aj->ν,al->ξ,au->ο,set_set->σ,aK->χ,bH->Μ
open Go.bt.R renaming cells->τ
open Go.Proofs.YtcfpcblgmmeioaaGreat.isRow renaming cells->φ
open Go.Proofs.YtcfpcblgmmeioaaGreat.Ext renaming of->ω
open Prod renaming fst->Β
open Go.Proofs.YtcfpcblgmmeioaaGreat.bu renaming cells->Η
open Go.Proofs.YtcfpcblgmmeioaaGreat.aA renaming size->Ι
set_option maxRecDepth 100000
namespace Go.Proofs.YtcfpcblgmmeioaaGreat
open Go Go.bt
variable{f u e1:U}{e i v M b9 h9:Nat}{X j6:bl}
def Ext.dK(c:Ext i v f u)(d:f e=ε):Ext i v f (u.set e X):=λb h k o a=>by
 have p:b≠e:=by rintro rfl;rw[d]at a;cases a
 rw[ξ _ _ p];exact c b h k o a
def cx(a:Ρ×Bool)(b c:an):bQ:=⟨1,[a],[b,c]⟩
def ud(h:U)(k o:Nat)(p:ad)(V:bh h k o p)(c:Ρ×Bool)(a b:an)(W r x y z C D:Own)(d:Nat)(s:1<=d)(t:d<=8)(e:α a.sum=32)(f:α b.sum=32)(u:a.cH)(v:b.cH):
  AC γ 220 [dz k d,.agg [.J (ab c.1) W,.v (.bool c.2)],.agg (ae a r x y),.agg (ae b z C D)] h λg i=>bh i k o (dr p d (cx c a b)).2/\Ext k o h i/\gj (dr p d (cx c a b)).1 g:=by
 have w:=(aN (O:=r) (e4:=x) (h5:=y) e).all;have A:=(aN (O:=z) (e4:=C) (h5:=D) f).all;have B:bu a (.agg (ae a r x y)):=⟨e,u,_,_,_,rfl⟩;have H:bu b (.agg (ae b z C D)):=⟨f,v,_,_,_,rfl⟩;generalize ae a r x y=I at*;generalize ae b z C D=K at*;refine aM hm Oi ?_;refine bp λM k3=>?_;refine dk λN k4 k5 k6=>?_;refine hG λO k7 k8 k9 l0 l1=>?_;refine wi λQ l2 _ _ _ _ _ _=>?_;refine VF λE j _ _ _ _ _ _ _ _=>?_;refine VH λX l3 _ _ _ _ _ _ _ _ _ _=>?_;refine VI λY l4 _ _ _ _ _ _ _ _ _ _ _ _=>?_;generalize F:((((((h.set M _).set N _).set O _).set Q _).set E _).set X _).set Y _=G;have l:h.sub G:=by subst F;exact aV
 have Z:G E=β (.cells (ae aB .nil .nil .nil)):=by subst F;rw[<-cm];exact aV
 clear F;have l5:=(aN (O:=.nil) (e4:=.nil) (h5:=.nil) bg).len;refine ak (x0 G k o p (V.mono l) (cx c a b) [.agg [.J (ab c.1) W,.v (.bool c.2)]] [.agg I,.agg K] _ _ d s t ⟨⟨⟨_,rfl⟩,trivial⟩,⟨B,H,trivial⟩,bM.J (by simp[bc,τ]),bM.J (by simp[bc,τ,w.1,A.1]),by simp[cx],by simp[cx]⟩) ?_;rintro g l6⟨k0,m,k2⟩;have L:=(V.ct j);have l7:=χ (m E _ L.1 L.2 Z);obtain⟨n,P,S,T,l8,q,rfl⟩:=k2.shape;have l9:=(aN (O:=P) (e4:=S) (h5:=T) q).all;have n0:putAt (ae aB .nil .nil .nil) 0 (ae n P S T)=ae n P S T:=cC bg q;refine aa ?_;exact⟨_,θ,k0.set L,((ω l).trans m).dK j⟩
def kh(b:ad)(c:Nat)(d:an):Option ((Ρ×Bool)×List an):=
 match dn b c d with
 |none=>ε
 |some a=>if a.kind=1 then β (a.rows.headD ([],ι),a.kids)else ε
variable{w j0:an}{b3:bQ}{H:ad}
theorem E3(a:dn H e w=β b3):dE e b3=true:=by
 unfold dn at a;split at a
 .cases a
 split at a
 .cases a
 rename_i c d b;split at a
 .obtain rfl:=Δ a;unfold nG at b;grind
 .cases a
theorem E4(b:dE e b3=η)(c:b3.kind=1):α b3.rows=1/\α b3.kids=2/\∀a∈b3.kids,α a.key=0:=by simp_all [dE]
def Z7(b c:U)(d:List an)(h:R):Prop:=∃a,aw b c 37 (flat a) h/\aC bu d a
def xQ(d:U)(G l:Nat)(y:ad)(A:bh d G l y)(h:an)(L P S:Own)(m:α h.sum=32)(B:h.cH)(a:Nat)(H:1<=a)(I:a<=8):
  AC γ 221 [dz G a,.agg (ae h L P S)] d λT b=>d.sub b/\match kh y a h with
   |none=>T=.aF [.agg [.J [] .nil,.v (.bool ι)],.J [] .nil,.v (.int .i64 21)]
   |some (k,bw)=>∃K z,T=.aF [.agg [.J (ab k.1) K,.v (.bool k.2)],z,.v (.int .i64 0)]/\α bw=2/\Z7 d b bw z:=by
 have k9:=(aN (O:=L) (e4:=P) (h5:=S) m).all;refine aM hm Ol ?_;refine bp λM l0=>?_;refine dk λN l1 _ _=>?_;refine hG λC n _ _ _ _=>?_;generalize V:((d.set M _).set N _).set C _=W;have o:d.sub W:=by subst V;exact aV
 have p:W C=β (.cells [.J [] .nil,.v (.bool ι)]):=by subst V;exact aV
 clear V;refine ak (tJ W G l y (A.mono o) h L P S m (λ_=>B) a H I) ?_;rintro T O⟨D,E⟩;have Q:=χ (D _ _ p);rw[kh];cases e:dn y a h with
 |none=>
  rw[e]at E;obtain rfl:=E;refine aa ?_;refine aO λf c=>?_;have a:C≠f:=by rintro rfl;rw[D _ _ p]at c;cases c
  have X:=Ζ a;refine aa ?_;exact μ (ο o D) (Μ (ο o D) c)
 |some r=>
  rw[e]at E;obtain⟨k,z,rfl,F⟩:=E;refine aa ?_;refine aO λf c=>?_;have a:C≠f:=by rintro rfl;rw[F.sub _ _ p]at c;cases c
  have X:=Ζ a;have Q:=χ (F.sub _ _ p);have q:=ο o F.sub;have g:(r.kind=1)↔(r.kind.toNat:Int)=1:=by rw[<-a3Z];show r.kind.toNat=1↔ _;omega
  by_cases x:¬r.kind=1
  .have:=mt g.2 x;exact aV
  have x:=Decidable.not_not.1 x;have l2:=g.1 x;clear g;obtain⟨Y,l3,_⟩:=E4 (E3 e) x;obtain⟨l4,l5,Z,i,s,t,k0,_⟩:=F;obtain⟨l6,l7,l8⟩:=r
  dsimp only at*
  obtain⟨u,rfl⟩:=a4M.1 Y;have k2:=(bM.dC i δ rfl (t.cells λ_ _=>dy.cells)).mono s.1;obtain⟨l9,k3,k4,rfl⟩:=t.get (i:=0) rfl;obtain⟨v,w,k5⟩:=k2.get 0 _ k3;have k6:=λb j=>k5.ld b j η 2 δ (by simp[τ]);have w:cJ 2 k (.v (.int .i64 0))=β v:=w;have k7:∀b,O.sub b->cV η 2 b v=β (.agg [.J (ab u.1) k4,.v (.bool u.2)]):=λb j=>k6 b j;have n0:=k7 _ (μ (X:=.cells [.v (.int .u8 1),k,z]) θ c);refine aa ?_;refine⟨_,θ,μ (μ q (Μ q c)) n,?_⟩;have k8:=ο o i.1;exact⟨_,_,rfl,Z,(ja (s.mono (μ θ c)) (i.1 _ _ p)).base (μ k8 n),k0⟩
theorem dA.base{c:hx}{d h k:U}{o:Nat}{p:Χ}{r:R}{x:Χ}{y:R}(a:dA c h k o p r x y)(b:d.sub h):dA c d k o p r x y:=by refine⟨Μ b a.fX,a.x,a.l.base b,?_,a.gA,a.jm,a.lw⟩;obtain⟨z,C,D⟩:=a.w;refine⟨ο b z,C,D.imp_right ?_⟩;rintro⟨E,F,post,G,L,P⟩;exact⟨E,F,post,G,Μ b L,P⟩
noncomputable def res (b:Nat->Prop) (c:U):U:=λa=>open Classical in if b a then ε else c a
variable{j2:Nat -> Prop}
theorem qy(a:j2 e):res j2 f e=none:=if_pos a
theorem o3(a:¬j2 e):res j2 f e=f e:=if_neg a
theorem E5:(res j2 f).sub f:=λa b c=>by
 grind[qy,o3]
def E6(c:f.sub u):(res j2 f).sub (res j2 u):=λd h a=>by
 by_cases b:j2 d
 .rw[qy b]at a;cases a
 .rw[o3 b]at a|-;exact c _ _ a
def aw.res{a:Nat->Prop}{c d:U}{h:Nat}{k:Χ}{b:R}(r:aw c d h k b)(x:∀o,cG b=β o->¬a o):aw (res a c) (res a d) h k b:=by obtain⟨y,z⟩:=r;refine⟨E6 y,z.imp_right ?_⟩;rintro⟨p,C,D,E,rfl,F,G,L⟩;have:=x p rfl;exact⟨p,C,D,E,rfl,by rw[o3 this];exact F,by rw[o3 this];exact G,L⟩
def jn(b:Nat)(c d:R)(a:Nat):Prop:=a=b\/cG c=β a\/cG d=β a
variable{q b7:R}{g A c0:Χ}
def dA.wide{r:hx}(a:dA r u f e g q A b7):dA r (res (jn e q b7) f) f e g q A b7/\u.sub (res (jn e q b7) f):=by
 have z:u.sub (res (jn e q b7) f):=λC S b=>by
  have:¬jn e q b7 C:=by
   rintro(rfl|c|c)
   .rw[a.fX]at b;cases b
   .rw[aw.fresh a.l c]at b;cases b
   .obtain⟨_,_,⟨_,rfl|rfl⟩|⟨d,x,post,h,k,_,_,_,_,⟨rfl,_⟩|rfl⟩⟩:=a.w
    .cases c
    .cases c
    all_goals (obtain rfl:=Δ c;rw[k]at b;cases b)
  rw[o3 this];exact a.l.1 _ _ b
 refine⟨⟨qy (.inl rfl),a.x,?_,?_,a.gA,a.jm,a.lw⟩,z⟩
 .obtain⟨_,o⟩:=a.l;refine⟨E5,o.imp_right ?_⟩;rintro⟨d,D,h,E,rfl,k,p⟩;exact⟨d,D,h,E,rfl,qy (.inr (.inl rfl)),p⟩
 .obtain⟨_,o,F⟩:=a.w;refine⟨E5,o,F.imp_right ?_⟩;rintro⟨d,x,post,h,k,p,G,L,P,y⟩;refine⟨d,x,post,h,qy (.inr (.inr ?_)),p,G,L,P,y⟩;rcases y with⟨rfl,_⟩|rfl<;>rfl
def dA.sort{r:hx}(a:dA r u f e A b7 g q)(n:g≠[]):∃b c post,f=W f b c post g/\nX 41 q b (α c) (α g)/\b≠e/\∀d,d.Perm g->dA r u (W f b c post d) e A b7 d q:=by
 obtain⟨E,F,⟨h,_⟩|⟨b,c,post,G,o,L,P,S,T,p⟩⟩:=a.w
 .trivial
 have x:cG q=β b:=by rcases p with⟨rfl,_⟩|rfl<;>rfl
 have y:b≠e:=by rintro rfl;exact a.jm x
 refine⟨b,c,post,(U.rX L).symm,⟨λz s=>?_,a.w.len.1,a.w.len.2⟩,y,λd k=>⟨a.fX,?_,?_,⟨μ E o,λh V=>F h (k.mem_iff.1 V),.inr ⟨b,c,post,G,o,ν _ _ _,by rw[k.length_eq];exact P,S,by rw[k.length_eq];exact T,by rw[k.length_eq];exact p⟩⟩,a.gA,a.jm,a.lw⟩⟩
 .have C:(0)<=(z:Int):=δ;have D:(z:Int)<α g:=δ;rcases p with⟨rfl,rfl⟩|rfl
  .rw[jL C D,a3p,a3a,a3t]
  .rw[vM C D,a3p]
 .obtain⟨i,j,l,m⟩:=a.x;exact⟨i,j,l,(ξ _ _ y.symm).trans m⟩
 .refine aw.other a.l o λh=>a.lw _ h x
theorem dA.tail{a:hx}{z:R}(h:dA a u f e A b7 (q::g) z):∃b,c9 41 z (β (.v (.int .i64 1))) ε ε=β b/\b.cells=[b]/\(∀p r x,dA a u (f.set e (.cells (kQ a.fQ a.aT a.aS a.gg a.ec a.gU a.d b7 p r x b))) e A b7 g b)/\
  ∃c o,cJ 41 z (.v (.int .i64 0))=β (.ptr c o)/\cV η 37 f (.ptr c o)=β (.agg (q.cells.take 37)):=by
 obtain⟨l,P,⟨m,_⟩|⟨c,k,post,d,n,S,T,M,s,E⟩⟩:=h.w
 .cases m
 have V:cG z=β c:=by rcases E with⟨rfl,_⟩|rfl<;>rfl
 have N:c≠e:=by rintro rfl;exact h.jm V
 have W:=P q ρ;have t:flat (q::g)=q.cells++flat g:=rfl;rw[a3e]at T s E;have C:∀b:R,(cG b=ε\/cG b=β c)->((g=[]/\(b=.J [] .nil\/b=.J [] .zero))\/b=.bB c (k++q.cells).length (α g) (d - 1) 41)->∀p r x,dA a u (f.set e (.cells (kQ a.fQ a.aT a.aS a.gg a.ec a.gU a.d b7 p r x b))) e A b7 g b:=λb v F p r x=>by
  have i:cG b≠β e:=λy=>by simp_all
  have w:fP u f g b:=by refine⟨l,λB H=>P B (by simp[H]),F.imp_right λF=>?_⟩;refine⟨c,k++q.cells,post,d - 1,n,?_,δ,δ,δ,.inr F⟩;rw[S,t];simp
  exact⟨h.fX,⟨p,r,x,ν _ _ _⟩,aw.other h.l h.fX h.gA,w.other h.fX i,h.gA,i,λO I y=>by
   rcases v with G|G
   .rw[G]at y;cases y
   .rw[G]at y;obtain rfl:=Δ y;exact h.lw _ I V⟩
 have D:∀o,o=α k->cV η 37 f (.ptr c o)=β (.agg (q.cells.take 37)):=λo K=>by
  subst K;have Q:=κ S;have X:α k+37<=(k++flat (q::g)++post).length:=by grind
  simp_all [cV,aP,a4F]
 rcases E with⟨rfl,rfl⟩|rfl
 .by_cases j:1<d
  .refine⟨.bB c (1*41) (α g+1 - 1) (d - 1) 41,fK (e:=1) δ T j,rfl,C _ (.inr rfl) (.inr ?_),c,0,?_,D 0 rfl⟩
   .simp[W]
   .exact jL δ δ
  .obtain rfl:d=1:=δ;have L:g=[]:=a2Y δ;subst L;refine⟨.J [] .zero,tf rfl,rfl,C _ (.inl rfl) (.inl ⟨rfl,.inr rfl⟩),c,0,?_,D 0 rfl⟩;rfl
 .by_cases j:1<d
  .refine⟨.bB c (α k+1*41) (α g+1 - 1) (d - 1) 41,?_,rfl,C _ (.inr rfl) (.inr ?_),c,α k,?_,D _ rfl⟩
   .have Y:(1)<=((α g+1:Nat):Int):=δ;have c2:((α g+1:Nat):Int)<=d:=δ;have aE:(1:Int)<d:=δ;simp_all [c9,cA,Go.bt.intOf]
   .simp[W]
   grind[vM]
  .obtain rfl:d=1:=δ;have L:g=[]:=a2Y δ;subst L;refine⟨.J [] .zero,?_,rfl,C _ (.inl rfl) (.inl ⟨rfl,.inr rfl⟩),c,α k,?_,D _ rfl⟩
   .rfl
   rfl
section
variable(S:ad)(d:Nat)(lo hi:Ρ)
inductive lS:an->an->Prop
 |refl (k:an):lS k k
 |step {k a b:an}{n:bQ} (h:dn S d k=β n) (hk:a∈n.kids) (c:dY lo hi a=η) (o:lS a b):lS k b
def mU(h:an)(a:Ρ):Prop:=∃b c,lS S d lo hi h b/\dn S d b=β c/\(a,η)∈c.rows/\iE lo hi a=η
end
def bO(a:an):Nat:=2*a.size.toNat - 1
theorem xR(d h:Ρ)(c:Nat):∀(b:List an),(∀a∈b,dY d h a=η->1<=a.size)->(∀a∈b,(c:Int)<=a.size)->c<=1->((((b.filter (dY d h)).map bO).sum:Nat):Int)+(α b:Int)*c<=2*(b.map an.size).sum/\0<=(b.map an.size).sum
 |[],_,_,_=>by simp
 |a::b,o,p,he=>by
  have ih:=xR d h c b (λa k=>o a (by simp[k])) (λa k=>p a (by simp[k])) he;have r:=o a ρ;have x:=p a ρ;rw[a5Y,a3q,a4X,a3e];grind[Int.natCast_add,Int.add_mul,bO]
variable{n b6:Ρ}
theorem xS(a:dY n b6 w=η):w.live≠0:=by rw[dY,Ξ]at a;simp_all
variable{O e4 h5:Own}
def kR(a:α w.sum=32):putAt (ζ 32 (R.v (.int .u8 0))++[R.J [] .nil,.J [] .nil]++[.v (.int .i64 0),.v (.int .i64 0)]++[.J [] .nil]) 0 (ae w O e4 h5)=ae w O e4 h5:=by have:=(aN (O:=O) (e4:=e4) (h5:=h5) a).len;rw[putAt,this];simp
def sd(a:dE e b3=η):∀b∈b3.kids,eK e b=true:=by simp only[dE,Ξ,a3h]at a;exact a.1.2
def ki(b:eK e w=η):0<=w.size/\(w≠aB->1<=w.size)/\(w.live≠0->w≠aB):=by refine⟨(qg b).2.2.2.2.1,λa=>?_,λc a=>c (by rw[a];rfl)⟩;simp only[eK,decide_eq_false a,a7d,Ξ,a4p,a7b,decide_eq_false_iff_not]at b;omega
theorem E7(o:dn H e w=β b3):((b3.kids.filter (dY n b6)).map bO).sum<bO w/\1<=w.size:=by
 have h:=qi o;have z:w.size=α b3.rows+(b3.kids.map an.size).sum:=h.size;have k:=h.ok;simp only[dE,Ξ]at k;obtain⟨⟨_,c⟩,a⟩:=k;have c:=a3h.1 c;have d:∀w∈b3.kids,dY n b6 w=η->1<=w.size:=λw b d=>by
  obtain⟨_,p,r⟩:=ki (c w b);exact p (r (xS d))
 have x:∀w∈b3.kids,((0:Nat))<=w.size:=λw b=>(ki (c w b)).1;have y:=xR n b6 0 b3.kids d x δ;rw[show(α b3.kids)*((0:Nat):Int)=0 from Int.mul_zero _]at y;have C:(bO w)=2*w.size - 1\/w.size<1:=by unfold bO;omega
 split at a;grind;split at a;grind;split at a
 .simp only[Ξ,decide_eq_true_eq,a3h,a4p,decide_eq_false_iff_not]at a;have D:=xR n b6 1 b3.kids d (λw b=>(ki (c w b)).2.1 (a.2 w b).2) δ;omega
 .cases a
def lT(b:an->List Τ->Int×List Τ):List an->List Τ->Int×List Τ
 |[],a=>(0,a)
 |c::bw,a=>if(b c a).1=0 then lT b bw (b c a).2 else b c a
abbrev qz(b:ad)(a:an):Prop:=a.live=0\/b.m a.sum≠ε->a.cH
def fC(d:ad)(h:Nat)(c:List Τ->an->Bool×List Τ):Nat->an->List Τ->Int×List Τ
 |0,_,a=>(0,a)
 |k+1,b,a=>if b=aB then(0,a)else if(c a b).1=η then(match dn d h b with
   |none=>(21,(c a b).2)
   |some o=>lT (fC d h c k) o.kids (c a b).2)else(0,(c a b).2)
def aw.ue(a:aw f u e g q)(h:u.sub e1)(b:f i=β X)(c:f v=β j6):aw U.emp (iA i v e1) e g q:=by
 obtain⟨_,a|⟨k,o,p,r,x,d,y,z⟩⟩:=a
 .exact⟨C8,.inl a⟩
 .refine⟨C8,.inr ⟨k,o,p,r,x,rfl,qd (h _ _ y) ?_ ?_,z⟩⟩
  .rintro rfl;rw[d]at b;cases b
  .rintro rfl;rw[d]at c;cases c
def gh.ue{a h:U}{k o:Nat}{p:bQ}{r x:R}{F G:bl}(L:gh a h p r x)(y:a k=β F)(z:a o=β G):∃b c,fj (iA k o h) p r x b c:=by obtain⟨V,b,c,d,C,D,E,P,S⟩:=L;have bm:=aw.ue d C.1 y z;have T:=aw.ue C θ (d.1 _ _ y) (d.1 _ _ z);exact⟨b,c,D,E,bM.dC bm δ rfl (D.cells λ_ _=>dy.cells),bM.dC T δ rfl (E.cells λ_ _=>Η),P,S⟩
def xT(a:Nat)(h:a<=1):∀(b:List an),(∀c∈b,(a:Int)<=c.size)->((b.map bO).sum:Int)+a*α b<=2*(b.map an.size).sum
 |[],_=>by simp
 |c::b,d=>by
  have ih:=xT a h b λc k=>d c (by simp[k]);have o:=d c ρ;rw[a3q,a3q,a4X,a4X,a3e];rcases(by omega:a=0\/a=1)with rfl|rfl<;>simp only[bO]at* <;>omega
theorem E8(k:dn H e w=β b3):(b3.kids.map bO).sum<bO w/\1<=w.size/\∀o∈b3.kids,eK e o=true:=by
 have h:=qi k;have p:w.size=α b3.rows+(b3.kids.map an.size).sum:=h.size;have c:=h.ok;have d:=sd c;simp only[dE,Ξ]at c;obtain⟨⟨_,r⟩,a⟩:=c;have x:=xT 0 δ b3.kids λw b=>(ki (d w b)).1;have y:(bO w)=2*w.size - 1\/w.size<1:=by unfold bO;omega
 refine⟨?_,?_,d⟩
 all_goals
  split at a
  .grind
  split at a
  .grind
  split at a
  .simp only[Ξ,decide_eq_true_eq,a3h,a4p,decide_eq_false_iff_not]at a;have z:=xT 1 δ b3.kids λw b=>(ki (d w b)).2.1 (a.2 w b).2;omega
  .cases a
def xU(P:U)(n k0:Nat)(p:ad)(h:Nat)(l1:1<=h)(l2:h<=8)(k o:Nat)(q:Nat)(k2:Χ)(r:List Τ->an->Bool×List Τ)(T:U->Prop)
  (l3:fa γ q=η) (l4:∀b,T b->bh b n k0 p) (V:∀b x c,T b->eE P b k o c->dO k o b x->T x)
  (l5:∀b c a z C D,α a.sum=32->T b->eE P b k o c->α c<=1000000000->AC γ q (.agg (ae a z C D)::k2) b λs x=>dO k o b x/\eE P x k o (r c a).2/\s=.v (.bool (r c a).1))
  (l6:∀c a,(r c a).2.length<=α c+1):∀(E:Nat)(b:U)(_:T b)(c:List Τ)(_:eE P b k o c)(a:an)(z C D:Own),α a.sum=32->qz p a->(a≠aB->1<=a.size)->bO a<E->α c+bO a<=1000000000->
  AC γ 68 [.ptr n 0,.agg (ae a z C D),.v (.int .i64 (h:Int)),.bA q [] k2] b λs x=>dO k o b x/\eE P x k o (fC p h r E a c).2/\(fC p h r E a c).2.length<=α c+bO a/\s=.v (.int .i64 (fC p h r E a c).1)
 |0,_,_,_,_,_,_,_,_,_,_,_,t,_=>by omega
 |E+1,b,a00,c,u,a,z,C,D,eF,l7,a01,a68,a69=>by
  have a71:=(aN (O:=z) (e4:=C) (h5:=D) eF).all;refine aM hm Ku ?_;refine bp λv i=>?_;have w:=μ (X:=.cells (ae a z C D)) (θ (f:=b)) i;have ba:=ν b v (.cells (ae a z C D));generalize b.set v _=a02 at*;have l8:=V _ _ _ a00 u (dO.of w);have k3:=u.mono w;have l9:v≠k/\v≠o:=by obtain⟨_,a03,_⟩:=u.cM;obtain⟨_,⟨_,_,a04,_⟩,_⟩:=u.mp;exact⟨λA=>by rw[A,a03]at i;(cases i),λA=>by rw[A,a04]at i;(cases i)⟩
  have a05:=κ ba;have a73:=(aN (O:=.nil) (e4:=.nil) (h5:=.nil) bg).all;rw[fC];refine aa ?_;refine bd (lK a z C D _ eF λt=>l7 (.inl t)) ?_;refine aH (λF=>?_) λF=>?_;rotate_left
  .exact⟨_,θ,dO.of w,k3,δ⟩
  rw[if_neg F];refine eC l3 (l5 a02 c a z C D eF l8 k3 δ) ?_;rintro _ a06⟨j,l,rfl⟩;have a07:=l6 c a;have n0:=V _ _ _ l8 k3 j;have B:=(dO.of w).trans j;generalize r c a=a08 at*;obtain⟨a09,k4⟩:=a08
  dsimp only at l a07|-
  have a74:1<=bO a:=by have:=a01 F;unfold bO;omega
  cases a09 with
  |false=>refine aa ?_;exact⟨_,θ,B,l,δ⟩
  |true=>
   have a05:=κ (j _ _ (qd ba l9.1 l9.2));rw[if_pos rfl];refine aa ?_;refine ak (tJ a06 n k0 p (l4 _ n0) a z C D eF (λt=>l7 (.inr t)) h l1 l2) ?_;rintro s k5⟨W,H⟩;have k6:=l.mono W;cases k7:dn p h a with
   |none=>rw[k7]at H;obtain rfl:=H;refine aa ?_;refine bp λk8 m=>?_;exact⟨_,θ,B.trans (dO.of (μ W (Μ W m))),k6.mono (μ θ m),δ⟩
   |some d=>
    rw[k7]at H;obtain⟨y,a81,rfl,a10⟩:=H;obtain⟨a83,a84,a11⟩:=E8 k7;obtain⟨⟨a86,a13,_⟩,_,⟨_,⟨_,_,a14,_⟩,_⟩,_⟩:=id l;obtain⟨a88,a89,I⟩:=a10.ue a13 a14;have a90:=I.rO;have a92:=I.hn;have a15:=V _ _ _ n0 l (dO.of W);refine aa ?_;refine bp λk8 m=>?_;generalize K:(k5.set k8 _).set k8 _=a16;have n1:k5.sub a16:=by subst K;exact μ (μ θ m) m
    clear K;refine cQ [0,2,3,33,34] (λy:Nat×List Τ=>[(35,.v (.int .i64 (y.1:Int)))]) (λy x=>y.1<=α d.kids/\eE P x k o y.2/\dO k o k5 x/\α y.2<=α k4+((d.kids.take y.1).map bO).sum/\lT (fC p h r E) (d.kids.drop y.1) y.2=lT (fC p h r E) d.kids k4) (λy=>α d.kids - y.1) (0,k4) ⟨⟨a3N _,k6.mono n1,dO.of n1,ρ,rfl⟩,aV⟩ ?_;rintro⟨G,n2⟩ M ⟨a18,N,O,n3,L⟩ a94
    dsimp only at a18 N n3 L|-
    have a19:=V _ _ _ a15 k6 O;have a27:((d.kids.take G).map bO).sum+((d.kids.drop G).map bO).sum=(d.kids.map bO).sum:=by rw[<-a6J,<-a3V,a3y]
    refine aa ?_;refine aH (λF=>?_) λF=>?_
    .have Q:G<α d.kids:=δ;have n4:=drop_cons (a:=d.kids) (b:=aB) Q;have a29:=iy (a:=d.kids) (b:=aB) Q;have n5:d.kids[G]?=β (d.kids.getD G aB):=by simp[List.getD,Q]
     have a30:=a3d n5;generalize d.kids.getD G aB=S at*;obtain⟨_,a34,n9,a36,e,f,g,rfl⟩:=I.kids.get n5;obtain⟨a38,a95,X⟩:=I.hh.get G _ a34;have X:=X.mono O;have Y:=aN (O:=e) (e4:=f) (h5:=g) n9;change lJ M a38 (ae S e f g)at X;have a42:=X.ld M θ η 37 δ (by rw[Y.len];omega);rw[show aP η 37 (ae S e f g)=.agg (ae S e f g) by rw[aP,if_pos rfl,Y.t37]]at a42;have a43:=ki (a11 S a30);rw[n4,lT]at L;rw[n4,a3q,a4X]at a27;have Y:=Y.all;have ih:=xU P n k0 p h l1 l2 k o q k2 r T l3 l4 V l5 l6 E;have a47:=λZ a48 j=>ih Z a48 n2 j S e f g n9 (λ_=>a36) a43.2.1 δ δ;generalize ae S e f g=a96 at*;refine aa ?_;refine bp λa52 a56=>?_;generalize K:M.set a52 _=Z;have k9:M.sub Z:=by subst K;exact μ θ a56
     have a57:=V _ _ _ a19 N (dO.of k9);refine ak (a47 Z a57 (N.mono k9)) ?_;rintro _ a97⟨a61,l0,a62,rfl⟩;have a63:=O.trans ((dO.of k9).trans a61);generalize fC p h r E S n2=res at*;obtain⟨A,a65⟩:=res
     dsimp only at l0 a62 L|-
     refine aa ?_;refine aH (λF=>?_) λF=>?_
     .rw[if_neg F]at L;rw[<-L];exact⟨_,θ,B.trans ((dO.of W).trans a63),l0,by dsimp only;omega,rfl⟩
     .rw[if_pos F]at L;exact⟨(G+1,a65),⟨Q,l0,by rw[a29,a3V,a6J,List.map_singleton,List.sum_singleton];dsimp only;omega,L⟩,rfl,by dsimp only;omega⟩
    .obtain rfl:G=α d.kids:=δ;rw[a6z,lT]at L;rw[a3K]at n3;rw[<-L];exact⟨_,θ,B.trans ((dO.of W).trans O),N,by dsimp only;omega,rfl⟩
def Z8(c:U)(o p:Nat)(h:ad)(C:bh c o p h)(a:Τ)(k:α a=32):
  AC γ 21 [.ptr o 0,c3 a] c λD E=>c.sub E/\D=.v (.bool (h.m a).isSome):=by
 obtain⟨⟨i,j,F⟩,⟨d,G,b⟩,_,_⟩:=C;have b:=b a k;have l:(a.map ao).length=32:=by simp[k]
 have m:aP η 32 (a.map ao)=c3 a:=by rw[aP,if_pos rfl,a2U δ];rfl
 have L:(c3 a).cells=a.map ao:=rfl;refine aM hm Jf ?_;refine aO λr P=>?_;rw[L];have aE:=ν c r (.cells (a.map ao));have x:=μ (X:=.cells (a.map ao)) (θ (f:=c)) P;generalize c.set r _=S at*;have n:=κ (x _ _ F);have q:=κ aE;have T:mz S p oR d:=by obtain⟨V,W,e,f⟩:=G;exact⟨V,W,x _ _ e,f⟩
 refine aa ?_;refine td T (nH k) (λv y=>?_) (λz=>?_)
 .cases hm:h.m a with
  |none=>rw[hm]at b;rw[show d (.agg (a.map ao))=d (c3 a)from rfl,b]at y;cases y
  |some g=>refine aa ?_;rfl
 .cases hm:h.m a with
  |none=>refine aa ?_;rfl
  |some g=>rw[hm]at b;obtain⟨s,t,b⟩:=b;rw[show d (.agg (a.map ao))=d (c3 a)from rfl,b]at z;cases z
def mV(a:List Τ)(b:an):Bool×List Τ:=(decide (b.sum∉a),eL a b.sum)
def kS(c:ad)(a:List Τ)(b:an):Bool×List Τ:=if(c.m b.sum).isSome=η then(η,a)else(ι,eL a b.sum)
variable{j4:List Τ}{B:Τ}
def E9:(eL j4 B).length<=α j4+1:=by
 unfold eL;split
 .omega
 .simp
def eE.at(a:eE u f e i j4):∃b av,f e=β b/\f i=β av:=by obtain⟨_,c,_⟩:=a.cM;obtain⟨_,⟨_,_,d,_⟩,_⟩:=a.mp;exact⟨_,_,c,d⟩
def Z9(r b:U)(c p y:Nat)(d:List Τ)(a:an)(h k o:Own)(z:α a.sum=32)(D:eE r b c p d)(E:b y=β (.cells [.ptr c 0]))(F:α d<=1000000000):
  AC γ 69 [.agg (ae a h k o),.ptr y 0] b λG C=>dO c p b C/\eE r C c p (mV d a).2/\G=.v (.bool (mV d a).1):=by
 have L:=(aN (O:=h) (e4:=k) (h5:=o) z).all;have W:aP η 32 (ae a h k o)=c3 a.sum:=by rw[aP,if_pos rfl,L.2.2.1];rfl
 refine aM hm Kw ?_;refine bp λP S=>?_;have x:=μ (X:=.cells (ae a h k o)) (θ (f:=b)) S;have c2:=ν b P (.cells (ae a h k o));have e:=κ (x _ _ E);have f:=κ c2;refine aa ?_;refine ak (Cc r _ c p d (D.mono x) a.sum z F) ?_;rintro _ g⟨T,V,rfl⟩;refine aa ?_;exact⟨_,θ,(dO.of x).trans T,V,rfl⟩
def Za(z b:U)(c x F G C L:Nat)(d:ad)(h:List Τ)(a:an)(k o p:Own)(D:α a.sum=32)(P:eE z b c x h)(S:b F=β (.cells [.ptr c 0]))(V:b G=β (.cells [.ptr C 0]))(W:bh b C L d)(e:α h<=1000000000):
  AC γ 85 [.agg (ae a k o p),.ptr G 0,.ptr F 0] b λf T=>dO c x b T/\eE z T c x (kS d h a).2/\f=.v (.bool (kS d h a).1):=by
 have g:=(aN (O:=k) (e4:=o) (h5:=p) D).all;have t:aP η 32 (ae a k o p)=c3 a.sum:=by rw[aP,if_pos rfl,g.2.2.1];rfl
 refine aM hm KQ ?_;refine bp λi j=>?_;have r:=μ (X:=.cells (ae a k o p)) (θ (f:=b)) j;have c2:=ν b i (.cells (ae a k o p));have l:=κ (r _ _ S);have u:=κ (r _ _ V);have m:=κ c2;unfold kS;refine aa ?_;refine ak (Z8 _ C L d (W.mono r) a.sum D) ?_;rintro _ n⟨E,rfl⟩;have y:=ο r E;have l:=κ (E _ _ (r _ _ S));have m:=κ (E _ _ c2);cases cf:(d.m a.sum).isSome with
 |true=>refine aa ?_;exact⟨_,θ,dO.of y,P.mono y⟩
 |false=>refine aa ?_;refine ak (Cc z n c x h (P.mono y) a.sum D e) ?_;rintro _ v⟨q,s,rfl⟩;refine aa ?_;exact⟨_,θ,(dO.of y).trans q,s⟩
def lU(b:ad)(c:Nat)(a:an)(d:List Τ):Int×List Τ:=fC b c mV (bO a+1) a d
def kT(a:ad)(c:Nat)(b:an)(d:List Τ):Int×List Τ:=fC a c (kS a) (bO b+1) b d
def xV(C:Nat)(p:ad->Nat->an->List Τ->Int×List Τ):Prop:=∀(r h:U)(k o x y:Nat)(d:ad)(b:Nat)(c:List Τ)(a:an)(D E F:Own),1<=b->b<=8->bh h x y d->y≠o->eE r h k o c->α a.sum=32->qz d a->(a≠aB->1<=a.size)->α c+bO a<=1000000000->
  AC γ C [.ptr k 0,.ptr x 0,.agg (ae a D E F),.v (.int .i64 (b:Int))] h λG z=>dO k o h z/\eE r z k o (p d b a c).2/\(p d b a c).2.length<=α c+bO a/\G=.v (.int .i64 (p d b a c).1)
def Zb:xV 32 lU:=λL a d E P S T e h b k o p f g i j r x l m F=>by
 have I:=(aN (O:=k) (e4:=o) (h5:=p) x).all;obtain⟨K,av,n,q⟩:=r.at;refine aM hm Jx ?_;refine bp λc y=>?_;refine dk λV M _ _=>?_;generalize z:(a.set c _).set V _=C;have G:a.sub C:=by subst z;exact aV
 have c2:C V=β (.cells (ae b k o p)):=by subst z;exact aV
 have s:C c=β (.cells [.ptr d 0]):=by subst z;exact aV
 clear z;have t:c≠d:=by rintro rfl;rw[n]at y;cases y
 have u:c≠E:=by rintro rfl;rw[q]at y;cases y
 have N:=κ c2;refine aa ?_;refine ak (xU L P S T e f g d E _ _ mV (λa=>bh a P S T/\a c=β (.cells [.ptr d 0])) Ο (λa D=>D.1) (λa O h D v W=>⟨D.1.fc v W j,W _ _ (qd D.2 t u)⟩)
  (λa h b k o p x w r F=>Z9 L a d E c h b k o p x r w.2 F) (λh b=>E9) (bO b+1) C ⟨i.mono G,s⟩ h (r.mono G) b k o p x l m δ F) ?_
 rintro _ Q⟨A,B,H,rfl⟩;refine aa ?_;exact⟨_,θ,(dO.of G).trans A,B,H,rfl⟩
def Zc:xV 39 kT:=λf a b D k S E m o c p r x n q s t F G u v T=>by
 have Q:=(aN (O:=p) (e4:=r) (h5:=x) G).all;obtain⟨X,av,g,i⟩:=F.at;refine aM hm JA ?_;refine bp λd L=>?_;refine dk λh P _ _=>?_;refine hG λj Y _ _ _ _=>?_;generalize y:((a.set d _).set h _).set j _=z;have V:a.sub z:=by subst y;exact aV
 have c2:z j=β (.cells (ae c p r x)):=by subst y;exact aV
 have w:z d=β (.cells [.ptr b 0]):=by subst y;exact aV
 have l:z h=β (.cells [.ptr k 0]):=by subst y;exact aV
 clear y;have A:d≠b:=by rintro rfl;rw[g]at L;cases L
 have B:d≠D:=by rintro rfl;rw[i]at L;cases L
 have H:h≠b:=by rintro rfl;rw[g]at P;cases P
 have I:h≠D:=by rintro rfl;rw[i]at P;cases P
 have Z:=κ c2;have k0:=κ l;refine aa ?_;refine ak (xU f k S E m n q b D _ _ (kS E) (λa=>bh a k S E/\a d=β (.cells [.ptr b 0])/\a h=β (.cells [.ptr k 0])) Ο (λa C=>C.1) (λa k2 o C K W=>⟨C.1.fc K W t,W _ _ (qd C.2.1 A B),W _ _ (qd C.2.2 H I)⟩)
  (λa o c p r x G e F T=>Za f a b D d h k S E o c p r x G F e.2.1 e.2.2 e.1 T) (λo c=>by unfold kS;split;(·dsimp only;omega);exact E9) (bO c+1) z ⟨s.mono V,w,l⟩ o (F.mono V) c p r x G u v δ T) ?_
 rintro _ k3⟨M,N,O,rfl⟩;refine aa ?_;exact⟨_,θ,(dO.of V).trans M,N,O,rfl⟩
def Ea(r:Nat)(d:ad->Nat->an->List Τ->Int×List Τ)(W:xV r d)(e:fa γ r=η)(h:U)(x y:Nat)(c:ad)(E:bh h x y c)(a:an)(k o p:Own)(F:α a.sum=32)(f:qz c a)(g:a≠aB->1<=a.size)(i:bO a<=1000000000)(b:Nat)(j:1<=b)(l:b<=8):
  AC γ 35 [.ptr x 0,.agg (ae a k o p),.v (.int .i64 (b:Int)),.bA r [] []] h λG m=>h.sub m/\((d c b a []).1=0->∃z,G=.aF [.J ((d c b a []).2.map c3) z,.v (.int .i64 0)])/\((d c b a []).1≠0->G=.aF [.J [] .nil,.v (.int .i64 (d c b a []).1)]):=by
 have H:=(aN (O:=k) (e4:=o) (h5:=p) F).all;have I:¬(b:Int)<1:=δ;have K:¬(8:Int)<(b:Int):=δ;refine aM hm Af ?_;refine bp λn q=>?_;have C:=μ (X:=.cells (ae a k o p)) (θ (f:=h)) q;have ba:=ν h n (.cells (ae a k o p));refine aa ?_;refine ak (Cb _) ?_;rintro _ s⟨t,L,M,P,rfl,S⟩;have T:=S.sub;have N:=κ (T _ _ ba);have u:=E.mono (ο C T);have v:y≠L:=by obtain⟨_,⟨_,_,w,_⟩,_⟩:=E.mp;rintro rfl;rw[C _ _ w]at P;cases P
 refine aa ?_;refine eC e (W _ s t L x y c b [] a k o p j l u v S F f g (by simpa using i)) ?_;rintro _ O⟨Q,V,X,rfl⟩;have Y:=ο C V.sub;obtain⟨⟨z,A,_⟩,_⟩:=id V;have fe:=κ A;generalize d c b a []=res at*;obtain⟨Z,k0⟩:=res
 dsimp only at*
 refine aa ?_;refine aH (λB=>?_) λB=>?_
 .exact⟨λD=>D.elim,λ_=>trivial⟩
 .exact⟨λ_=>⟨z,rfl⟩,λD=>D.elim⟩
def Eb(o:Nat)(a:U)(p:Nat)(b:an)(c d h:Own)(r:α b.sum=32)(k:Int)(C:k<1\/8<k):
  AC γ 35 [.ptr p 0,.agg (ae b c d h),.v (.int .i64 k),.bA o [] []] a λx y=>a.sub y/\x=.aF [.J [] .nil,.v (.int .i64 1)]:=by
 have D:=(aN (O:=c) (e4:=d) (h5:=h) r).all;refine aM hm Af ?_;refine bp λE z=>?_;have F:=μ (X:=.cells (ae b c d h)) (θ (f:=a)) z
 repeat' first|refine aH (λ_=>?_) λ_=>?_|trivial
 omega
def Ec(d:U)(p y:Nat)(c:ad)(G:bh d p y c)(a:an)(h k o:Own)(z:α a.sum=32)(L:qz c a)(P:a≠aB->1<=a.size)(S:bO a<=1000000000)(b:Nat)(T:1<=b)(V:b<=8):
  AC γ 14 [.ptr p 0,.agg (ae a h k o),.v (.int .i64 (b:Int))] d λC W=>d.sub W/\((lU c b a []).1=0->∃D,C=.aF [.J ((lU c b a []).2.map c3) D,.v (.int .i64 0)])/\((lU c b a []).1≠0->C=.aF [.J [] .nil,.v (.int .i64 (lU c b a []).1)]):=by
 have i:=(aN (O:=h) (e4:=k) (h5:=o) z).all;refine aM hm Ac ?_;refine bp λj e=>?_;have r:=μ (X:=.cells (ae a h k o)) (θ (f:=d)) e;refine ak (Ea _ _ Zb Ο _ p y c (G.mono r) a h k o z L P S b T V) ?_;rintro _ l⟨E,f,g⟩;by_cases F:(lU c b a []).1=0
 .obtain⟨D,rfl⟩:=f F;refine aa ?_;exact⟨ο r E,λ_=>trivial,λx=>x.elim⟩
 .obtain rfl:=g F;refine aa ?_;exact⟨ο r E,λx=>x.elim,λ_=>trivial⟩
def Zd(k:U)(o:Nat)(a:an)(b c d:Own)(p:α a.sum=32)(h:Int)(r:h<1\/8<h):
  AC γ 14 [.ptr o 0,.agg (ae a b c d),.v (.int .i64 h)] k λx y=>k.sub y/\x=.aF [.J [] .nil,.v (.int .i64 1)]:=by
 have E:=(aN (O:=b) (e4:=c) (h5:=d) p).all;refine aM hm Ac ?_;refine bp λF z=>?_;have C:=μ (X:=.cells (ae a b c d)) (θ (f:=k)) z;refine ak (Eb _ _ o a b c d p h r) ?_;rintro _ G⟨D,rfl⟩;refine aa ?_;exact ο C D
def xW(d:U)(p y:Nat)(c:ad)(G:bh d p y c)(a:an)(h k o:Own)(z:α a.sum=32)(L:qz c a)(P:a≠aB->1<=a.size)(S:bO a<=1000000000)(b:Nat)(T:1<=b)(V:b<=8):
  AC γ 22 [.ptr p 0,.agg (ae a h k o),.v (.int .i64 (b:Int))] d λC W=>d.sub W/\((kT c b a []).1=0->∃D,C=.aF [.J ((kT c b a []).2.map c3) D,.v (.int .i64 0)])/\((kT c b a []).1≠0->C=.aF [.J [] .nil,.v (.int .i64 (kT c b a []).1)]):=by
 have i:=(aN (O:=h) (e4:=k) (h5:=o) z).all;refine aM hm Ad ?_;refine bp λj e=>?_;have r:=μ (X:=.cells (ae a h k o)) (θ (f:=d)) e;refine ak (Ea _ _ Zc Ο _ p y c (G.mono r) a h k o z L P S b T V) ?_;rintro _ l⟨E,f,g⟩;by_cases F:(kT c b a []).1=0
 .obtain⟨D,rfl⟩:=f F;refine aa ?_;exact⟨ο r E,λ_=>trivial,λx=>x.elim⟩
 .obtain rfl:=g F;refine aa ?_;exact⟨ο r E,λx=>x.elim,λ_=>trivial⟩
def Ze(k:U)(o:Nat)(a:an)(b c d:Own)(p:α a.sum=32)(h:Int)(r:h<1\/8<h):
  AC γ 22 [.ptr o 0,.agg (ae a b c d),.v (.int .i64 h)] k λx y=>k.sub y/\x=.aF [.J [] .nil,.v (.int .i64 1)]:=by
 have E:=(aN (O:=b) (e4:=c) (h5:=d) p).all;refine aM hm Ad ?_;refine bp λF z=>?_;have C:=μ (X:=.cells (ae a b c d)) (θ (f:=k)) z;refine ak (Eb _ _ o a b c d p h r) ?_;rintro _ G⟨D,rfl⟩;refine aa ?_;exact ο C D
structure By(c:U)(x:R)(b:Τ):Prop where
 one:x.cells=[x]
 len:fY x=β (.v (.int .i64 (α b)))
 src:∀a,c.sub a->wh a x b
def bV:Τ->Τ->Bool
 |_,[]=>ι
 |[],_:: _=>η
 |a::c,b::d=>if a=b then bV c d else decide (a<b)
theorem Zf:∀b a:Τ,Op.bytesLess b a=bV b a:=by
 intro b
 induction b with
 |nil=>intro a;cases a<;>simp[Op.bytesLess,bV]
 |cons c b ih=>
  intro a;cases a with
  |nil=>rfl
  |cons d a=>simp only[Op.bytesLess,bV,ih];split<;>simp_all
theorem xX(a:Τ):bV a a=false:=by induction a<;>simp_all [bV]
theorem Ed:∀b a:Τ,bV b a=ι->bV a b=ι->b=a:=by
 intro b
 induction b with
 |nil=>intro a;cases a<;>simp[bV]
 |cons c b ih=>
  intro a;cases a with
  |nil=>simp[bV]
  |cons d a=>simp only[bV];grind
theorem uf:∀c a b:Τ,bV c a=η->bV a b=η->bV c b=true:=by
 intro c
 induction c with
 |nil=>intro a b;cases a<;>cases b<;>simp[bV]
 |cons d c ih=>
  intro a b;cases a with
  |nil=>simp[bV]
  |cons h a=>
   cases b with
   |nil=>simp[bV]
   |cons k b=>simp only[bV];grind
theorem ug(a b:Τ):ir .lss (bo a) (bo b)=β (.v (.bool (bV a b)))/\ir .geq (bo a) (bo b)=β (.v (.bool (!bV a b)))/\
  ir .leq (bo a) (bo b)=β (.v (.bool (bV a b||decide (a=b))))/\ir .gtr (bo a) (bo b)=β (.v (.bool (!(bV a b||decide (a=b))))):=by
 grind[decide,bo,rh,br,py,toList_mk,Zf]
variable{h4:aU}
def ef.at_(C:ef h4 g):∃D E,aP ι 1 (g.drop 36)=.v (.int .i64 h4.cc.live)/\aP ι 1 (g.drop 38)=.J (ab h4.cc.key) D/\aP ι 1 (g.drop 73)=.v (.int .i64 h4.cE.live)/\aP ι 1 (g.drop 74)=.v (.int .i64 h4.cE.size)/\aP ι 1 (g.drop 75)=.J (ab h4.cE.key) E:=by
 obtain⟨⟨y,o,p,c,d,h,b,rfl⟩,⟨F,_⟩,⟨G,_⟩,_⟩:=C;have k:=aN (O:=o) (e4:=p) (h5:=c) F;have r:=aN (O:=d) (e4:=h) (h5:=b) G;have z:∀a,a<=37->(bo h4.name::.J (bY h4.aG) y::(ae h4.cc o p c++ae h4.cE d h b)).drop (a+2)=(ae h4.cc o p c).drop a++ae h4.cE d h b:=λa L=>by
  simp only[a5o];rw[a4Y (by have:=k.len;omega)]
 have x:∀a,(bo h4.name::.J (bY h4.aG) y::(ae h4.cc o p c++ae h4.cE d h b)).drop (a+37+2)=(ae h4.cE d h b).drop a:=λa=>by
  simp only[a5o];rw[a4z,a4B (by rw[k.len];omega),k.len,a3l];congr 1
 refine⟨c,b,?_,?_,?_,?_,?_⟩
 .rw[z 34 δ,k.d34];rfl
 .rw[z 36 δ,k.d36];rfl
 .rw[x 34,r.d34];rfl
 .rw[x 35,r.d35];rfl
 .rw[x 36,r.d36];rfl
def ft(a:aU):Bool:=ew ⟨1,a.name,a.aG,[]⟩&&(eK (α a.aG+1) a.cc&&(eK (α a.aG+1) a.cE&&(decide (a.cc.live=a.cE.live)&&(decide (α a.cc.key=0)&&
 (decide (a.cE=aB)||(decide (α a.cE.key=α a.aG+1)&&decide (a.cE.size=a.cE.live)))))))
structure aU.Fit(t:aU):Prop where
 n:α t.name<=1000000
 c:α t.aG<=1000000
 cs:∀c∈t.aG,α c<=1000000
def uh(a:aU)(b:Χ)(c:ef a b)(d:U):AC γ 67 [.agg b] d λh k=>k=d/\h=.v (.int .i64 ((α a.aG+1:Nat):Int)):=by obtain⟨o,p,r,x,bm,y,z,C,D,E,F,G,L⟩:=c.all;have P:=kO (j4:=a.aG);have S:=c.c;refine aM hm Ks ?_;refine bp λT V=>?_;trivial
theorem qA(a:aU)(c:Χ)(b:ef a c)(o:a.Fit)(d:U):AC γ 125 [.agg c] d λp r=>r=d/\p=.v (.bool (ft a)):=by
 obtain⟨V,W,e,x,bm,y,z,C,D,E,f,g,i⟩:=b.all;obtain⟨j,l,m,n,q,s,t⟩:=b.at_;have u:=kO (j4:=a.aG);have v:=bK (n:=a.cc.key);have w:=bK (n:=a.cE.key);obtain⟨F,G,L⟩:=o;have A:∀h,eK h aB=true:=λh=>by rfl
 refine aM hm M4 ?_;refine bp λk B=>?_;refine bd (uh a c b _) ?_;refine bd (DM ⟨⟨1,a.name,a.aG,[]⟩,x,.nil⟩ ⟨F,G,L,ρ⟩ _) ?_;have P:=wP a.cc bm y z (α a.aG+1) (d.set k (.cells c)) δ b.k.1 b.k.2;have S:=wP a.cE C D E (α a.aG+1) (d.set k (.cells c)) δ b.z.1 b.z.2;refine aH (λT=>?_) λT=>?_
 .rw[ft];exact bf
 refine bd P ?_
 repeat' first|refine aH (λ_=>?_) λ_=>?_|trivial
 all_goals try (rw[ft];exact bf)
 .refine bd S ?_
  repeat' first|refine aH (λ_=>?_) λ_=>?_|trivial
  all_goals try (rw[ft];exact bf)
  all_goals refine bd (lK _ _ _ _ _ b.z.1 λ_=>b.z.2) ?_
  all_goals repeat' first|refine aH (λ_=>?_) λ_=>?_|trivial
  all_goals grind[ft,bf]
def cK(a:List aU):Bool:=(ψ (α a)).all (λb=>ft (a.getD b default)&&(decide (b=0)||bV (a.getD (b - 1) default).name (a.getD b default).name))&&decide (α a<=8)
theorem o4(a:List aU)(E:Χ)(e:Own)(y:aC fr a E)(f:∀d∈a,d.Fit)(s:α a<=1000000)(k:U):AC γ 71 [.J E e] k λg z=>z=k/\g=.v (.bool (cK a)):=by
 have t:=y.len;refine aM hm KA ?_;refine cQ [0,5,6] (λb:Nat=>[(7,.v (.int .i64 b))]) (λb z=>k.sub z/\b<=α a/\∀c<b,(ft (a.getD c default)&&(decide (c=0)||bV (a.getD (c - 1) default).name (a.getD c default).name))=η) (λb=>α a - b) 0 ⟨⟨θ,δ,λc C=>by omega⟩,aV⟩ ?_;rintro b F⟨G,u,i⟩v;refine aa ?_;refine aH (λj=>?_) λj=>?_
 .have L:a[b]?=β (a.getD b default):=by simp_all
  obtain⟨_,w,T,rfl,o⟩:=y.get L;have P:=f _ (a3d L);generalize l:a.getD b default=d at*;have A:=kA (q:=.agg T) o.all.1;obtain⟨B,H,I,K,bm,M,N,O,Q,X,Y,Z,k0⟩:=o.all;obtain⟨p,r⟩:∃p,p=(ft d&&(decide (b=0)||bV (a.getD (b - 1) default).name d.name)):=⟨_,rfl⟩;have k2:p=ι->cK a=false:=λC=>by
   grind[cK,tg]
  have k3:p=η->∃x,(x<=α a/\∀c<x,(ft (a.getD c default)&&(decide (c=0)||bV (a.getD (c - 1) default).name (a.getD c default).name))=η)/\R.v (.int .i64 ((b)+1))=.v (.int .i64 (x))/\α a - x<α a - b:=λC=>
   ⟨b+1,⟨δ,upto i (by rw[l,<-r];exact C)⟩,rfl,δ⟩
  have k4:∀h S,F h=ε->k.sub (F.set h S):=λh S D=>μ G (Μ G D);by_cases V:b=0
  .subst V;simp only[decide_true,Bool.true_or,a7c]at r;subst r;refine aa ?_;refine bp λh D=>?_;refine bd (qA d T o P _) ?_
   repeat' first|refine aH (λ_=>?_) λ_=>?_|trivial
   simp_all
  .have m:a[b - 1]?=β (a.getD (b - 1) default):=by grind
   obtain⟨_,k5,n,rfl,W⟩:=y.get m;generalize a.getD (b - 1) default=q at*;have k6:=kA (q:=.agg n) W.all.1;obtain⟨k7,k8,k9,_⟩:=W.all;have l0:(b) - 1=((b - 1:Nat):Int):=δ;have l1:=(ug q.name d.name).2.1;simp only[decide_eq_false V,a7d]at r;refine aa ?_;refine bp λh D=>?_;refine bd (qA d T o P _) ?_
   repeat' first|refine aH (λ_=>?_) λ_=>?_|trivial
   all_goals simp_all
 grind[cK,th,bf]
def mW(a b:Τ):Int:=if bV a b=η then -1 else if a=b then 0 else 1
def Ee(b:Τ)(a:U):AC γ 296 [bo b] a λc d=>d=a/\c=.v (.bool ι):=by have k:=λh v=>@Bf h v;refine aM hm Qi ?_;trivial
theorem Zg(a b:Τ)(c:U):AC γ 262 [bo a,bo b] c λh k=>k=c/\h=.v (.int .i64 (mW a b)):=by
 obtain⟨p,r,x,y⟩:=ug a b;refine aM hm Px ?_;refine bd (Ee a c) ?_;refine bd (Ee b c) ?_;refine aH (λd=>?_) λd=>?_
 .rw[mW,if_pos d]
 .refine aH (λo=>?_) λo=>?_;simp_all [mW];simp_all [mW]
def Zh(a:aU)(b:Χ)(d:ef a b)(c:U):AC γ 209 [.agg b] c λh k=>k=c/\h=bo a.name:=by obtain⟨o,p,r,_⟩:=d.all;refine aM hm O3 ?_;refine bp λx y=>?_;trivial
def Ef(a:aU)(b:Χ)(h:ef a b)(k:Τ)(c:U)(d:Nat)(o:c.read d=β [.bA 209 [] []]):AC γ 261 [.agg b,bo k,.ptr d 0] c λp r=>r=c/\p=.v (.int .i64 (mW a.name k)):=by
 obtain⟨z,C,_⟩:=h.all;refine aM hm Pv ?_;refine aO λx y=>?_;have D:d≠x:=by rintro rfl;simp[U.read,y]at o
 refine aa ?_;refine oM (Zh a b h _) ?_;refine bd (Zg _ _ _) ?_;trivial
def Place(a:List aU)(d:Τ)(c:Nat):Prop:=c<=α a/\(∀b<c,bV (a.getD b default).name d=η)/\∀b<α a,c<=b->bV (a.getD b default).name d=ι
theorem Eg{a:Τ}:mW B a<0↔bV B a=true:=by grind[mW]
theorem Zi{a:Τ}:mW B a=0↔B=a:=by
 unfold mW;split
 .rename_i b;simp;rintro rfl;rw[xX]at b;cases b
 .simp
theorem Zj(c:List aU)(y:Χ)(V:Own)(d:Τ)(G:aC fr c y)(u:α c<=1000000)(W:∀a b,a<b->b<α c->bV (c.getD a default).name (c.getD b default).name=η)(p:U)(r:Nat)(L:p.read r=β [.bA 209 [] []]):
  AC γ 260 [.J y V,bo d,.bA 261 [] [.ptr r 0]] p λe f=>f=p/\∃a,Place c d a/\e=.aF [.v (.int .i64 (a:Int)),.v (.bool (decide (a<α c)&&decide ((c.getD a default).name=d)))]:=by
 have v:=G.len;have el:∀a,a<α c->∃T,y[a]?=β (.agg T)/\ef (c.getD a default) T/\eJ 76 (β (.agg T))=β (.bR T)/\α T=76/\T.take 76=T:=λa z=>by
  obtain⟨_,g,T,rfl,k⟩:=G.get (i:=a) (x:=c.getD a default) (by simp_all);exact⟨T,g,k,kA k.all.1,k.all.1,k.all.2.1⟩
 have i:∀a,a<α c->bV (c.getD a default).name d=η->∀b,b<a+1->bV (c.getD b default).name d=true:=λa z o b P=>by
  rcases Nat.lt_or_eq_of_le (Nat.le_of_lt_succ P)with C|rfl
  .exact uf _ _ _ (W b a C z) o
  .exact o
 have j:∀a,a<α c->bV (c.getD a default).name d=ι->∀b,b<α c->a<=b->bV (c.getD b default).name d=false:=λa z o b P w=>by
  grind
 refine aM hm Pt ?_;refine hj [0,1,2,8] (λh:Nat×Nat=>[(9,.v (.int .i64 h.1)),(10,.v (.int .i64 h.2))]) (λh=>h.1<=h.2/\h.2<=α c/\(∀b<h.1,bV (c.getD b default).name d=η)/\∀b<α c,h.2<=b->bV (c.getD b default).name d=ι) (λh=>h.2 - h.1) (0,α c) ⟨ρ,ρ,λb o=>by simp at o,λb o x=>by simp at x;omega⟩ aV ?_;rintro⟨a,b⟩ ⟨C,x,D,E⟩ A
 dsimp only at C x D E|-
 have B:br .shr (.int .u64 ((a)+(b))) (.int .u64 1)=β (.int .u64 (((a+b)/2:Nat))):=by rw[show(a)+(b)=((a+b:Nat):Int) by omega,rk _ _ _ δ δ];rfl
 by_cases H:(a:Int)<b
 .obtain⟨T,l,k,m,n,q⟩:=el ((a+b)/2) δ;have s:=i ((a+b)/2) δ;have t:=j ((a+b)/2) δ;generalize I:(a+b)/2=S at*;refine aa ?_;refine oM (Ef _ T k d p r L) ?_;refine aH (λF=>?_) λF=>?_
  .exact⟨(S+1,b),⟨by simp only;omega,by simp only;omega,s (Eg.1 F),E⟩,⟨rfl,rfl⟩,by simp only;omega⟩
  .exact⟨(a,S),⟨by simp only;omega,by simp only;omega,D,t (by simpa[Eg] using F)⟩,⟨rfl,rfl⟩,by simp only;omega⟩
 .obtain rfl:a=b:=δ;have K:Place c d a:=⟨x,D,E⟩;by_cases c2:(a:Int)<α c
  .obtain⟨T,l,k,m,n,q⟩:=el a δ;refine aa ?_;refine oM (Ef _ T k d p r L) ?_;grind[Zi]
  .refine aa ?_;grind
def Zk(b:List aU)(d:Χ)(x:Own)(c:Τ)(y:aC fr b d)(z:α b<=1000000)(C:∀a h,a<h->h<α b->bV (b.getD a default).name (b.getD h default).name=η)(k:U):
  AC γ 159 [.J d x,bo c] k λo p=>p=k/\∃a,Place b c a/\o=.aF [.v (.int .i64 (a:Int)),.v (.bool (decide (a<α b)&&decide ((b.getD a default).name=c)))]:=by
 refine aM hm ML ?_;refine ak (Z:=λo p=>p=k/\∃a,Place b c a/\o=.aF [.v (.int .i64 (a)),.v (.bool (decide (a<α b)&&decide ((b.getD a default).name=c)))]) ?_ ?_
 .refine aM hm O1 ?_;refine bp λD E=>?_;refine ak (Zj b d x c y z C _ D (U.AA)) ?_;rintro _ _⟨rfl,a,r,rfl⟩;refine aa ?_;exact⟨a,r,rfl⟩
 .rintro _ _⟨rfl,a,r,rfl⟩;refine aa ?_;exact⟨a,r,rfl⟩
abbrev gm:Χ:=bo []::.J [] .nil::(ae aB .nil .nil .nil++ae aB .nil .nil .nil)
def mX:([R.v (.string ⟨#[]⟩)]++[R.J [] .nil]++ζ 32 (R.v (.int .u8 0))++[R.J [] .nil,.J [] .nil]++[R.v (.int .i64 0),.v (.int .i64 0)]++[R.J [] .nil]++ζ 32 (R.v (.int .u8 0))++[R.J [] .nil,.J [] .nil]++[R.v (.int .i64 0),.v (.int .i64 0)]++[R.J [] .nil])=gm:=by have:=cm;rfl
def gZ:ef ⟨[],[],aB,aB⟩ gm:=⟨⟨.nil,_,_,_,_,_,_,rfl⟩,⟨bg,oU⟩,⟨bg,oU⟩,ρ⟩
theorem pa(a:ef h4 g):α g=76/\g.take 76=g/\putAt gm 0 g=g/\(gm).length=76:=by have b:=a.all.1;have c:=gZ.all.1;grind[sX]
theorem Eh{c:Type}{y:c}{d:c->Bool}:∀ {b:List c}{h:Nat}{a:c},b[h]?=β a->d a=η->(∀o<h,d (b.getD o y)=ι)->b.find? d=β a
 |[],h,a,k,_,_=>by simp at k
 |p::b,0,a,k,r,_=>by simp_all
 |p::b,h+1,a,k,r,x=>by
  have z:d p=false:=x 0 δ;rw[List.find?_cons,z];exact Eh (by trivial) r λo k=>x (o+1) δ
variable{b0:Type}
theorem Zl{c:b0}{b:b0->Bool}{a:List b0}(k:∀d<α a,b (a.getD d c)=ι):a.find? b=none:=by rw[List.find?_eq_none];intro o h;obtain⟨p,r,rfl⟩:=a3B h;simp_all
def Found(c:List aU)(d:Τ)(b:R):Prop:=match c.find? (λa=>decide (a.name=d))with
 |some a=>∃T,ef a T/\b=.aF [.agg T,.v (.bool η)]
 |none=>b=.aF [.agg gm,.v (.bool ι)]
theorem find_spec(b:List aU)(C:Χ)(P:Own)(o:Τ)(D:aC fr b C)(m:α b<=1000000)(c:U):
  AC γ 163 [.J C P,bo o] c λS p=>p=c/\Found b o S:=by
 have n:=D.len;have q:=λV=>@pV V o;have s:=mX;refine aM hm MS ?_;refine bp λh W=>?_;rw[mX];have r:c.sub (c.set h (.cells gm)):=μ θ W;have E:(c.set h (.cells gm)) h=β (.cells gm):=ν _ _ _;generalize c.set h (.cells gm)=e at*;obtain⟨_,_,_,t⟩:=pa gZ;have u:=(pa gZ).2.2.1;have v:=gZ.all.2.1;refine cQ [1,4,8,9] (λa:Nat=>[(10,.v (.int .i64 a))]) (λa p=>e.sub p/\a<=α b/\∀d<a,(b.getD d default).name≠o) (λa=>α b - a) 0 ⟨⟨θ,δ,λd w=>by omega⟩,aV⟩ ?_;rintro a A⟨k,B,x⟩H;have I:=χ (k _ _ E);refine aa ?_;refine aH (λf=>?_) λf=>?_
 .have F:b[a]?=β (b.getD a default):=by simp_all
  obtain⟨_,K,T,rfl,G⟩:=D.get F;generalize g:b.getD a default=M at*;obtain⟨i,N,O,_⟩:=pa G;have Q:=G.all.2.2.1;have X:=kA (q:=.agg T) i;refine aa ?_;refine aO λj y=>?_;have l:h≠j:=by rintro rfl;rw[k _ _ E]at y;cases y
  have Y:=Ζ l;refine aa ?_;refine aH (λz=>?_) λz=>?_
  .refine⟨μ (ο r k) (Μ (ο r k) y),?_⟩;rw[Found,Eh F (by simp[z]) λd L=>by simpa using x d L];simp_all
  .exact⟨a+1,⟨δ,upto x (by rw[g];exact z)⟩,rfl,δ⟩
 .refine⟨ο r k,?_⟩;rw[Found,Zl λd L=>by simpa using x d δ]
structure ad.le(a c:ad):Prop where
 m:∀d b,a.m d=β b->c.m d=β b
 one:a.one=η->c.one=η
theorem ad.le_refl:H.le H:=⟨λ_ _ a=>a,λa=>a⟩
theorem ad.le.trans{b c:ad}(d:H.le b)(h:b.le c):H.le c:=⟨λ_ _ a=>h.m _ _ (d.m _ _ a),λa=>h.one (d.one a)⟩
def ad.le.zero{a:ad}(c:H.le a)(b:a.one=ι):H.one=false:=by
 cases d:H.one with
 |false=>rfl
 |true=>rw[c.one d]at b;cases b
theorem kU(b:ad)(c:Τ):b.le (eV b c):=by
 unfold eV;split
 .rename_i a;refine⟨λd h k=>?_,λa=>a⟩;grind
 .split
  .exact⟨λ_ _ a=>a,λ_=>rfl⟩
  .exact ad.le_refl
theorem qB(a:(eV H B).one=ι):(eV H B).m (gS B)=β B:=by unfold eV at a|-;grind
theorem pb(b:fg e b3=β (gf b3))(a:ad):dr a e b3=(.ok (gf b3),eV a (da b3)):=by unfold dr;rw[b]
def eG(c:ad):(b:Nat)->a1.T b->Prop
 |0,a=>c.m (bN 0 a).sum=β (da (eW 0 a))
 |b+1,a=>c.m (bN (b+1) a).sum=β (da (eW (b+1) a))/\∀d∈a1.kids a,eG c b d
def eG.mono{c d:ad}(b:c.le d):∀ {a:Nat}{h:a1.T a},eG c a h->eG d a h
 |0,_,a=>b.m _ _ a
 |_+1,_,a=>⟨b.m _ _ a.1,λk o=>eG.mono b (a.2 k o)⟩
def eG.Zm:∀ {a:Nat}{b:a1.T a},eG H a b->H.m (bN a b).sum=β (da (eW a b))
 |0,_,a=>a
 |_+1,_,a=>a.1
def Zn{a:a1.T e}:(eW e a).kind=if e=0 then 2 else 3:=by cases e<;>rfl
def se(c:1<=i)(d:i<=8){a:a1.T e}(h:ee i e a)(k:eG H e a):dn H i (bN e a)=β (eW e a):=by have b:=(lP c d e a h).1;unfold dn;rw[k.Zm];simp only;rw[C5 δ b.xp];simp only;rw[b.nS,tW,if_pos rfl]
theorem qC(b:1<=i)(c:i<=8){a:a1.T e}(d:ee i e a)(h:eG H e a):hS H i (bN e a)=β (eW e a):=by simp_all [hS,se,Zn]
theorem xY{r:Type}{b:List r->bQ}{x:Nat}:∀(gs:List (List r))(c:ad)(h:List an),(∀a∈gs,fg x (b a)=β (gf (b a)))->
  ∃d,dp b x c gs h=(.ok (h++gs.map λa=>gf (b a)),d)/\c.le d/\(d.one=ι->∀a∈gs,d.m (gS (da (b a)))=β (da (b a)))
 |[],c,h,_=>⟨c,by simp[dp],ad.le_refl,λ_ a z=>by cases z⟩
 |a::gs,c,h,C=>by
  obtain⟨d,E,o,D⟩:=xY gs (eV c (da (b a))) (h++[gf (b a)]) (λp k=>C p (by simp[k]));refine⟨d,?_,(kU _ _).trans o,λy p k=>?_⟩;grind[dp,pb]
  .rcases a3n.1 k with rfl|k
   .exact o.m _ _ (qB (o.zero y))
   .exact D y p k
structure Laid(a:ad)(h:Nat)(rC:List (a1.T h))(r:Except Int (List an)×ad):Prop where
 ok:r.1=.ok (rC.map (bN h))
 le:a.le r.2
 ins:r.2.one=ι->∀c∈rC,eG r.2 h c
def Ei{a:a1.T e}(b:a1.WF e a)(c:∀d∈a1.aW e a,bF i d)(h:(a1.aW e a).length<=1048576):ee i e a:=⟨a1.jc.of b,c,h⟩
theorem Ej(o:1<=e)(p:e<=8)(h:ad)(a:List Ρ)(r:1<=α a)(L:α a<=5)(x:∀c∈a,bF e c):Laid h 0 ((a1.chunks a).map a1.leaf) (nP h e a):=by
 have k:∀b∈a1.chunks a,1<=α b/\α b<=4/\∀c∈b,c∈a:=by
  by_cases y:α a=5
  .rw[a1.rU y];grind
  .rw[a1.nM r δ];grind
 obtain⟨P,z,C,D⟩:=xY (a1.chunks a) h [] (λb d=>(tX o p (k b d).1 (k b d).2.1 (λc E=>x c ((k b d).2.2 c E))).nS);unfold nP;rw[z];refine⟨?_,C,λF S G=>?_⟩
 .rw[a3l,a4N];rfl
 .obtain⟨b,d,rfl⟩:=a3m.1 G;exact D F b d
theorem xZ(C:1<=i)(D:i<=8)(p:ad)(a:List (a1.T e))(f:2<=α a)(g:α a<=5)(E:∀d∈a,a1.WF e d)(j:∀F∈a.flatMap (a1.aW e),bF i F)(l:(a.flatMap (a1.aW e)).length<=1048576)
  (G:∀o,p.le o->o.one=ι->∀d∈a,eG o e d):Laid p (e+1) ((a1.chunks a).map a1.node) (je p i (a.map (bN e))):=by
 have r:∀b∈a1.chunks a,2<=α b/\α b<=4/\(∀d∈b,d∈a)/\(b.flatMap (a1.aW e)).length<=(a.flatMap (a1.aW e)).length:=by
  by_cases x:α a=5
  .rw[a1.rU x];simp only[a3n,a4r,or_false,forall_eq_or_imp,forall_eq,a2X,a3i];have L:a.flatMap (a1.aW e)=(a.take 3).flatMap (a1.aW e)++(a.drop 3).flatMap (a1.aW e):=by rw[<-a3S,a3y]
   grind
  .rw[a1.nM δ δ];grind
 have P:∀b∈a1.chunks a,ee i (e+1) (a1.node b):=λb h=>by
  obtain⟨m,n,d,L⟩:=r b h;refine Ei (a1.gC.2 ⟨by rw[a1.dH];omega,by rw[a1.dH];omega,λc k=>E c (d c k)⟩) (λc k=>?_) (by rw[a1.fA];omega);grind[a1.fA]
 have S:a1.chunks (a.map (bN e))=(a1.chunks a).map (List.map (bN e)):=by by_cases x:α a=5;simp_all [a1.rU];grind[a1.nM,bN]
 obtain⟨o,T,y,V⟩:=xY (b:=dT) ((a1.chunks a).map (List.map (bN e))) p [] (λb h=>by
  obtain⟨c,k,rfl⟩:=a3m.1 h;exact(lP C D (e+1) (a1.node c) (P c k)).1.nS)
 unfold je;rw[S,T];refine⟨?_,y,λz d W=>?_⟩
 .rw[a3l,a4N,a4N];rfl
 .obtain⟨b,h,rfl⟩:=a3m.1 W;exact⟨V z _ (a3m.2 ⟨b,h,rfl⟩),λc k=>G o y z c ((r b h).2.2.1 c k)⟩
theorem Ek:jY n b6<0↔bq n b6=true:=by grind[jY]
theorem y0(b:1<=e)(c:e<=8)(d:bF e n)(h:bF e b6):jY n b6=0↔n=b6:=by
 unfold jY;constructor
 .intro a;split at a
  .omega
  .rename_i k;split at a
   .omega
   .rename_i o;exact(fB b c).total n b6 d h (by simpa using k) (by simpa using o)
 .rintro rfl;rw[p0];simp
theorem y1{y:Nat}(z:1<=y)(C:y<=8){c:List Ρ}{k:Ρ}(E:a1.gD bq c)(r:∀d∈c,bF y d)(D:bF y k):∀(p h b:Nat),h<=b->b<=α c->b - h<=p->
  (∀a d,c[a]?=β d->a<h->bq d k=η)->(∀a d,c[a]?=β d->b<=a->bq d k=ι)->
  (∀a d,c[a]?=β d->a<lM c k p h b->bq d k=η)/\(∀a d,c[a]?=β d->lM c k p h b<=a->bq d k=ι)/\lM c k p h b<=α c
 |0,h,b,T,G,V,h1,L=>by
  obtain rfl:h=b:=δ;trivial
 |p+1,h,b,T,G,V,h1,L=>by
  rw[lM];by_cases W:h<b
  .rw[if_pos W];have hm:(h+b)/2<α c:=δ;have e:=Ν hm;rw[e];simp only;have P:=a4m.1 E;have S:=r _ (a3r hm);by_cases o:jY c[(h+b)/2] k<0
   .rw[if_pos o];have o:=Ek.1 o;refine y1 z C E r D p _ _ δ G δ (λa d F f=>?_) L;by_cases he:a=(h+b)/2;simp_all
    .obtain⟨x,rfl⟩:=a2Z.1 F;exact(fB z C).trans _ _ _ (r _ (a3r x)) S D (P a _ x hm δ) o
   .rw[if_neg o];have o:bq c[(h+b)/2] k=false:=by simp_all [absurd,Ek]
    refine y1 z C E r D p _ _ δ δ δ h1 (λa d F f=>?_);by_cases he:a=(h+b)/2;simp_all
    .obtain⟨x,rfl⟩:=a2Z.1 F;cases g:bq c[a] k with
     |false=>rfl
     |true=>have:=(fB z C).trans _ _ _ S (r _ (a3r x)) D (P _ a hm x δ) g;rw[this]at o;cases o
  grind
variable{N:List Ρ}
theorem El(c:1<=e)(d:e<=8)(h:a1.gD bq N)(k:∀a∈N,bF e a)(o:bF e n):
  (∀b a,N[b]?=β a->b<eu N n->bq a n=η)/\(∀b a,N[b]?=β a->eu N n<=b->bq a n=ι)/\eu N n<=α N:=
 y1 c d h k o (α N) 0 (α N) δ (a3w _) δ (λb a _ p=>by omega) (λb a r p=>by
  simp_all)
theorem Zo(h:1<=e)(k:e<=8)(o:a1.gD bq N)(p:∀b∈N,bF e b)(r:bF e n):N.take (eu N n)++n::N.drop (eu N n)=a1.dF bq N n:=by
 obtain⟨D,x,E⟩:=El h k o p r;generalize eu N n=a at*;have y:∀b∈N.take a,bq b n=true:=λb z=>by
  obtain⟨F,G,rfl⟩:=a3B z;grind
 conv=>rhs;rw[<-a3y a N]
 rw[a1.wY y];congr 1;unfold a1.dF;cases C:N.drop a with
 |nil=>rfl
 |cons c d=>
  have:N[a]?=β c:=by have:=congrArg (λd=>d[0]?) C;simpa using this
  have:=x a c this (a3w _);simp[this]
theorem y2(d:1<=e)(h:e<=8)(k:a1.gD bq N)(r:∀x∈N,bF e x)(c:bF e n):k1 N n=decide (n∈N):=by
 obtain⟨F,y,G⟩:=El d h k r c;unfold k1;by_cases o:n∈N
 .obtain⟨a,hm,z⟩:=a3B o;have C:N[a]?=β n:=by simp_all
  have D:=a4m.1 k;have E:a=eu N n:=by
   rcases a6q a (eu N n)with b|b|b;grind[p0]
   .exact b
   .have p:=D (eu N n) a δ hm b;rw[z]at p;have:=y (eu N n) _ (Ν δ) (a3w _);rw[p]at this;cases this
  rw[<-E,C,decide_eq_true o];simp only;rw[decide_eq_true];exact(y0 d h c c).2 rfl
 grind[decide_eq_false,eu,List.mem_of_getElem?,y0]
theorem Zp(d:1<=e)(h:e<=8)(p:a1.gD bq N)(k:∀b∈N,bF e b)(o:bF e n)(r:n∈N):N.take (eu N n)++N.drop (eu N n+1)=N.filter λb=>decide (b≠n):=by
 have a:=y2 d h p k o;rw[decide_eq_true r]at a;unfold k1 at a;generalize eu N n=x at*;cases c:N[x]? with
 |none=>rw[c]at a;cases a
 |some b=>rw[c]at a;simp only[decide_eq_true_eq]at a;obtain rfl:=(y0 d h (k b (a3d c)) o).1 a;have y:=a1.qk c;grind[List.pairwise_cons,List.filter_cons_of_neg,a1.filter_none,p0]
def jo:H.le (dr H e b3).2:=by
 unfold dr;split
 .exact ad.le_refl
 .exact kU _ _
def y3{h:Type}{c:List h->bQ}{d:Nat}:∀(gs:List (List h))(a:ad)(b:List an),a.le (dp c d a gs b).2
 |[],a,b=>ad.le_refl
 |k::gs,a,b=>by
  have o:=jo (H:=a) (e:=d) (b3:=c k);rw[dp];generalize dr a d (c k)=p at*;obtain⟨r,x⟩:=p;cases r with
  |error z=>exact o
  |ok y=>exact o.trans (y3 gs x (b++[y]))
def Em:H.le (nP H e N).2:=y3 _ _ _
def y4{a:List an}:H.le (je H e a).2:=y3 _ _ _
def En{c:Nat}{b:Ρ}:∀(d:Nat)(a:ad)(h:an),a.le (fM c b d a h).2
 |0,a,h=>ad.le_refl
 |d+1,a,h=>by
  rw[fM];cases hS a c h with
  |none=>exact ad.le_refl
  |some k=>
   simp only;by_cases o:k.kind=2
   .rw[if_pos o];by_cases p:k1 (k.rows.map Β) b=η
    .rw[if_pos p];exact ad.le_refl
    .rw[if_neg p];exact Em
   .rw[if_neg o];cases k.kids[gV b k]? with
    |none=>exact ad.le_refl
    |some r=>
     have x:=En (c:=c) (b:=b) d a r;simp only;generalize fM c b d a r=y at*;obtain⟨z,C⟩:=y;cases z with
     |error D=>exact x
     |ok E=>exact x.trans y4
def Eo{d:Nat}:∀(h:Nat)(a:ad)(b:List an),a.le (gF d h a b).2
 |0,a,b=>ad.le_refl
 |h+1,a,b=>by
  rw[gF];by_cases c:1<α b
  .rw[if_pos c];have c:=y4 (H:=a) (e:=d) (a:=b);generalize je a d b=k at*;obtain⟨o,p⟩:=k;cases o with
   |error x=>exact c
   |ok r=>exact c.trans (Eo h p r)
  .rw[if_neg c];exact ad.le_refl
def Ep:H.le (kI e n H w).2:=by
 unfold kI;split
 .exact jo
 .have a:=En (c:=e) (b:=n) (w.size.toNat+1) H w;generalize fM e n (w.size.toNat+1) H w=b at*;obtain⟨c,d⟩:=b;cases c with
  |error h=>exact a
  |ok k=>exact a.trans (Eo _ _ _)
variable{I:Bool}
theorem Er{a:List an}:H.le (lL H e I N a).2:=by unfold lL;split<;>exact jo
theorem join_le{a b:hp}:H.le (ka H e a b).2:=by
 unfold ka;split
 .exact Em
 .exact y4
theorem Zq{c:List an}{a:hp}:H.le (jh H e c i a).2:=by
 unfold jh;by_cases b:2<=α a.rows+α a.kids
 .rw[if_pos b];grind[Er,lL]
 .rw[if_neg b];grind[ad.le_refl,hS,join_le,gG,ka]
def Es{d:Nat}{b:Ρ}:∀(k:Nat)(c:ad)(o:an),c.le (hq d b k c o).2
 |0,c,o=>ad.le_refl
 |k+1,c,o=>by
  rw[hq];cases hS c d o with
  |none=>exact ad.le_refl
  |some a=>
   simp only;by_cases h:a.kind=2
   .rw[if_pos h];by_cases y:k1 (a.rows.map Β) b=η
    .rw[if_pos y];exact ad.le_refl
    .rw[if_neg y];exact ad.le_refl
   .rw[if_neg h];cases a.kids[gV b a]? with
    |none=>exact ad.le_refl
    |some z=>
     have p:=Es (d:=d) (b:=b) k c z;simp only;generalize hq d b k c z=r at*;obtain⟨x,C⟩:=r;cases x with
     |error E=>exact p
     |ok D=>
      have h:=Zq (H:=C) (e:=d) (c:=a.kids) (i:=gV b a) (a:=D);simp only;generalize jh C d a.kids (gV b a) D=r at*;obtain⟨x,F⟩:=r;cases x with
      |error E=>exact p.trans h
      |ok G=>exact p.trans h
theorem Et:H.le (kJ e n H w).2:=by
 unfold kJ;split
 .exact ad.le_refl
 .have a:=Es (d:=e) (b:=n) (w.size.toNat+1) H w;generalize hq e n (w.size.toNat+1) H w=b at*;obtain⟨c,d⟩:=b;cases c with
  |error h=>exact a
  |ok k=>
   simp only;split
   .exact a
   .split
    .exact a
    .exact a.trans Er
end Go.Proofs.YtcfpcblgmmeioaaGreat
namespace Go.bt
open Go
variable{f u e1:U}{t:bb}{l h7:World}
theorem Step.Zr{p:bb}(b:Step t f l p u h7)(r:∀a,f a=ε\/∃c,f a=β (.ro c)):∃x k,h7=Sort.grow (l.drewN x) k:=by
 have d:∀a,a<l.heap.size->h7.heap[a]?=l.heap[a]? :=λa d=>by
  rcases r a with h|⟨c,h⟩
  .exact b.block a d h
  .exact(b.iN a c d h).1
 have y:=b.os;have z:=b.tape;have o:=b.output;have C:=b.size;refine⟨h7.drawn - l.drawn,h7.heap.extract l.heap.size h7.heap.size,?_⟩;obtain⟨D,E,F,k,G⟩:=l;obtain⟨L,P,S,T,V⟩:=h7;simp only at*;obtain⟨rfl,o⟩:=o;subst y;subst z;simp only[Sort.grow,World.drewN,World.mk.injEq,true_and,and_true];grind
theorem Step.grown(d:Holds t f l)(o:Nat)(os:Array Obj):Step t f l t f (Sort.grow (l.drewN o) os):=by
 have c:∀a,a<l.heap.size->(Sort.grow (l.drewN o) os).heap[a]?=l.heap[a]? :=λa c=>by
  show(l.heap++os)[a]?= _;grind
 exact {holds:=⟨λa h v p=>by rw[<-d.ro a h v p];exact World.cell?_of_block (c a (d.lt p)),λk h r=>(d.cM k h r).kept (.refl t) (c k (d.cM k h r).lt) (λ_ x=>x)⟩,le:=.refl t,os:=rfl,tape:=rfl,output:=⟨rfl,Nat.le_add_right _ _⟩,size:=ρ,block:=λa b _=>c a b,dQ:=λ_ b=>.inl b,lY:=λ_ _ b=>.inl b,iN:=λa y b z=>⟨c a b,.inr ⟨y,z⟩⟩}
variable{b0:Type}
theorem Zs[Inhabited b0](h:b0->Value)(b:World)(a:Nat)(c:Array b0)(d:Array Value)(k:TypeId)(o:Nat×Nat)(p:b.heap[a]?=β (.cells d k o))(x:c.size<=d.size):
  Sort.putRow h b a 0 c=b.setRow a (cS d 0 (c.toList.map h)):=by
 unfold Sort.putRow Sort.mapBlock World.setRow;congr 1;apply Array.ext_getElem?;intro r;simp only[Array.getElem?_modify];by_cases hk:a=r
 .subst hk;simp only[if_true,p,a3P,Sort.onCells];congr 2;apply a6Z;apply a6r;intro y;simp only[Sort.putCells,cS,a4v,Array.getElem?_mapIdx,a4Q,a3l,a3t,a3k,a6h];grind
 .simp[hk]
variable{g A c0:Χ}{e i v M b9 h9:Nat}{m:Program}
theorem Zt{k8:Shelf.Ren}(a00:Proofs.SlLaysF.n6 m k8)(S:b0->R->Prop)(a01:∀a d,S a d->d.one=η/\d.cells=[d]){C:List b0}
  (Y:f e=β (.cells g)) (a73:α A=α C) (a02:∀(b:Nat) a d,C[b]?=β a->A[b]?=β d->S a d) (a03:α C=i) (k9:g.take i=A) (a74:i<4611686018427387904)
  (V:FuncId) (I:Χ) (l0:u.sub f) (l1:∀c,u c=ε\/∃Z,u c=β (.ro Z)) (x:b0->Prop) (a04:∀j∈C,x j) (a05:0<i)
  (y:b0->b0->Int) (a81:∀a,x a->¬y a a<0) (a83:∀a h D,x a->x h->x D->y a h<0->y h D<0->y a D<0) (a84:∀a h D,x a->x h->x D->¬y a h<0->¬y h D<0->¬y a D<0)
  (a06:∀l2 p,(callFunc V l2).run m p=.ok (.enter V l2) p)
  (a07:∀a h d c,S a d->S h c->x a->x h->AC m V ([d,c]++I) u λj _=>j=.v (.int .i64 (y a h))):
  AC m (k8.f 6) [.aq e i M 1,.bA V [] I] f λj l3=>j=.aF []/\∃o k0,k0.Perm C/\α o=i/\(∀(b:Nat) a d,k0[b]?=β a->o[b]?=β d->S a d)/\List.Pairwise (λd c=>¬y c d<0) k0/\l3=f.set e (.cells (o++g.drop i)):=by
 intro K p z k2 w;have l4:=k2.2 0 _ rfl;have l5:=k2.2 1 _ rfl;have a08:K.size=2:=k2.1;generalize a09:K.getD 0 undef=a86 at l4;generalize a10:K.getD 1 undef=a88 at l5;cases l4 with
 |aq e i M a89 a90 a92=>
 cases l5 with
 |bA a94 ws nZ cF a95 hw a96 a11 a13=>
 obtain rfl:ws=#[]:=a6e hw;have ah:K=#[.slice (β ⟨e,0,ε⟩) i M,.func (.func V) #[] nZ]:=by
  apply Array.ext
  .exact a08
  .intro b G L
   match b,G with
   |0,G=>rw[<-a09];simp_all
   |1,G=>rw[<-a10];simp_all
   |b+2,G=>omega
 rw[ah];obtain⟨a97,l,T,k3,l6,a14⟩:=w.cM e _ Y;have a98:i<=α g:=by grind
 have a99:=l6.1
 let W:= {P:Value×b0//(∃d,S P.2 d/\aQ z P.1 d)/\x P.2};have l7:∀b (n:b<i),∃a:W,a.1.1=l[b]'δ/\a.1.2=C[b]'δ:=λb n=>by
  have G:g[b]?=β (A[b]'δ):=by grind
  have L:=l6.2 b _ G;have B:l.getD b undef=l[b]'δ:=by simp[show b<l.size by omega]
  rw[B]at L;exact⟨⟨(l[b]'δ,C[b]'δ),⟨_,a02 b _ _ (Ν _) (Ν _),L⟩,a04 _ (a3r _)⟩,rfl,rfl⟩
 haveI:Inhabited W:=⟨(l7 0 a05).choose⟩
 obtain⟨E,l8,b00⟩:∃E:Array W,E.size=i/\∀b (n:b<i) (a15),E[b].1.1=l[b]'δ/\E[b].1.2=C[b]'δ:=
  ⟨Array.ofFn λb=>(l7 b b.2).choose,ρ,λb n a15=>by grind[Array.getElem_ofFn]⟩
 let k:W->Value:=λa=>a.1.1;have G:Proofs.OneCell k:=λa=>by
  obtain⟨⟨d,L,B⟩,_⟩:=a.2;exact B.nd (a01 _ _ L).1
 have a16:Sort.Holds k p e 0 E:=λr k4=>by
  have b01:r<i:=δ;rw[getElem!_pos E r k4];constructor
  .simp only[World.cell?,k3,a3t,a4G,a3R,if_false];grind
  .simp[World.frozen?,k3]
 have a18:=(a4d.1 k3).1
 let k5:W->W->Int:=λa h=>y a.1.2 h.1.2;have a19:Proofs.CmpLays1 m V nZ k k5 e 0 E.size p:=λl9 q n0 b02 a h=>by
  have n1:∀c,c<p.heap.size->c≠e->(Proofs.sortWorld k p e 0 l9 n0 q).heap[c]?=p.heap[c]? :=λc N O=>by
   show(((p.heap.modify e _)++q)[c]?)= _;grind
  have a27:Holds z u (Proofs.sortWorld k p e 0 l9 n0 q):=⟨λc k6 v s=>by
   have O:c≠e:=by rintro rfl;rw[a14]at s;cases s
   rw[<-w.ro c k6 v s];exact World.cell?_of_block (n1 c (w.lt s) O),λc k6 N=>by
   have O:c≠e:=by
    rintro rfl;rcases l1 c with H|⟨Z,H⟩
    .rw[H]at N;cases N
    .have:=l0 _ _ H;rw[Y]at this;cases this
   have L:=w.cM c k6 (l0 _ _ N);exact L.kept (.refl z) (n1 c L.lt O) λ_ n=>n⟩
  obtain⟨⟨d,aM,a29⟩,a30⟩:=a.2;obtain⟨⟨c,a34,a36⟩,a38⟩:=h.2;have a42:bn z (#[k a,k h]++nZ) ([d,c]++I):=⟨by simp[a11];omega,λr Q t=>by
   match r,t with
   |0,t=>obtain rfl:=Δ t;rw[show(#[k a,k h]++nZ).getD 0 undef=k a by rw[a3J,a5E ρ];rfl];exact a29
   |1,t=>obtain rfl:=Δ t;rw[show(#[k a,k h]++nZ).getD 1 undef=k h by rw[a3J,a5E ρ];rfl];exact a36
   |r+2,t=>
    have B:I[r]?=β Q:=by trivial
    have k4:r<nZ.size:=by grind
    have b03:=a13 r Q B;simp_all [a3J,Array.getElem?_append_right]⟩
  refine(a07 _ _ d c aM a34 a30 a38 _ _ z a42 a27).mono ?_;rintro a43 a47⟨v,j,b04,l3,rfl,X,s,rfl⟩;refine⟨by rw[s.dq],X.Zr l1⟩
 have a48:Sort.SWO (Proofs.ltOf k5):=⟨λa=>by simp only[Proofs.ltOf];grind,λa h D=>by simp only[Proofs.ltOf,decide_eq_true_eq];grind,λa h D=>by grind[Proofs.ltOf,decide_eq_false_iff_not]⟩;have n2:=Proofs.Any.slices_SortFunc a00 k G k5 a48 V nZ e 0 M E p a06 a19 a16 a18 δ;rw[l8]at n2;refine n2.mono ?_;rintro a43 a47⟨rfl,F,P,q,⟨b05,_,n3⟩,a52,rfl⟩;have n4:F.size=i:=δ;rw[a6n δ,a6n δ]at n3
 let o:Χ:=F.toList.map λa=>a.2.1.choose;have b06:∀a:W,S a.1.2 a.2.1.choose/\aQ z a.1.1 a.2.1.choose:=λa=>a.2.1.choose_spec;have a56:bn z (F.toList.map k).toArray o:=bn.dG.2 ⟨by simp[o],λr b07 Q n5 a57=>by
  simp only[a3u,o]at n5 a57;cases k7:F.toList[r]? with
  |none=>simp[k7]at n5
  |some a=>grind⟩
 obtain⟨a61,b08,b09,b10,X⟩:=Step.store w Y 0 o _ a56 (λZ k9=>by
  obtain⟨a,_,rfl⟩:=a3m.1 k9;grind) (by simp[o];omega)
 have a62:Sort.putRow k (Sort.ahead p P) e 0 F=Sort.ahead (p.setRow e (cS a61 0 (F.toList.map k))) P:=by grind[Sort.putRow_ahead,Zs]
 have a63:=X.trans (Step.grown X.holds P q);refine⟨_,.aF [],z,f.set e (.cells (o++g.drop i)),rfl,?_,.aF #[] [] rfl (λr Q H=>by simp at H),rfl,o,F.toList.map (λa=>a.1.2),?_,by simp[o,n4],?_,?_,rfl⟩
 .have a65:putAt g 0 o=o++g.drop i:=by simp[putAt,o,n4]
  rw[<-a65];show Step z f p z _ (Sort.grow (Sort.putRow k (Sort.ahead p P) e 0 F) q);rw[a62];exact a63
 .have a68:C=E.toList.map (λa=>a.1.2):=by
   apply a6y
   .simp[a03,l8]
   simp_all
  rw[a68];exact n3.map _
 .intro b a d n9 a69;simp only[a3u,o]at n9 a69;cases k7:F.toList[b]? with
  |none=>simp[k7]at n9
  |some h=>grind
 .rw[a5k,a4m];intro b r n k4 a71;have:=a52 b r (a3N _) a71 (by simp_all);grind[Array.length_toList,Proofs.ltOf]
end Go.bt
namespace Go.Proofs
open Go.Shelf
def Tryz.Zu:Go.Shelf.Ren:=⟨λ|6=>46|15=>91|14=>90|28=>151|29=>152|20=>143|21=>144|22=>145|23=>146|24=>147|25=>148|26=>149|27=>150|46=>197|47=>198|48=>199|49=>200|50=>201|57=>251|a=>a,λ|22=>52|24=>44|25=>114|3=>3|39=>165|0=>0|53=>222|55=>224|4=>4|46=>215|45=>214|50=>219|5=>5|9=>9|66=>280|70=>284|76=>340|77=>341|a=>a,λ|a=>a⟩
def Tryz.Zv:Go.Proofs.SlLaysF.n6 γ Tryz.Zu:= {
 mixed:=Ο
 f6:=⟨Tryz.f46.name,Λ,Tryz.func46.trans (congrArg β Ο)⟩
 f14:=⟨Tryz.f90.name,Λ,Tryz.func90.trans (congrArg β Ο)⟩
 f15:=Tryz.func91.trans (congrArg β Ο)
 f20:=⟨Tryz.f143.name,Λ,Tryz.func143.trans (congrArg β Ο)⟩
 f21:=⟨Tryz.f144.name,Λ,Tryz.func144.trans (congrArg β Ο)⟩
 f22:=⟨Tryz.f145.name,Λ,Tryz.func145.trans (congrArg β Ο)⟩
 f23:=⟨Tryz.f146.name,Λ,Tryz.func146.trans (congrArg β Ο)⟩
 f24:=⟨Tryz.f147.name,Λ,Tryz.func147.trans (congrArg β Ο)⟩
 f25:=⟨Tryz.f148.name,Λ,Tryz.func148.trans (congrArg β Ο)⟩
 f26:=⟨Tryz.f149.name,Λ,Tryz.func149.trans (congrArg β Ο)⟩
 f27:=⟨Tryz.f150.name,Λ,Tryz.func150.trans (congrArg β Ο)⟩
 f28:=Tryz.func151.trans (congrArg β Ο)
 f29:=Tryz.func152.trans (congrArg β Ο)
 f46:=⟨Tryz.f197.name,Λ,Tryz.func197.trans (congrArg β Ο)⟩
 f47:=Tryz.func198.trans (congrArg β Ο)
 f48:=Tryz.func199.trans (congrArg β Ο)
 f49:=⟨Tryz.f200.name,Λ,Tryz.func200.trans (congrArg β Ο)⟩
 f50:=⟨Tryz.f201.name,Λ,Tryz.func201.trans (congrArg β Ο)⟩
 f57:=⟨Tryz.f251.name,Λ,Tryz.func251.trans (congrArg β Ο)⟩
 t0:=Tryz.underlying0
 a0:=Tryz.isAgg0
 z0:=Tryz.sizeOf0
 v0:=Tryz.zeroValue0
 t3:=Tryz.underlying3
 a3:=Tryz.isAgg3
 z3:=Tryz.sizeOf3
 v3:=Tryz.zeroValue3
 t4:=Tryz.underlying4
 a4:=Tryz.isAgg4
 z4:=Tryz.sizeOf4
 v4:=Tryz.zeroValue4
 t5:=Tryz.underlying5
 a5:=Tryz.isAgg5
 z5:=Tryz.sizeOf5
 v5:=Tryz.zeroValue5
 t9:=Tryz.underlying9
 a9:=Tryz.isAgg9
 z9:=Tryz.sizeOf9
 v9:=Tryz.zeroValue9
 t22:=Tryz.underlying52
 a22:=Tryz.isAgg52
 z22:=Tryz.sizeOf52
 v22:=Tryz.zeroValue52
 a24:=Tryz.isAgg44
 z24:=Tryz.sizeOf44
 t25:=Tryz.underlying114
 a25:=Tryz.isAgg114
 z25:=Tryz.sizeOf114
 v25:=Tryz.zeroValue114
 t39:=Tryz.underlying165
 a39:=Tryz.isAgg165
 z39:=Tryz.sizeOf165
 v39:=Tryz.zeroValue165
 t45:=Tryz.underlying214
 a45:=Tryz.isAgg214
 z45:=Tryz.sizeOf214
 v45:=Tryz.zeroValue214
 t46:=Tryz.underlying215
 a46:=Tryz.isAgg215
 z46:=Tryz.sizeOf215
 v46:=Tryz.zeroValue215
 t50:=Tryz.underlying219
 a50:=Tryz.isAgg219
 z50:=Tryz.sizeOf219
 v50:=Tryz.zeroValue219
 t53:=Tryz.underlying222
 a53:=Tryz.isAgg222
 z53:=Tryz.sizeOf222
 v53:=Tryz.zeroValue222
 t55:=Tryz.underlying224
 a55:=Tryz.isAgg224
 z55:=Tryz.sizeOf224
 v55:=Tryz.zeroValue224
 t66:=Tryz.underlying280
 a66:=Tryz.isAgg280
 z66:=Tryz.sizeOf280
 v66:=Tryz.zeroValue280
 t70:=Tryz.underlying284
 a70:=Tryz.isAgg284
 z70:=Tryz.sizeOf284
 v70:=Tryz.zeroValue284
 t76:=Tryz.underlying340
 a76:=Tryz.isAgg340
 z76:=Tryz.sizeOf340
 v76:=Tryz.zeroValue340
 t77:=Tryz.underlying341
 a77:=Tryz.isAgg341
 z77:=Tryz.sizeOf341
 v77:=Tryz.zeroValue341}
end Go.Proofs
namespace Go.Proofs.YtcfpcblgmmeioaaGreat
open Go Go.bt
variable{b1:Int}
theorem Eu{a:Int}:ht b1 a<0↔b1<a:=by unfold ht;omega
theorem Ev{a:Int}:ht b1 a=0↔b1=a:=by unfold ht;omega
def kV:Ρ->Ρ->Prop
 |a::c,b::d=>a<b\/a=b/\kV c d
 |_,_=>False
theorem Ew:∀ {b c:Ρ},α b=α c->(gW b c<0↔kV b c)
 |[],[],_=>by simp[gW,kV]
 |d::b,h::c,a=>by
  have ih:=Ew (by simpa using a);grind[gW,kV,Ev,Eu]
 |[],_:: _,a=>by simp at a
 |_:: _,[],a=>by simp at a
def Ex:∀ {b:Ρ},¬kV b b
 |[],a=>a
 |c::b,a=>a.elim δ λa=>Ex a.2
def Ey:∀ {c d h:Ρ},kV c d->kV d h->kV c h
 |k::c,o::d,p::h,a,b=>by
  rcases a with a|⟨rfl,a⟩<;>rcases b with b|⟨rfl,b⟩
  .exact .inl δ
  .exact .inl a
  .exact .inl b
  .exact .inr ⟨rfl,Ey a b⟩
theorem Ez:∀ {a b:Ρ},α a=α b->kV a b\/a=b\/kV b a
 |[],[],_=>.inr (.inl rfl)
 |k::a,o::b,c=>by
  rcases Int.lt_trichotomy k o with d|rfl|d
  .exact .inl (.inl d)
  .rcases Ez (by simpa using c)with h|rfl|h
   .exact .inl (.inr ⟨rfl,h⟩)
   .simp
   .exact .inr (.inr (.inr ⟨rfl,h⟩))
  .exact .inr (.inr (.inl d))
 |[],_:: _,c=>by simp at c
 |_:: _,[],c=>by simp at c
def y5(a:Nat)(b c:Ρ):Prop:=b.getD a 0<c.getD a 0\/b.getD a 0=c.getD a 0/\kV b c
variable{n b6:Ρ}{e i v M b9 h9:Nat}
theorem ui(a:α n=α b6):cB e n b6<0↔y5 e n b6:=by grind[cB,y5,Ev,Ew,Eu]
structure o5(d:Nat)(a:Ρ->Ρ->Int):Prop where
 jd:∀x,α x=d->¬a x x<0
 sf:∀x y z,α x=d->α y=d->α z=d->a x y<0->a y z<0->a x z<0
 sg:∀x y,α x=d->α y=d->a x y<0\/x=y\/a y x<0
def o5.y6{a:Ρ->Ρ->Int}(c:o5 e a)(b:α n=e)(d:α b6=e)(h:a n b6<0):¬a b6 n<0:=λk=>c.jd n b (c.sf n b6 n b d b h k)
def o5.EA{c:Ρ->Ρ->Int}(h:o5 e c):∀a b d,α a=e->α b=e->α d=e->¬c a b<0->¬c b d<0->¬c a d<0:=λa b d k o r z x y=>by
 rcases h.sg a b k o with p|rfl|p
 .omega
 .omega
 .exact x (h.sf _ _ _ o k r p y)
theorem pc(k o:Nat):o5 k (cB o) where
 jd d h a:=by
  rw[ui rfl]at a;rcases a with a|a
  .omega
  .exact Ex a.2
 sf d p z h r C b c:=by
  rw[ui δ]at*;rcases b with b|⟨b,x⟩<;>rcases c with c|⟨c,y⟩
  .exact .inl δ
  .exact .inl δ
  .exact .inl δ
  .exact .inr ⟨δ,Ey x y⟩
 sg d p h r:=by rw[ui δ,ui δ];grind[y5,Int.lt_trichotomy,Ez]
theorem y7{z:Nat}{o:Ρ->Ρ->Int}(C:o5 z o):∀ {c a:List Ρ},(∀b∈c,α b=z)->a.Perm c->c.Pairwise (λp r=>¬o r p<0)->a.Pairwise (λp r=>¬o r p<0)->a=c
 |[],a,_,d,_,_=>d.eq_nil
 |b::c,a,x,d,h1,E=>by
  cases a with
  |nil=>simp_all
  |cons h a=>
   obtain⟨T,F⟩:=a3x.1 h1;obtain⟨V,G⟩:=a3x.1 E;have D:h∈b::c:=d.mem_iff.1 ρ;have L:b∈h::a:=d.mem_iff.2 ρ;have k:h=b:=by
    rcases a3n.1 D with k|W
    .exact k
    rcases a3n.1 L with k|e
    .exact k.symm
    rcases C.sg h b (x h D) (x b ρ)with y|y|y
    .grind
    .exact y
    .grind
   subst k;rw[y7 C (λP S=>x P (by simp[S])) (List.Perm.cons_inv d) F G]
theorem Zw(c:Nat)(a:Ρ)(b:List Ρ):(ev c a b).Perm (a::b):=by grind[List.takeWhile_append_dropWhile,decide,cB,ev,List.perm_middle]
def EB{p c:Nat}{d:Ρ}(r:α d=p):∀ {h:List Ρ},(∀b∈h,α b=p)->h.Pairwise (λx y=>¬cB c y x<0)->(ev c d h).Pairwise (λx y=>¬cB c y x<0)
 |[],_,_=>by simp[ev]
 |b::h,z,D=>by
  obtain⟨E,L⟩:=a3x.1 D;have F:=pc p c;have G:=z b ρ;by_cases o:cB c b d<0
  .have C:ev c d (b::h)=b::ev c d h:=by simp[ev,o]
   rw[C];refine a3x.2 ⟨λk a=>?_,EB r (λk a=>z k (by simp[a])) L⟩;rcases xr.1 a with rfl|a
   .exact F.y6 G r o
   .exact E k a
  .have C:ev c d (b::h)=d::b::h:=by simp[ev,o]
   rw[C];refine a3x.2 ⟨λk a=>?_,D⟩;rcases a3n.1 a with rfl|a
   .exact o
   .exact F.EA k b d (z k (by simp[a])) G r (E k a) o
theorem EC{o d:Nat}:∀(h a:List Ρ),(∀b∈h,α b=o)->(∀b∈a,α b=o)->a.Pairwise (λp r=>¬cB d r p<0)->(h.foldl (λx c=>ev d c x) a).Perm (a++h)/\(h.foldl (λx c=>ev d c x) a).Pairwise (λp r=>¬cB d r p<0)
 |[],a,_,_,y=>by simpa using y
 |c::h,a,h1,z,y=>by
  have C:=h1 c ρ;have D:∀b∈ev d c a,α b=o:=λb k=>by
   rcases xr.1 k with rfl|k
   .exact C
   .exact z b k
  obtain⟨E,F⟩:=EC h (ev d c a) (λb k=>h1 b (by simp[k])) D (EB C z y);grind[Zw,trans]
variable{N:List Ρ}
def si(a:∀b∈N,α b=i):(dP e N).Perm N/\(dP e N).Pairwise (λc d=>¬cB e d c<0):=by simpa[dP] using EC N [] a ρ .nil
variable{q b7:R}
def Zx(a:isRow n q):q.one=η/\q.cells=[q]:=by obtain⟨b,rfl⟩:=a;trivial
theorem aC.of{k:Type}{o:k->R->Prop}:∀ {b:List k}{aX:Χ},α aX=α b->(∀(c:Nat) d h,b[c]?=β d->aX[c]?=β h->o d h)->aC o b aX
 |[],[],_,_=>trivial
 |d::b,r::aX,a,p=>⟨p 0 d r rfl rfl,aC.of (by simpa using a) λc x h y z=>p (c+1) x h y z⟩
 |[],_:: _,a,_=>by simp at a
 |_:: _,[],a,_=>by simp at a
variable{b4:FuncId}{m:Program}
def Zy(a:fa m b4=η):∀b c,(callFunc b4 b).run m c=.ok (.enter b4 b) c:=by
 unfold fa at a;split at a
 .rename_i k d;rw[Ξ]at a;obtain⟨o,h⟩:=a3C.1 a.1;exact enters_of d (by simpa using a.2) h
 .cases a
variable{f u e1:U}{g A c0:Χ}
theorem Zz{k:Ρ->Ρ->Int}(o:o5 i k){x:List Ρ}(W:f v=β (.cells g))(F:aC isRow N A)(G:α N=e)(j:g.take e=A)(y:e<=4000000)(l:0<e)(L:∀a∈N,α a=i)
  (P:x.Perm N) (m:x.Pairwise (λz c=>¬k c z<0)) (p:FuncId) (C:Χ) (n:u.sub f) (q:∀c,u c=ε\/∃s,u c=β (.ro s)) (t:fa γ p=η)
  (w:∀b d D E,α b=i->α d=i->AC γ p ([.J (ab b) D,.J (ab d) E]++C) u λa _=>a=.v (.int .i64 (k b d))):
  AC γ 46 [.aq v e M 1,.bA p [] C] f λa S=>a=.aF []/\∃r,aC isRow x r/\S=f.set v (.cells (r++g.drop e)):=by
 refine(Zt (m:=γ) Tryz.Zv isRow (λ_ _=>Zx) W F.len (λY b z h T=>?_) G j δ p C n q (λa=>α a=i) L l k o.jd o.sf o.EA (Zy t) λb d z c T y h B=>?_).mono λa S H=>?_
 .obtain⟨c,y,Z⟩:=F.get h;simp_all
 .obtain⟨D,rfl⟩:=T;obtain⟨E,rfl⟩:=y;exact w b d D E h B
 .obtain⟨I,r,k0,V,K,O,Q,X⟩:=H;have:=y7 o (λb h=>L b (P.mem_iff.1 h)) (V.trans P.symm) m Q;subst this;exact⟨I,r,aC.of (by rw[K,V.length_eq,G]) O,X⟩
def fu(a:ad)(b:Nat):Nat->an->Option (List Ρ)
 |0,_=>ε
 |c+1,d=>if d.live=0 then β []else match kh a b d with
  |none=>ε
  |some (h,bw)=>match fu a b c (bw.getD 0 aB),fu a b c (bw.getD 1 aB)with
   |some k,β o=>β ((if h.2=η then [h.1]else [])++k++o)
   |_,_=>ε
variable{w j0:an}{H:ad}
def uj{d:Ρ×Bool}{o:List an}(a:kh H e w=β (d,o)):∃b c,o=[b,c]/\dn H e w=β (cx d b c)/\w.size=1+b.size+c.size/\0<=b.size/\0<=c.size/\α d.1=e/\w.size<=1048576:=by
 unfold kh at a;split at a
 .cases a
 rename_i y h;split at a
 .rename_i p;simp only[a3c,a4h]at a;obtain⟨rfl,rfl⟩:=a;have k:=E3 h;obtain⟨z,C,E⟩:=E4 k p;have r:=qi h;obtain⟨F,rows,kids⟩:=y
  dsimp only at*
  obtain⟨d,rfl⟩:=a4M.1 z
  match kids,C with
  |[b,c],_=>have D:=r.size;have x:=sd k;subst p;simp only[a4u,a3q,a4L,a4X,List.sum_nil]at D;refine⟨b,c,rfl,h,δ,(ki (x b ρ)).1,(ki (x c ρ)).1,(kF k).1 _ ρ,r.nB⟩
 .cases a
theorem sj{k:ad}{d:Nat}:∀ {h:Nat}{c:an}{b:List Ρ},fu k d h c=β b->(α b:Int)<=max 0 c.size/\∀o∈b,α o=d
 |0,_,_,a=>by cases a
 |h+1,c,b,a=>by
  rw[fu]at a;split at a;grind;split at a
  .cases a
  rename_i y z p;split at a
  .rename_i C D r x;obtain rfl:=Δ a;obtain⟨E,F,rfl,_,G,L,P,S,_⟩:=uj p;have T:=sj r;have V:=sj x;grind
  .cases a
theorem ED(L A:Nat)(h:ad)(c:Nat)(k2:1<=c)(k3:c<=8):∀(d:Nat)(z:U)(_:bh z L A h)(p:an)(P S T:Own),α p.sum=32->p.cH->p.size.toNat<d->
  AC γ 231 [dz L c,.agg (ae p P S T)] z λi C=>z.sub C/\match fu h c d p with
   |none=>i=.aF [.J [] .nil,.v (.int .i64 21)]
   |some rows=>∃k r,i=.aF [r,.v (.int .i64 0)]/\aw z C 1 k r/\aC isRow rows k
 |0,_,_,_,_,_,_,_,_,F=>by omega
 |d+1,z,k4,p,P,S,T,eF,n2,a34=>by
  have a36:=(aN (O:=P) (e4:=S) (h5:=T) eF).all;refine aM hm OH ?_;refine bp λj a38=>?_;refine dk λk5 a42 a43 a47=>?_;generalize l:(z.set j _).set k5 _=m;have D:z.sub m:=by subst l;exact aV
  have c2:m j=β (.cells [.ptr L 0,.v (.int .i64 (c))]):=by subst l;exact aV
  have aE:m k5=β (.cells (ae p P S T)):=by subst l;exact aV
  clear l;rw[fu];have a48:=κ c2;have a52:=κ aE;refine aH (λn=>?_) λn=>?_
  .exact⟨_,θ,D,[],.J [] .nil,rfl,aw.nil D,trivial⟩
  rw[if_neg n];refine ak (xQ m L A h (k4.mono D) p P S T eF n2 c k2 k3) ?_;rintro i k6⟨G,q⟩;cases B:kh h c p with
  |none=>rw[B]at q;obtain rfl:=q;refine aa ?_;refine aO λs V=>?_;refine aa ?_;exact μ (ο D G) (Μ (ο D G) V)
  |some n3=>
   obtain⟨b,a56⟩:=n3;rw[B]at q;obtain⟨x,n4,rfl,a57,a61,k7,H⟩:=q;obtain⟨o,cg,rfl,a62,a63,a65,a68,a69,a71⟩:=uj B;have a73:=fi k7;have t:=bM.dC k7 δ rfl (H.cells λ_ _=>Η);have I:=t.len;rw[H.len]at I;have I:fY n4=β (.v (.int .i64 2)):=I;refine aa ?_;refine aO λs V=>?_;have k8:=G _ _ c2;have n5:j≠s:=by rintro rfl;rw[k8]at V;cases V
   have a74:=n5.symm;have u:=μ (X:=.cells [.J (ab b.1) x,.v (.bool b.2)]) (θ) V;have bx:=ν k6 s (.cells [.J (ab b.1) x,.v (.bool b.2)]);refine aa ?_;rw[σ];have n9:=u _ _ k8;have t:=t.mono u;have K:=ο D (ο G u);have a00:=(k4.mono D).mono (ο G u);generalize k6.set s _=M at*;have a81:=κ bx;refine nA [2,7] (λr:R=>[(9,r)]) (λr C=>M.sub C/\∃k,aw M C 1 k r/\aC isRow (if b.2=η then [b.1]else []) k) (λa01=>?_) (λa01=>?_) ?_
   .refine aa ?_;refine iv (by simp[bc,τ]) ρ λa83 a02=>?_;refine aa ?_;refine fx (aw.nil (μ θ a02)) δ (nK rfl) rfl (by simp[flat,τ]) (by simp[flat,τ]) λa03 a04 k9=>?_;refine aa ?_;exact⟨a03,⟨k9.1,_,k9,⟨⟨x,rfl⟩,trivial⟩⟩,rfl⟩
   .refine aa ?_;exact⟨_,⟨[],aw.nil θ,trivial⟩,rfl⟩
   rintro r a04⟨a84,k,a05,l0⟩a86;refine aa ?_;obtain⟨own,l1⟩:∃own,(if b.2=η then [b.1]else [])=own:=⟨_,rfl⟩;have a88:α own<=1:=by subst l1;split<;>simp
   rw[l1]at l0
   let ac:Nat->List Ρ:=λa=>own++(if 0<a then(fu h c d o).getD []else [])++(if 1<a then(fu h c d cg).getD []else []);refine cQ [2,34,35] (λb:Nat×R=>[(36,.v (.int .i64 (b.1))),(9,b.2)]) (λb C=>b.1<=2/\(∃k,aw M C 1 k b.2/\aC isRow (ac b.1) k)/\(0<b.1->(fu h c d o).isSome=η)/\(1<b.1->(fu h c d cg).isSome=η)) (λb=>2 - b.1) (0,r) ⟨⟨δ,⟨k,a05,by simpa[ac] using l0⟩,λF=>absurd F (Nat.lt_irrefl 0),λF=>absurd F δ⟩,aV⟩ ?_;rintro⟨a,a06⟩ l2 ⟨a07,⟨a08,y,N⟩,O,l3⟩ a89
   dsimp only at a07 y N O l3
   refine aa ?_;refine aH (λn=>?_) λn=>?_
   .have a90:a<2:=δ;obtain⟨_,Q,v,l4,W,e,f,rfl⟩:=H.get (i:=a) (x:=[o,cg].getD a aB) (by simp_all);obtain⟨a09,a92,l5⟩:=t.get a _ Q;have l6:=(aN (O:=W) (e4:=e) (h5:=f) v).all;have a10:cV η 37 l2 a09=β (.agg (ae ([o,cg].getD a aB) W e f)):=by have:=l5.ld l2 y.1 η 37 δ (by rw[hg];omega);rw[this,aP,if_pos rfl,hg,l6.2.1]
    have a11:=kR (O:=W) (e4:=e) (h5:=f) v;have l7:([o,cg].getD a aB).size.toNat<d:=by
     obtain rfl|rfl:a=0\/a=1:=δ
     .show o.size.toNat<d;omega
     .show cg.size.toNat<d;omega
    obtain⟨E,X⟩:∃E,[o,cg].getD a aB=E:=⟨_,rfl⟩;rw[X]at Q v l4 l6 a10 a11 l7;clear l5 Q;refine aa ?_;refine aO λa13 Y=>?_;have l8:=y.1 _ _ n9;have a14:j≠a13:=by rintro rfl;rw[l8]at Y;cases Y
    have a94:=a14.symm;have Z:=μ (X:=.cells (ae E W e f)) (θ) Y;have a95:=κ l8;refine aa ?_;refine ak (ED L A h c k2 k3 d _ (a00.mono (ο y.1 Z)) E W e f v l4 l7) ?_;rintro i a96⟨l9,w⟩;have a15:fu h c d E=if a=0 then fu h c d o else fu h c d cg:=by
     rw[<-X];obtain rfl|rfl:a=0\/a=1:=δ
     .rfl
     .rfl
    cases k0:fu h c d E with
    |none=>rw[k0]at w;obtain rfl:=w;refine aa ?_;refine⟨_,θ,ο K (ο y.1 (ο Z l9)),?_⟩;grind
    |some hn=>
     rw[k0]at w a15;obtain⟨a97,a98,rfl,n0,n1⟩:=w;obtain⟨a99,a16,a18,b00⟩:=n0.src;have b01:=fi n0;have a19:=y.mono (ο Z l9);have b02:=N.len;have b03:=n1.len;have b04:=(sj k0).1;have b05:(ac a).length<=3000000:=by
      have:∀x:Option (List Ρ),(∀g,x=β g->α g<=1048576)->(x.getD []).length<=1048576:=λx F=>by
       cases x with
       |none=>simp
       |some g=>exact F g rfl
      have G:=this (fu h c d o) λg a27=>by have:=(sj a27).1;omega
      grind
     have b06:E.size<=1048576:=by
      rw[<-X];obtain rfl|rfl:a=0\/a=1:=δ
      .show o.size<= _;omega
      .show cg.size<= _;omega
     refine aa ?_;refine fx a19 δ a18 a16 δ δ λa29 b07 a30=>?_;refine aa ?_;refine⟨(a+1,a29),⟨by dsimp only;omega,⟨_,a30,?_⟩,?_,?_⟩,⟨rfl,rfl⟩,by dsimp only;omega⟩
     .have:ac (a+1)=ac a++hn:=by grind
      rw[this];exact N.append n1
     .intro _;obtain rfl|rfl:a=0\/a=1:=δ;grind
      .exact O δ
     grind
   .obtain rfl:a=2:=δ;obtain⟨b08,b09⟩:=a3C.1 (O δ);obtain⟨b10,b11⟩:=a3C.1 (l3 δ);refine aa ?_;refine⟨_,θ,ο K y.1,?_⟩;refine⟨a08,a06,rfl,y.base K,?_⟩;grind
end Go.Proofs.YtcfpcblgmmeioaaGreat
namespace Go.bt
open Go
def View.freeze{a:U}{b:R}{c:Nat}{d:Χ}(k:a c=β (.cells d)):View a b (a.set c (.ro d)) b:=λx y v o p=>by
 obtain⟨r,h⟩:=Step.freeze o k;exact⟨r,h,p.mono h.le⟩
variable{f u e1:U}{g A c0:Χ}{e i v M b9 h9:Nat}
def View.ZA(b:f M=β (.ro g))(c:e*i<=α g):View f (.aq M e b9 i) f (.J (ez i e g) .any):=λd k v a h=>⟨d,.refl a,aQ.frozen a b c h⟩
variable{t:bb}{l h7:World}
theorem aQ.frozenAt{v:Value}(h:Holds t f l)(k:f M=β (.ro g))(S:e+i<=α g)(o:aQ t v (.bB M e i b9 1)):aQ t v (.J ((g.drop e).take i) .any):=by
 obtain⟨p,r,T,V,W,d,j⟩:=h.cM M _ k;have m:=d.1;cases o with
 |bB M e i b9 n hk x=>
  have y:∀b∈g.drop e,b.one=true:=λb z=>p b (a3v z);obtain⟨C,D,E⟩:=vc (i:=i) δ (by rw[a3i];omega) y;rw[lE,a3M]at*;by_cases F:i=0
  .subst F;rw[a4Q];exact .cX _ _ _ (λG=>by cases G) trivial
  .refine .J M e i b9 1 (λa=>r.getD (e+a) Go.undef) _ .any hk E.symm x C ?_ ?_ ?_ trivial;grind;grind
   .intro a L c;rw[D]at c;have P:a<i:=by grind
    rw[a3O P,a5M]at c;exact d.2 (e+a) L c
def View.ZB(b:f M=β (.ro g))(c:e+i<=α g):View f (.bB M e i b9 1) f (.J ((g.drop e).take i) .any):=λd k v a h=>⟨d,.refl a,aQ.frozenAt a b c h⟩
end Go.bt
namespace Go.Proofs.YtcfpcblgmmeioaaGreat
open Go Go.bt
theorem ZC(p:List Ρ)(a:Χ)(c:Own)(b:U)(d:aC isRow p a)(F:α p<=4000000):
  AC γ 45 [.J a c] b λr h=>aw b h 1 a r:=by
 have G:=d.len;refine nu λL=>?_;have x:c=.nil->a=[]:=λk=>by subst k;simp_all
 refine aZ hm JM ρ ?_;simp -dsimp -implicitDefEqProofs (disch:=first|omega|assumption|(simp only[aR,Nat.reduceAdd];try omega)) only[go_sem,simprocAttr,↓nD];refine nE (λo=>by rw[x o]) (λo=>?_) ?_
 .have y:a=[]:=by trivial
  subst y;simp -dsimp -implicitDefEqProofs (disch:=first|omega|assumption|(simp only[aR,Nat.reduceAdd];try omega)) only[go_sem,simprocAttr,a3H];exact⟨b,θ,aw.nil θ⟩
 .simp -dsimp -implicitDefEqProofs (disch:=first|omega|assumption|(simp only[aR,Nat.reduceAdd];try omega)) only[go_sem,simprocAttr,rq];have z:c8 b 1 (.J a c)=β (α a,a):=by have C:=d.flat;have D:=a3h.2 λk E=>decide_eq_true (d.cells (λ_ _=>φ) k E);simp only[c8,D,if_true,C]
  refine fx (aw.zero (θ)) δ z δ Κ Κ λr h o=>?_;simp -dsimp -implicitDefEqProofs (disch:=first|omega|assumption|(simp only[aR,Nat.reduceAdd];try omega)) only[go_sem,simprocAttr];exact⟨h,θ,by trivial⟩
variable{q b7:R}{f u e1:U}{N:List Ρ}{g A c0:Χ}{e i v M b9 h9:Nat}
theorem ZD{y:Ρ->Ρ->Int}(l:o5 e y){z:List Ρ}(C:aw u e1 1 g q)(D:aC isRow N g)(m:∀h∈N,α h=e)(X:α N<=4000000)(P:N≠[])
  (S:z.Perm N) (n:z.Pairwise (λq p=>¬y p q<0)) (r:FuncId) (E:Χ) (F:f.sub e1) (s:∀p,f p=ε\/∃t,f p=β (.ro t)) (v:fa γ r=η)
  (w:∀b G x A,α b=e->α G=e->AC γ r ([.J (ab b) x,.J (ab G) A]++E) f λh _=>h=.v (.int .i64 (y b G))):
  ∃c k,q=.aq c (α N) k 1/\α N<=k/\AC γ 46 [q,.bA r [] E] e1 λh o=>h=.aF []/\u.sub o/\f.sub o/\∃d T,aC isRow z d/\o c=β (.ro (d++T))/\aw u (o.set c (.cells (d++T))) 1 d q:=by
 obtain⟨c,B,k,V,rfl,L,H,I,W,K,i,M⟩:=C.aq (λY=>P (by have:=D.len;grind));rw[a3M]at I W K;have Z:=D.len;obtain rfl:B=α N:=δ;have O:=a3T.2 P;refine⟨c,k,rfl,i,?_⟩;refine(Zz l H D rfl W δ O m S n r E F s v w).view λh o Q=>?_;obtain⟨rfl,d,j,rfl⟩:=Q;have k0:=j.len;have k2:=S.length_eq;refine⟨.aF [],_,View.freeze (ν _ _ _),rfl,?_,?_,d,V.drop (α N),j,ν _ _ _,?_⟩
 .rw[σ];intro b x a;have:b≠c:=by rintro rfl;rw[L]at a;cases a
  rw[ξ _ _ this];exact C.1 _ _ a
 .rw[σ];intro b x a;have:b≠c:=by rintro rfl;have:=F _ _ a;grind
  rw[ξ _ _ this];exact F _ _ a
 .rw[σ,σ];refine⟨λb x a=>?_,.inr ⟨c,α N,k,d++V.drop (α N),rfl,L,ν _ _ _,?_,?_,?_,i,M⟩⟩
  .have:b≠c:=by rintro rfl;rw[L]at a;cases a
   rw[ξ _ _ this];exact C.1 _ _ a
  simp_all;simp_all
  .omega
end Go.Proofs.YtcfpcblgmmeioaaGreat
namespace Go.bt
open Go
variable{s Z:R -> U -> Prop}{b4:FuncId}{f u e1:U}{g A c0:Χ}{e i v M b9 h9:Nat}{m:Program}
def AC.ZE(b:f e=β (.cells A))(c:AC m b4 g (f.set e (.ro A)) s):AC m b4 g f s:=
 c.pre λo p r d h=>by
  obtain⟨k,a⟩:=Step.freeze h b;exact⟨k,d.mono a.le,a⟩
def U.one(a:Nat)(b:bl):U:=λc=>if c=a then β b else ε
variable{X j6:bl}
def U.ZF:U.one e X e=β X:=by simp[U.one]
theorem U.one_sub(b:f e=β X):(U.one e X).sub f:=λc d a=>by
 unfold U.one at a;simp_all
theorem U.ZG:∀a,U.one e (.ro g) a=ε\/∃b,U.one e (.ro g) a=β (.ro b):=λa=>by
 unfold U.one;grind
end Go.bt
namespace Go.Proofs.YtcfpcblgmmeioaaGreat
open Go Go.bt
variable{q b7:R}{f u e1:U}{N:List Ρ}{g A c0:Χ}{e i v M b9 h9:Nat}
theorem ZH{k:List Ρ}(o:aw u e1 1 g q)(y:e1.sub f)(z:aC isRow N g)(C:∀a∈N,α a=v)(D:α N<=4000000)(E:N≠[])(w:e<v)(A:v<=8)
  (F:k.Perm N) (G:k.Pairwise (λq L=>¬cB e L q<0)) (P:f i=β (.cells [.v (.int .i64 (e:Int))])) (p:e1 i=ε):
  ∃b d,q=.aq b (α N) d 1/\α N<=d/\AC γ 46 [q,.bA 313 [] [.ptr i 0]] f λa c=>a=.aF []/\u.sub c/\∃h r,aC isRow k h/\c b=β (.ro (h++r))/\aw u (c.set b (.cells (h++r))) 1 h q:=by
 have S:=Μ o.1 p;have T:cG q≠β i:=λV=>aw.has o V p;have W:=aw.other (o.mono y) (o:=.ro [.v (.int .i64 (e))]) S T;obtain⟨b,d,rfl,j,l⟩:=ZD (pc v e) W z C D E F G 313 [.ptr i 0] (U.one_sub (ν f i (.ro [.v (.int .i64 (e:Int))]))) U.ZG a7v (λm n s t B H=>(DE m n s t e _ i (by simp[U.read,U.ZF]) δ δ δ).mono λa c x=>x.2);refine⟨b,d,rfl,j,AC.ZE P (l.mono λa c x=>?_)⟩;simp_all
def hZ(b:Nat):Nat->ad->List Ρ->Nat->Except Int an×ad
 |0,c,_,_=>(.ok aB,c)
 |o+1,c,a,dep=>if a=[]then(.ok aB,c)else
  match hZ b o c ((dP (dep%b) a).take (α a/2)) (dep+1)with
  |(.error d,h)=>(.error d,h)
  |(.ok p,h)=>match hZ b o h ((dP (dep%b) a).drop (α a/2+1)) (dep+1)with
   |(.error d,k)=>(.error d,k)
   |(.ok r,k)=>dr k b (cx ((dP (dep%b) a).getD (α a/2) [],η) p r)
def o6(h a:U)(b c:Nat)(d:Except Int an×ad)(k:R):Prop:=bh a b c d.2/\Ext b c h a/\gj d.1 k
theorem gj.z:gj (.ok aB) (.aF [.agg (ae aB .nil .nil .nil),.v (.int .i64 0)]):=⟨bg,oU,_,_,_,rfl⟩
theorem o6.z{a b:U}{c d:Nat}{h:ad}(o:bh a c d h)(k:a.sub b):o6 a b c d (.ok aB,h) (.aF [.agg (ae aB .nil .nil .nil),.v (.int .i64 0)]):=⟨o.mono k,ω k,gj.z⟩
theorem EE(a c:Nat)(h:Nat)(k:Own)(o:Nat)(b:U)(d:ad)(x:bh b a c d):
  AC γ 232 [dz a h,.J [] k,.v (.int .i64 (o:Int))] b λp r=>o6 b r a c (.ok aB,d) p:=by
 refine aM hm Aq ?_;refine bp λy z=>?_;refine dk λC D E F=>?_;refine⟨_,θ,?_⟩;grind[cm,Θ,aN,bg,o6.z,μ,θ]
theorem y8(d C:Nat)(c:Nat)(i:1<=c)(j:c<=8):∀(k:Nat)(b:List Ρ)(D:Χ)(G:Own)(dep:Nat)(r:U)(o:ad),bh r d C o->aC isRow b D->(∀h∈b,α h=c)->α b<=k->k<=4000000->dep+k<=100000000->
  AC γ 232 [dz d c,.J D G,.v (.int .i64 (dep:Int))] r λh a19=>o6 r a19 d C (hZ c k o b dep) h
 |0,b,D,G,dep,r,o,L,P,B,a27,_,_=>by
  obtain rfl:b=[]:=a2Y δ;obtain rfl:D=[]:=a2Y P.len;exact EE d C c G dep r o L
 |k+1,b,D,G,dep,r,o,L,P,B,a27,a99,b00=>by
  have b01:=P.len;by_cases H:b=[]
  .subst H;obtain rfl:D=[]:=a2Y P.len;rw[hZ,if_pos rfl];exact EE d C c G dep r o L
  have b02:=a3T.2 H;have b03:¬(α b:Int)=0:=δ;have a29:=a4O dep i;have k0:=hZ.eq_2 c o b dep k;rw[if_neg H]at k0;generalize hZ c (k+1) o b dep=b04 at k0;obtain⟨l8,a30⟩:=si (e:=dep%c) B;have b05:=p6 (dep%c) b;have l9:=λh l=>B h (l8.mem_iff.1 l);generalize dP (dep%c) b=E at*;refine aM hm Aq ?_;refine bp λn0 a34=>?_;refine dk λm I b06 b07=>?_;generalize K:(r.set n0 _).set m _=M;have n1:r.sub M:=by subst K;exact aV
  have aE:M n0=β (.cells [.ptr d 0,.v (.int .i64 (c))]):=by subst K;exact aV
  have bx:M m=β (.cells (ae aB .nil .nil .nil)):=by subst K;rw[<-cm];exact aV
  clear K;have k2:=L.mono n1;refine ak (ZC b D G M P δ) ?_;intro b08 a36 k3;refine aa ?_;have n2:=κ (k3.1 _ _ aE);refine aa ?_;refine ak (DF d c dep i δ j a36) ?_;rintro _ b09⟨n3,b10,S,n4,rfl⟩;refine aa ?_;obtain⟨z,p,rfl,a38,n5⟩:=ZH k3 n3 P B δ H a29 j l8 a30 S n4;refine ak n5 ?_;rintro _ k4⟨rfl,n,F,k5,N,n9,a00⟩;have a01:=aw.fresh a00 rfl;clear a00;have b11:=N.len;have a42:=k2.mono n;have b12:=κ (n _ _ aE);clear n5 k3 S n4 n3 n2;have b13:(α b:Int).tdiv 2=((α b/2:Nat)):=rfl;have b14:c9 1 (.aq z (α b) p 1) ε (β (.v (.int .i64 ((α b/2:Nat))))) ε=β (.aq z (α b/2) p 1):=hi δ;generalize b15:α b/2=a at*;have b16:a<α b:=δ;refine aa ?_;have b17:(F++k5).length=p\/True:=.inr trivial;have a43:(dep)+1=((dep+1:Nat):Int):=rfl;rw[a43];have a47:View k4 (.aq z a p 1) k4 (.J (F.take a) .any):=by have:=View.ZA (e:=a) (b9:=p) (i:=1) n9 (by rw[a2V];omega);rwa[lE,a4F δ]at this
  refine ak (AC.mK (g:=[dz d c]) a47 (y8 d C c i j k (E.take a) (F.take a) .any (dep+1) k4 o a42 (N.take a) (λh l=>l9 h (a3j l)) (by rw[a2X];omega) δ δ)) ?_;rintro h a02⟨O,Q,k6⟩;generalize b18:hZ c k o (E.take a) (dep+1)=w5 at*;obtain⟨a48,a03⟩:=w5
  dsimp only at O k6
  have X:=L.ct a34;have x:=L.ct I;have Y:=k2.ct a01;have a04:=Q _ _ X.1 X.2 (n _ _ aE);have Z:=Q _ _ x.1 x.2 (n _ _ bx);have a52:=Q _ _ Y.1 Y.2 n9;have a05:=((ω (ο n1 n)).trans Q);cases a48 with
  |error a06=>
   obtain⟨k7,rfl⟩:=k6;refine aa ?_;refine aO λq y=>?_;have k8:q≠m:=by rintro rfl;rw[Z]at y;cases y
   have a56:=k8.symm;have a57:=(aN (O:=.nil) (e4:=.nil) (h5:=.nil) bg).all;have a61:=kR (O:=.nil) (e4:=.nil) (h5:=.nil) bg;refine aa ?_;have a62:=χ Z;have a63:=cC (a:=.nil) (b:=.nil) (c:=.nil) (O:=.nil) (e4:=.nil) (h5:=.nil) bg bg;rw[cm];refine aa ?_;refine⟨_,θ,?_⟩;exact⟨(O.mono (μ θ y)).set x,(a05.trans (ω (μ θ y))).dK I,k7,rfl⟩
  |ok k9=>
   obtain⟨l0,a65,s,t,u,rfl⟩:=k6;refine aa ?_;refine aO λq y=>?_;have k8:q≠m:=by rintro rfl;rw[Z]at y;cases y
   have a56:=k8.symm;have b19:=(aN (O:=s) (e4:=t) (h5:=u) l0).all;have b20:=kR (O:=s) (e4:=t) (h5:=u) l0;refine aa ?_;have T:=μ (X:=.cells (ae k9 s t u)) (θ) y;have cW:=ν a02 q (.cells (ae k9 s t u));have a68:=O.mono T;have n2:=κ (T _ _ a04);have a07:=T _ _ a52;have a69:=T _ _ Z;have a71:=T _ _ a04;have a73:=a05.trans (ω T);rw[σ];generalize a02.set q _=l1 at*;have a08:∃v,c9 1 (.aq z (α b) p 1) (β (.v (.int .i64 ((a:Int)+1)))) ε ε=β v/\View l1 v l1 (.J (F.drop (a+1)) .any):=by
    by_cases S:a+1<p
    .refine⟨_,fK (e:=a+1) δ a38 S,?_⟩;rw[a3M];have:=View.ZB (e:=a+1) (i:=α b -(a+1)) (b9:=p -(a+1)) a07 (by rw[a2V];omega);grind
    .have a74:α b=p:=δ;have b21:a+1=α b:=δ;refine⟨_,by have:=tf (i:=1) (M:=z) (e0:=.i64) a74;rw[show(a)+1=(α b:Int) by omega];exact this,?_⟩;rw[a3D δ];exact View.J
   obtain⟨l2,a08,a81⟩:=a08;refine aa ?_;refine ak (AC.mK (g:=[dz d c]) a81 (y8 d C c i j k (E.drop (a+1)) (F.drop (a+1)) .any (dep+1) l1 a03 a68 (N.drop (a+1)) (λh l=>l9 h (a3v l)) (by rw[a3i];omega) δ δ)) ?_;rintro h l3⟨l4,w,l5⟩;generalize b22:hZ c k a03 (E.drop (a+1)) (dep+1)=q1 at*;obtain⟨cw,wh⟩:=q1
   dsimp only at l4 l5 k0
   have b23:=k2.ct a01;have a09:=O.ct y;have a83:=w _ _ X.1 X.2 a71;have l6:=w _ _ x.1 x.2 a69;have a84:=w _ _ Y.1 Y.2 a07;have a86:=w _ _ a09.1 a09.2 cW;have a10:=a73.trans w;cases cw with
   |error a06=>
    obtain⟨k7,rfl⟩:=l5;refine aa ?_;refine aO λA V=>?_;have a88:A≠m:=by rintro rfl;rw[l6]at V;cases V
    have b24:=a88.symm;have a57:=(aN (O:=.nil) (e4:=.nil) (h5:=.nil) bg).all;have a61:=kR (O:=.nil) (e4:=.nil) (h5:=.nil) bg;have a62:=χ l6;have a63:=cC (a:=.nil) (b:=.nil) (c:=.nil) (O:=.nil) (e4:=.nil) (h5:=.nil) bg bg;refine aa ?_;rw[cm];refine aa ?_;refine⟨_,θ,?_⟩;exact⟨(l4.mono (μ θ V)).set x,(a10.trans (ω (μ θ V))).dK I,k7,rfl⟩
   |ok cg=>
    obtain⟨l7,a89,W,e,f,rfl⟩:=l5;refine aa ?_;refine aO λA V=>?_;have b25:=(aN (O:=W) (e4:=e) (h5:=f) l7).all;have b26:=kR (O:=W) (e4:=e) (h5:=f) l7;refine aa ?_;rw[σ];have g:=μ (X:=.cells (ae cg W e f)) (θ) V;have b27:=κ (ν l3 A (.cells (ae cg W e f)));have a90:=l4.mono g;have b28:=κ (g _ _ a83);have b29:=κ (g _ _ a86);have b30:(l3.set A (.cells (ae cg W e f))).read z=β (F++k5):=by have:=g _ _ a84;simp only[U.read,this]
    have a92:=g _ _ l6;have a94:=a10.trans (ω g);generalize l3.set A _=a95 at*;obtain⟨_,a96,a11,rfl⟩:=N.get (i:=a) (x:=E.getD a []) (by simp_all);have b31:cJ 1 (.aq z (α b) p 1) (.v (.int .i64 (a)))=β (.ptr z (a*1)):=by grind[jL,Int.toNat_natCast]
    have b32:aP ι 1 (List.drop a (F++k5))=.J (ab (E.getD a [])) a11:=by obtain⟨a97,S⟩:=a2Z.1 a96;rw[a4Y δ,a3z a97,S];rfl
    refine aa ?_;refine ak (ud a95 d C wh a90 (E.getD a [],η) k9 cg a11 s t u W e f c i j l0 l7 a65 a89) ?_;rintro h b33⟨a98,a13,a14⟩;have b34:=χ (a13 _ _ x.1 x.2 a92);obtain⟨b35,a15,l2,a16,a06,a18,rfl⟩:=a14.shape;have b36:=(aN (O:=a15) (e4:=l2) (h5:=a16) a18).all;have b37:=cC (a:=.nil) (b:=.nil) (c:=.nil) (O:=a15) (e4:=l2) (h5:=a16) bg a18;have b38:=(aN (O:=.nil) (e4:=.nil) (h5:=.nil) bg).len;refine aa ?_;refine⟨_,θ,?_⟩;exact⟨a98.set x,(a94.trans a13).dK I,a14⟩
def lV(a:ad)(b:Nat)(c:an)(h:Nat):Except Int an×ad:=
 match fu a b (c.size.toNat+1) c with
 |none=>(.error 21,a)
 |some d=>hZ b (α d) a d h
def EF(k:U)(d x:Nat)(c:ad)(o:bh k d x c)(a:an)(E F G:Own)(e:α a.sum=32)(A:a.cH)(b:Nat)(f:1<=b)(g:b<=8)(h:Nat)(Z:h<=10000000)(k0:a.size<=4000000):
  AC γ 171 [dz d b,.agg (ae a E F G),.v (.int .i64 (h:Int))] k λL B=>o6 k B d x (lV c b a h) L:=by
 have k2:=(aN (O:=E) (e4:=F) (h5:=G) e).all;have i:lV c b a h=match fu c b (a.size.toNat+1) a with
  |none=>(.error 21,c)
  |some p=>hZ b (α p) c p h:=rfl
 generalize lV c b a h=k3 at*;refine aM hm N8 ?_;refine bp λj k4=>?_;refine dk λH k5 k6 k7=>?_;refine hG λl y a3 a4 a5 du=>?_;generalize z:((k.set j _).set H _).set l _=C;have r:k.sub C:=by subst z;exact aV
 have aE:C j=β (.cells [.ptr d 0,.v (.int .i64 (b))]):=by subst z;exact aV
 have ba:C l=β (.cells (ae aB .nil .nil .nil)):=by subst z;rw[<-cm];exact aV
 clear z;refine ak (ED d x c b f g (a.size.toNat+1) C (o.mono r) a E F G e A δ) ?_;rintro L k8⟨P,D⟩;cases S:fu c b (a.size.toNat+1) a with
 |none=>rw[S]at D i;obtain rfl:=D;have I:=(aN (O:=.nil) (e4:=.nil) (h5:=.nil) bg).all;have k9:=cC (a:=.nil) (b:=.nil) (c:=.nil) (O:=.nil) (e4:=.nil) (h5:=.nil) bg bg;have K:=χ (P _ _ ba);refine aa ?_;refine⟨_,θ,?_⟩;rw[cm,a2U (by rw[I.1];omega)];exact⟨((o.mono r).mono P).set (o.ct y),((ω r).trans (ω P)).dK y,Λ,rfl⟩
 |some p=>rw[S]at D i;obtain⟨M,l0,rfl,m,T⟩:=D;have n:=m;have l1:=κ (m.1 _ _ aE);rw[<-T.flat]at n;obtain⟨N,O,V⟩:=aw.CR n T;obtain⟨l2,Q⟩:=sj S;have W:=o.ct y;have l3:=(aN (O:=.nil) (e4:=.nil) (h5:=.nil) bg).len;refine aa ?_;have X:=AC.mK (m:=γ) (g:=[dz d b]) O (y8 d x b f g (α p) p M .any h N c (((o.mono r)).mono V) T Q δ δ δ);refine ak X ?_;rintro L l4⟨Y,q,s⟩;obtain⟨l5,t,u,v,l6,w,rfl⟩:=s.shape;have K:=χ (q _ _ W.1 W.2 (V _ _ ba));have l7:=(aN (O:=t) (e4:=u) (h5:=v) w).all;have l8:=cC (a:=.nil) (b:=.nil) (c:=.nil) (O:=t) (e4:=u) (h5:=v) bg w;refine aa ?_;refine⟨_,θ,?_⟩;exact⟨Y.set W,(((ω r).trans (ω V)).trans q).dK y,s⟩
end Go.Proofs.YtcfpcblgmmeioaaGreat
namespace Go.bt
open Go
section
end
end Go.bt
namespace Go.Proofs.YtcfpcblgmmeioaaGreat
open Go Go.bt
def lW(k:ad)(c:Nat)(o:Ρ×Bool)(d h:an)(p:Nat):Except Int an×ad:=
 match dr k c (cx o d h)with
 |(.error r,a)=>(.error r,a)
 |(.ok b,a)=>if(2*b.size).tdiv 3+1<max d.size h.size then lV a c b p else(.ok b,a)
def jq(b:Nat)(h:Ρ):Nat->ad->an->Nat->Except Int an×ad
 |0,a,_,_=>(.error 21,a)
 |r+1,a,k,dep=>if k=aB then dr a b (cx (h,η) k k)else match kh a b k with
  |none=>(.error 21,a)
  |some (d,bw)=>if d.1=h then(if d.2=η then(.error 8,a)else lW a b (d.1,η) (bw.getD 0 aB) (bw.getD 1 aB) dep)
   else if cB (dep%b) h d.1<0 then match jq b h r a (bw.getD 0 aB) (dep+1)with
    |(.error o,c)=>(.error o,c)
    |(.ok p,c)=>lW c b d p (bw.getD 1 aB) dep
   else match jq b h r a (bw.getD 1 aB) (dep+1)with
    |(.error o,c)=>(.error o,c)
    |(.ok p,c)=>lW c b d (bw.getD 0 aB) p dep
variable{w j0:an}{e i v M b9 h9:Nat}{H:ad}
theorem EG{h:ad}{k:Ρ×Bool}{b:an}(a:dr H e (cx k w j0)=(.ok b,h)):b.size=1+w.size+j0.size/\0<=w.size/\0<=j0.size/\b.size<=1048576:=by
 unfold dr at a;split at a
 .simp_all
 .rename_i p o;simp only[a4h,Except.ok.injEq]at a;obtain⟨rfl,_⟩:=a;have c:=tO o;have d:=sd c.ok;have:=c.size;simp only[cx,a4u,a3q,a4L,a4X,List.sum_nil]at this;exact⟨δ,(ki (d w (by simp[cx]))).1,(ki (d j0 (by simp[cx]))).1,c.nB⟩
structure iH(cs:Χ)(a b:an):Prop where
 len:74<=α cs
 bS:α a.sum=32
 pd:a.cH
 cf:α b.sum=32
 pe:b.cH
 cs:∃mQ mR c d h k r,cs=ae a mQ mR c++(ae b d h k++r)
variable{q b7:R}{f u e1:U}{g A c0:Χ}
theorem iH.of{s:U}(p:aw f s 37 (flat g) q)(r:aC bu [w,j0] g):∃a o b,q=.aq a 2 o 37/\f a=ε/\s a=β (.cells b)/\iH b w j0:=by
 match g,r with
 |[_,_],⟨⟨bS,pd,mQ,mR,c,rfl⟩,⟨cf,pe,d,h,k,rfl⟩,_⟩=>
  have F:=(aN (O:=mQ) (e4:=mR) (h5:=c) bS).len;have G:=(aN (O:=d) (e4:=h) (h5:=k) cf).len;have x:flat [R.agg (ae w mQ mR c),.agg (ae j0 d h k)]=ae w mQ mR c++ae j0 d h k:=by simp[flat,τ]
  rw[x]at p;obtain⟨a,y,o,b,rfl,z,C,L,D,E,P,_⟩:=p.aq (λS=>by simp_all);rw[a2V]at E;obtain rfl:y=2:=δ;refine⟨a,o,b,rfl,z,C,δ,bS,pd,cf,pe,mQ,mR,c,d,h,k,b.drop 74,?_⟩;rw[<-a3o,<-D,a3y]
theorem iH.ld(p:iH g j0 w):∃h k o b c d,aP η 37 g=.agg (ae j0 h k o)/\aP η 37 (g.drop 37)=.agg (ae w b c d)/\aP ι 1 (g.drop 35)=.v (.int .i64 j0.size)/\aP ι 1 (g.drop 72)=.v (.int .i64 w.size):=by
 obtain⟨h,k,o,b,c,d,r,rfl⟩:=p.cs;have y:=(aN (O:=h) (e4:=k) (h5:=o) p.bS).len;have D:=(aN (O:=b) (e4:=c) (h5:=d) p.cf).len;have z:∀a,a<=37->(ae j0 h k o++(ae w b c d++r)).drop a=(ae j0 h k o).drop a++(ae w b c d++r):=λa C=>a4Y δ;have x:∀a,a<=37->(ae j0 h k o++(ae w b c d++r)).drop (37+a)=(ae w b c d).drop a++r:=λa C=>by
  rw[<-a3G,a5J y,a4Y δ]
 refine⟨h,k,o,b,c,d,?_,?_,?_,?_⟩
 .simp only[aP,if_true];simp_all
 .rw[x 0 δ,a4P];simp only[aP,if_true];simp_all
 .rw[z 35 δ,(aN p.bS).d35];rfl
 .rw[x 35 δ,(aN p.cf).d35];rfl
variable{O e4 h5:Own}
theorem iH.EH{k:an}(a:iH g k j0)(o:α w.sum=32)(y:w.cH):iH (putAt g 0 (ae w O e4 h5)) w j0:=by
 obtain⟨p,r,x,b,c,d,h,rfl⟩:=a.cs;have C:=(aN (O:=p) (e4:=r) (h5:=x) a.bS).len;have D:=(aN (O:=b) (e4:=c) (h5:=d) a.cf).len;have E:=(aN (O:=O) (e4:=e4) (h5:=h5) o).len;have z:putAt (ae k p r x++(ae j0 b c d++h)) 0 (ae w O e4 h5)=ae w O e4 h5++(ae j0 b c d++h):=by simp_all [putAt]
 rw[z];exact⟨by simp only[a2V];omega,o,y,a.cf,a.pe,_,_,_,_,_,_,h,rfl⟩
theorem iH.EI{k:an}(a:iH g j0 k)(o:α w.sum=32)(y:w.cH):iH (putAt g 37 (ae w O e4 h5)) j0 w:=by
 obtain⟨b,c,d,p,r,x,h,rfl⟩:=a.cs;have C:=(aN (O:=b) (e4:=c) (h5:=d) a.bS).len;have D:=(aN (O:=p) (e4:=r) (h5:=x) a.cf).len;have E:=(aN (O:=O) (e4:=e4) (h5:=h5) o).len;have z:putAt (ae j0 b c d++(ae k p r x++h)) 37 (ae w O e4 h5)=ae j0 b c d++(ae w O e4 h5++h):=by grind[putAt,List.take_left',List.drop_drop,List.drop_left',List.append_assoc]
 rw[z];exact⟨by simp only[a2V];omega,a.bS,a.pd,o,y,_,_,_,_,_,_,h,rfl⟩
set_option maxHeartbeats 1600000 in
theorem EJ(h C:Nat)(a:Nat)(k7:1<=a)(O:a<=8)(c:Ρ)(j:Own)(a14:α c=a):∀(T:Nat)(l:U)(p:ad)(_:bh l h C p)(k:an)(r x y:Own)(dep:Nat),α k.sum=32->k.cH->k.size.toNat<T->dep+T<=4000000->
  AC γ 168 [dz h a,.agg (ae k r x y),.J (ab c) j,.v (.int .i64 (dep:Int))] l λQ D=>o6 l D h C (jq a c T p k dep) Q
 |0,l,p,W,k,r,x,y,dep,eF,X,a97,a98=>by omega
 |T+1,l,p,W,k,r,x,y,dep,eF,X,a97,a98=>by
  have a99:=(aN (O:=r) (e4:=x) (h5:=y) eF).all;have b:=(jq.eq_2 a c p k dep T).symm;generalize jq a c (T+1) p k dep=a15 at*;refine aM hm N2 ?_;refine bp λv b00=>?_;refine dk λz n5 b41 b42=>?_;refine hG λw m a3 a4 a5 du=>?_;generalize k8:((l.set v _).set z _).set w _=n;have Y:l.sub n:=by subst k8;exact aV
  have aL:n v=β (.cells [.ptr h 0,.v (.int .i64 (a))]):=by subst k8;exact aV
  have ba:n z=β (.cells (ae k r x y)):=by subst k8;exact aV
  have bs:n w=β (.cells (ae aB .nil .nil .nil)):=by subst k8;rw[<-cm];exact aV
  clear k8;have b43:=κ aL;have b44:=κ ba;have l8:=W.mono Y;have Z:=W.ct b00;have k0:=W.ct n5;have d:=W.ct m;by_cases k9:k=aB
  .subst k9;refine bd (lK aB r x y n eF λ_=>X) ?_;refine ak (ud n h C p l8 (c,η) aB aB j r x y r x y a k7 O eF eF X X) ?_;rintro Q b45⟨b01,a16,a18⟩;obtain⟨b02,l0,l1,l2,l3,l4,rfl⟩:=a18.shape;have l9:=χ (a16 _ _ d.1 d.2 bs);have b03:=(aN (O:=l0) (e4:=l1) (h5:=l2) l4).all;have A:=(aN (O:=.nil) (e4:=.nil) (h5:=.nil) bg).len;have B:=cC (a:=.nil) (b:=.nil) (c:=.nil) (O:=l0) (e4:=l1) (h5:=l2) bg l4;rw[if_pos rfl]at b;refine aa ?_;refine⟨_,θ,?_⟩;rw[<-b];exact⟨b01.set d,((ω Y).trans a16).dK m,a18⟩
  rw[if_neg k9]at b;refine bd (lK k r x y n eF λ_=>X) ?_;generalize a19:bP (Ctx.of γ) (dM.seq (dM.block 0 _) _)=b46;refine ak (xQ n h C p l8 k r x y eF X a k7 O) ?_;rintro Q a27⟨H,n0⟩;cases n9:kh p a k with
  |none=>
   rw[n9]at n0 b;obtain rfl:=n0
   dsimp only at b
   refine aa ?_;refine aO λe V=>?_;have b04:e≠w:=by rintro rfl;rw[H _ _ bs]at V;cases V
   have b47:=b04.symm;have l9:=χ (H _ _ bs);subst a19;have A:=(aN (O:=.nil) (e4:=.nil) (h5:=.nil) bg).len;have B:=cC (a:=.nil) (b:=.nil) (c:=.nil) (O:=.nil) (e4:=.nil) (h5:=.nil) bg bg;refine aa ?_;refine⟨_,θ,?_⟩;rw[<-b,cm,a2U (by rw[A];omega)];exact⟨((l8.mono H).mono (μ θ V)).set d,(((ω Y).trans (ω H)).trans (ω (μ θ V))).dK m,Λ,rfl⟩
  |some b05=>
   obtain⟨o,b48⟩:=b05;rw[n9]at n0 b;obtain⟨E,b49,rfl,b50,b51,b06,b07⟩:=n0;obtain⟨n1,cg,rfl,b52,b53,b54,b55,b08,b56⟩:=uj n9;obtain⟨k2,b57,F,rfl,f,a29,g⟩:=iH.of b06 b07;refine aa ?_;refine aO λe V=>?_;refine aa ?_;have a30:=μ (X:=.cells [.J (ab o.1) E,.v (.bool o.2)]) (θ) V;have ck:=ν a27 e (.cells [.J (ab o.1) E,.v (.bool o.2)]);have l5:=ο H a30;have a00:=l5 _ _ aL;have a34:=l5 _ _ ba;have a01:=l5 _ _ bs;have a36:=a30 _ _ a29;have a02:=l8.mono l5;have a03:=(ω (l:=h) (lM:=C) Y).trans (ω l5);have a04:=Μ Y (Μ H V);have n2:=Μ Y f;have b58:k2≠e:=by rintro rfl;rw[a29]at V;cases V
   generalize a27.set e _=k3 at*;subst a19;refine nz [2,3,4,5,8,10,11] (λ_:(Ρ×Bool)×an×an×ad=>[]) (λi D=>lW i.2.2.2 a i.1 i.2.1 i.2.2.1 dep=a15/\bh D h C i.2.2.2/\Ext h C l D/\(∃E,D e=β (.cells [.J (ab i.1.1) E,.v (.bool i.1.2)]))/\(∃F,D k2=β (.cells F)/\iH F i.2.1 i.2.2.1)/\D v=β (.cells [.ptr h 0,.v (.int .i64 (a))])/\D z=β (.cells (ae k r x y))/\D w=β (.cells (ae aB .nil .nil .nil))) ?_ ?_
   .have b09:=κ ck;have b10:=κ a00;refine aa ?_;simp only[a3X,a4j]at b;have b59:=ck;by_cases a05:o.1=c
    .rw[if_pos a05]at b;refine bd (jW o.1 c E j k3 δ) ?_;cases a38:o.2 with
     |true=>rw[if_pos a38]at b;have A:=(aN (O:=.nil) (e4:=.nil) (h5:=.nil) bg).len;have B:=cC (a:=.nil) (b:=.nil) (c:=.nil) (O:=.nil) (e4:=.nil) (h5:=.nil) bg bg;have l9:=χ a01;refine aa ?_;refine⟨_,θ,?_⟩;rw[<-b,cm,a2U (by rw[A];omega)];exact⟨a02.set d,a03.dK m,Λ,rfl⟩
     |false=>
      rw[if_neg (by rw[a38];decide)]at b;refine aa ?_;refine bd (jW c c E j k3 δ) ?_;have b60:=χ ck;refine aa ?_;have b11:v≠e:=by grind
      have b12:z≠e:=by grind
      have b13:w≠e:=by rintro rfl;exact absurd (H _ _ bs) (by rw[V];simp)
      refine⟨((o.1,η),n1,cg,p),b,a02.set (W.ct a04),a03.dK a04,⟨E,by rw[a05]⟩,⟨F,rfl,g⟩,?_,?_,?_⟩
      .rw[ξ _ _ b11];exact a00
      .rw[ξ _ _ b12];exact a34
      .rw[ξ _ _ b13];exact a01
    .rw[if_neg a05]at b;refine bd (jW o.1 c E j k3 δ) ?_;refine bd (jW o.1 c E j k3 δ) ?_;obtain⟨G,q,b61,b14,a42,b15⟩:∃(G:Nat)(q:an),G<2/\(if cB (dep%a) c o.1<0 then(0:Int)else 1)=(G:Int)/\(q.size.toNat<T/\α q.sum=32/\q.cH)/\
       (match jq a c T p q (dep+1)with
        |(.error l3,k4)=>(.error l3,k4)
        |(.ok k9,k4)=>lW k4 a o (if G=0 then k9 else n1) (if G=0 then cg else k9) dep)=a15/\∃I K M,aP η 37 (F.drop (G*37))=.agg (ae q I K M):=by
      obtain⟨I,K,M,a06,a07,a08,a43,a47,_⟩:=g.ld;by_cases F:cB (dep%a) c o.1<0
      .rw[if_pos F]at b;exact⟨0,n1,δ,by rw[if_pos F];rfl,⟨δ,g.bS,g.pd⟩,b,I,K,M,a43⟩
      .rw[if_neg F]at b;exact⟨1,cg,δ,by rw[if_neg F];rfl,⟨δ,g.cf,g.pe⟩,b,a06,a07,a08,a47⟩
     obtain⟨b,I,K,M,b62⟩:=b15;obtain⟨b16,b17,b18⟩:=a42;have a48:=DG c o.1 j E h a dep δ O δ a14 b08 k3;rw[b14]at a48;have b19:=κ a36;have b20:=g.len;refine bd a48 ?_;have b21:(dep)+1=((dep+1:Nat):Int):=rfl;rw[b21];refine ak (EJ h C a k7 O c j a14 T k3 p a02 q I K M (dep+1) b17 b18 b16 δ) ?_;rintro Q b63⟨n3,k5,a52⟩;have N:=W.ct n2;have a56:=W.ct a04;have b64:=k5 _ _ Z.1 Z.2 a00;have b65:=k5 _ _ k0.1 k0.2 a34;have b22:=k5 _ _ d.1 d.2 a01;have b23:=k5 _ _ N.1 N.2 a36;have b66:=k5 _ _ a56.1 a56.2 ck;have l9:=χ b22;have b67:=χ b23;have a57:=a03.trans k5;have b24:k2≠w:=by rintro rfl;rw[bs]at f;cases f
     have b68:=b24.symm;have b69:v≠k2:=by rintro rfl;rw[aL]at f;cases f
     have a61:z≠k2:=by rintro rfl;rw[ba]at f;cases f
     have A:=(aN (O:=.nil) (e4:=.nil) (h5:=.nil) bg).all;have b70:G*37+37<=α F:=δ;generalize b71:jq a c T p q (dep+1)=b25 at*;obtain⟨oB,b26⟩:=b25;cases oB with
     |error l3=>
      obtain⟨a09,rfl⟩:=a52
      dsimp only at b n3
      have B:=cC (a:=.nil) (b:=.nil) (c:=.nil) (O:=.nil) (e4:=.nil) (h5:=.nil) bg bg;refine aa ?_;refine⟨_,θ,?_⟩;rw[<-b,cm,a2U (by rw[A.1];omega)];exact⟨(n3.set N).set d,(a57.dK n2).dK m,a09,rfl⟩
     |ok a62=>
      obtain⟨a10,a63,L,P,S,rfl⟩:=a52
      dsimp only at b n3
      have a42:=(aN (O:=L) (e4:=P) (h5:=S) a10).all;refine aa ?_;refine⟨(o,(if G=0 then a62 else n1),(if G=0 then cg else a62),b26),b,n3.set N,a57.dK n2,⟨E,rfl⟩,_,rfl,?_⟩;obtain rfl|rfl:G=0\/G=1:=δ
      .exact g.EH a10 a63
      .exact g.EI a10 a63
   .rintro⟨a65,a68,a69,k4⟩ D ⟨s,b27,a71,⟨b28,b29⟩,⟨b72,a73,k6⟩,a11,b30,a74⟩ b73
    dsimp only at*
    have b09:=κ b29;have b10:=κ a11;have b19:=κ a73;obtain⟨I,K,M,a06,a07,a08,a43,a47,b74,b75⟩:=k6.ld;have b20:=k6.len;refine aa ?_;have a81:=ud D h C k4 b27 a65 a68 a69 b28 I K M a06 a07 a08 a k7 O k6.bS k6.cf k6.pd k6.pe;refine ak a81 ?_;clear a81;rintro Q l6⟨n4,t,a83⟩;have b76:=κ (t _ _ Z.1 Z.2 a11);have b31:=t _ _ k0.1 k0.2 b30;have b77:=χ b31;have l9:=χ (t _ _ d.1 d.2 a74);have N:=W.ct n2;have b78:=κ (t _ _ N.1 N.2 a73);have b32:=du;have b33:=b32.symm;unfold lW at s;generalize b34:dr k4 a (cx a65 a68 a69)=b35 at*;obtain⟨pO,a84⟩:=b35;have A:=(aN (O:=.nil) (e4:=.nil) (h5:=.nil) bg).all;have b79:=a99;cases pO with
    |error l3=>
     obtain⟨a09,rfl⟩:=a83
     dsimp only at s n4
     have B:=cC (a:=r) (b:=x) (c:=y) (O:=.nil) (e4:=.nil) (h5:=.nil) eF bg;have b80:=cC (a:=.nil) (b:=.nil) (c:=.nil) (O:=.nil) (e4:=.nil) (h5:=.nil) bg bg;refine aa ?_;refine⟨_,θ,?_⟩;rw[<-s];exact⟨(n4.set k0).set d,((a71.trans t).dK n5).dK m,a09,rfl⟩
    |ok u=>
     obtain⟨l7,a86,L,P,S,rfl⟩:=a83;obtain⟨a88,b81,b82,b83⟩:=EG b34
     dsimp only at s n4
     have B:=cC (a:=r) (b:=x) (c:=y) (O:=L) (e4:=P) (h5:=S) eF l7;have b84:=(aN (O:=L) (e4:=P) (h5:=S) l7).all;have b85:0<=(2*u.size).tdiv 3/\(2*u.size).tdiv 3<=3000000:=by grind
     have a61:k2≠z:=by rintro rfl;rw[ba]at f;cases f
     have b86:=a61.symm;have a89:v≠z:=a7s;have b87:=a89.symm;have b88:=a88.symm;clear a88;refine aa ?_;have a90:bh (l6.set z (.cells (ae u L P S))) h C a84:=n4.set k0;have b36:=ν l6 z (.cells (ae u L P S));have b37:(l6.set z (.cells (ae u L P S))) v=β (.cells [.ptr h 0,.v (.int .i64 (a))]):=by rw[ξ _ _ a89];exact t _ _ Z.1 Z.2 a11
     have a92:(l6.set z (.cells (ae u L P S))) w=β (.cells (ae aB .nil .nil .nil)):=by rw[ξ _ _ b33];exact t _ _ d.1 d.2 a74
     have a94:=(a71.trans t).dK (X:=.cells (ae u L P S)) n5;generalize l6.set z _=b38 at*;have b89:=κ b37;have b90:=κ b36;have b39:=χ a92;refine aH (λa13=>?_) λa13=>?_
     .rw[if_pos a13]at s;refine ak (EF b38 h C a84 a90 u L P S l7 a86 a k7 O dep δ δ) ?_;rintro Q b91⟨b40,a95,a96⟩;obtain⟨b02,l0,l1,l2,l3,l4,rfl⟩:=a96.shape;have b39:=χ (a95 _ _ d.1 d.2 a92);have b03:=(aN (O:=l0) (e4:=l1) (h5:=l2) l4).all;have B:=cC (a:=.nil) (b:=.nil) (c:=.nil) (O:=l0) (e4:=l1) (h5:=l2) bg l4;refine aa ?_;refine⟨_,θ,?_⟩;rw[<-s];exact⟨b40.set d,(a94.trans a95).dK m,a96⟩
     .rw[if_neg a13]at s;have B:=cC (a:=.nil) (b:=.nil) (c:=.nil) (O:=L) (e4:=P) (h5:=S) bg l7;refine⟨_,θ,?_⟩;rw[<-s];exact⟨a90.set d,a94.dK m,l7,a86,_,_,_,rfl⟩
def EK(o:Except Int an)(h:R):Prop:=
 match o with
 |.error k=>k≠0/\∃a b c d,α a.sum=32/\h=.aF [.agg (ae a b c d),.v (.int .i64 k)]
 |.ok a=>α a.sum=32/\a.cH/\∃b c d,h=.aF [.agg (ae a b c d),.v (.int .i64 0)]
def gj.x{a:Except Int an}(b:gj a q):EK a q:=by
 cases a with
 |error c=>exact⟨b.1,aB,_,_,_,bg,b.2⟩
 |ok d=>exact b
def y9(h a:U)(b c:Nat)(d:Except Int an×ad)(k:R):Prop:=bh a b c d.2/\Ext b c h a/\EK d.1 k
def fR(b:Nat)(h:Ρ):Nat->ad->an->Nat->Except Int an×ad
 |0,a,_,_=>(.error 21,a)
 |p+1,a,r,dep=>if r=aB then(.error 9,a)else match kh a b r with
  |none=>(.error 21,a)
  |some (d,bw)=>if d.1=h then(if d.2=η then dr a b (cx (d.1,ι) (bw.getD 0 aB) (bw.getD 1 aB))else(.error 9,a))
   else if cB (dep%b) h d.1<0 then match fR b h p a (bw.getD 0 aB) (dep+1)with
    |(.error k,c)=>(.error k,c)
    |(.ok o,c)=>dr c b (cx d o (bw.getD 1 aB))
   else match fR b h p a (bw.getD 1 aB) (dep+1)with
    |(.error k,c)=>(.error k,c)
    |(.ok o,c)=>dr c b (cx d (bw.getD 0 aB) o)
set_option maxHeartbeats 1600000 in
theorem EL(k T:Nat)(b:Nat)(k7:1<=b)(Q:b<=8)(c:Ρ)(f:Own)(n1:α c=b):∀(z:Nat)(V:U)(o:ad)(_:bh V k T o)(d:an)(C D E:Own)(dep:Nat),α d.sum=32->d.cH->d.size.toNat<z->dep+z<=4000000->
  AC γ 170 [dz k b,.agg (ae d C D E),.J (ab c) f,.v (.int .i64 (dep:Int))] V λX p=>y9 V p k T (fR b c z o d dep) X
 |0,V,o,W,d,C,D,E,dep,eF,Y,a34,a36=>by omega
 |z+1,V,o,W,d,C,D,E,dep,eF,Y,a34,a36=>by
  have b14:=(aN (O:=C) (e4:=D) (h5:=E) eF).all;have a:=(fR.eq_2 b c o d dep z).symm;generalize fR b c (z+1) o d dep=n2 at*;refine aM hm N6 ?_;refine bp λB a38=>?_;refine dk λH a42 b15 b16=>?_;refine hG λs t a3 a4 a5 du=>?_;generalize I:((V.set B _).set H _).set s _=g;have u:V.sub g:=by subst I;exact aV
  have aL:g B=β (.cells [.ptr k 0,.v (.int .i64 (b))]):=by subst I;exact aV
  have ba:g H=β (.cells (ae d C D E)):=by subst I;exact aV
  have bs:g s=β (.cells (ae aB .nil .nil .nil)):=by subst I;rw[<-cm];exact aV
  clear I;have b17:=κ aL;have b18:=κ ba;have Z:=W.mono u;have n3:=W.ct a38;have n4:=W.ct a42;have G:=W.ct t;by_cases K:d=aB
  .subst K;refine bd (lK aB C D E g eF λ_=>Y) ?_;have k0:=χ bs;have k2:=cC (a:=.nil) (b:=.nil) (c:=.nil) (O:=C) (e4:=D) (h5:=E) bg eF;have i:=(aN (O:=.nil) (e4:=.nil) (h5:=.nil) bg).len;rw[if_pos rfl]at a;refine aa ?_;refine⟨_,θ,?_⟩;rw[<-a];exact⟨Z.set G,(ω u).dK t,Λ,aB,_,_,_,eF,rfl⟩
  rw[if_neg K]at a;refine bd (lK d C D E g eF λ_=>Y) ?_;generalize n5:bP (Ctx.of γ) (dM.seq (dM.block 0 _) _)=b19;refine ak (xQ g k T o Z d C D E eF Y b k7 Q) ?_;rintro X n9⟨j,k3⟩;cases k8:kh o b d with
  |none=>
   rw[k8]at k3 a;obtain rfl:=k3
   dsimp only at a
   refine aa ?_;refine aO λL F=>?_;have a43:L≠s:=by rintro rfl;rw[j _ _ bs]at F;cases F
   have b20:=a43.symm;have k0:=χ (j _ _ bs);subst n5;have i:=(aN (O:=.nil) (e4:=.nil) (h5:=.nil) bg).len;have k2:=cC (a:=.nil) (b:=.nil) (c:=.nil) (O:=.nil) (e4:=.nil) (h5:=.nil) bg bg;refine aa ?_;refine⟨_,θ,?_⟩;rw[<-a,cm,a2U (by rw[i];omega)];exact⟨((Z.mono j).mono (μ θ F)).set G,(((ω u).trans (ω j)).trans (ω (μ θ F))).dK t,Λ,aB,_,_,_,bg,rfl⟩
  |some a47=>
   obtain⟨h,b21⟩:=a47;rw[k8]at k3 a;obtain⟨r,b22,rfl,b23,b24,a48,a52⟩:=k3;obtain⟨k4,cg,rfl,b25,b26,b27,b28,a56,b29⟩:=uj k8;obtain⟨M,b30,x,rfl,l,a00,P⟩:=iH.of a48 a52;refine aa ?_;refine aO λL F=>?_;refine aa ?_;have a01:=μ (X:=.cells [.J (ab h.1) r,.v (.bool h.2)]) (θ) F;have ck:=ν n9 L (.cells [.J (ab h.1) r,.v (.bool h.2)]);have N:=ο j a01;have k9:=N _ _ aL;have a02:=N _ _ ba;have l0:=N _ _ bs;have a03:=a01 _ _ a00;have l1:=Z.mono N;have l2:=(ω (l:=k) (lM:=T) u).trans (ω N);have l3:=Μ u (Μ j F);have l4:=Μ u l;have b31:M≠L:=by rintro rfl;rw[a00]at F;cases F
   generalize n9.set L _=v at*;subst n5;refine nz [2,3,4,5,8,10,11] (λ_:(Ρ×Bool)×an×an×ad=>[]) (λS p=>dr S.2.2.2 b (cx S.1 S.2.1 S.2.2.1)=n2/\bh p k T S.2.2.2/\Ext k T V p/\(∃r,p L=β (.cells [.J (ab S.1.1) r,.v (.bool S.1.2)]))/\(∃x,p M=β (.cells x)/\iH x S.2.1 S.2.2.1)/\p B=β (.cells [.ptr k 0,.v (.int .i64 (b))])/\p H=β (.cells (ae d C D E))/\p s=β (.cells (ae aB .nil .nil .nil))) ?_ ?_
   .have a57:=κ ck;have a61:=κ k9;refine aa ?_;simp only[a3X,a4j]at a;have b32:=ck;by_cases l5:h.1=c
    .rw[if_pos l5]at a;refine bd (jW h.1 c r f v δ) ?_;cases a04:h.2 with
     |false=>rw[if_neg (by rw[a04];decide)]at a;have i:=(aN (O:=.nil) (e4:=.nil) (h5:=.nil) bg).len;have k2:=cC (a:=.nil) (b:=.nil) (c:=.nil) (O:=.nil) (e4:=.nil) (h5:=.nil) bg bg;have k0:=χ l0;refine aa ?_;refine⟨_,θ,?_⟩;rw[<-a,cm,a2U (by rw[i];omega)];exact⟨l1.set G,l2.dK t,Λ,aB,_,_,_,bg,rfl⟩
     |true=>
      rw[if_pos a04]at a;refine aa ?_;refine bd (jW c c r f v δ) ?_;have b33:=χ ck;refine aa ?_;have a62:B≠L:=by grind
      have a63:H≠L:=by grind
      have a65:s≠L:=by rintro rfl;exact absurd (j _ _ bs) (by rw[F];simp)
      refine⟨((h.1,ι),k4,cg,o),a,l1.set (W.ct l3),l2.dK l3,⟨r,by rw[l5]⟩,⟨x,rfl,P⟩,?_,?_,?_⟩
      .rw[ξ _ _ a62];exact k9
      .rw[ξ _ _ a63];exact a02
      .rw[ξ _ _ a65];exact l0
    .rw[if_neg l5]at a;refine bd (jW h.1 c r f v δ) ?_;refine bd (jW h.1 c r f v δ) ?_;obtain⟨y,e,b34,a68,a05,a69⟩:∃(y:Nat)(e:an),y<2/\(if cB (dep%b) c h.1<0 then(0:Int)else 1)=(y:Int)/\(e.size.toNat<z/\α e.sum=32/\e.cH)/\
       (match fR b c z o e (dep+1)with
        |(.error l6,O)=>(.error l6,O)
        |(.ok K,O)=>dr O b (cx h (if y=0 then K else k4) (if y=0 then cg else K)))=n2/\∃m n q,aP η 37 (x.drop (y*37))=.agg (ae e m n q):=by
      obtain⟨m,n,q,l7,l8,l9,a06,a07,_⟩:=P.ld;by_cases x:cB (dep%b) c h.1<0
      .rw[if_pos x]at a;exact⟨0,k4,δ,by rw[if_pos x];rfl,⟨δ,P.bS,P.pd⟩,a,m,n,q,a06⟩
      .rw[if_neg x]at a;exact⟨1,cg,δ,by rw[if_neg x];rfl,⟨δ,P.cf,P.pe⟩,a,l7,l8,l9,a07⟩
     obtain⟨a,m,n,q,b35⟩:=a69;obtain⟨a71,a73,a74⟩:=a05;have a08:=DG c h.1 f r k b dep δ Q δ n1 a56 v;rw[a68]at a08;have a81:=κ a03;have a83:=P.len;refine bd a08 ?_;have a84:(dep)+1=((dep+1:Nat):Int):=rfl;rw[a84];refine ak (EL k T b k7 Q c f n1 z v o l1 e m n q (dep+1) a73 a74 a71 δ) ?_;rintro X b36⟨k5,w,a09⟩;have k6:=W.ct l4;have a10:=W.ct l3;have b37:=w _ _ n3.1 n3.2 k9;have b38:=w _ _ n4.1 n4.2 a02;have a86:=w _ _ G.1 G.2 l0;have a88:=w _ _ k6.1 k6.2 a03;have b39:=w _ _ a10.1 a10.2 ck;have k0:=χ a86;have b40:=χ a88;have a11:=l2.trans w;have a89:M≠s:=by rintro rfl;rw[bs]at l;cases l
     have b41:=a89.symm;have b42:B≠M:=by rintro rfl;rw[aL]at l;cases l
     have b43:H≠M:=by rintro rfl;rw[ba]at l;cases l
     have i:=(aN (O:=.nil) (e4:=.nil) (h5:=.nil) bg).all;have b44:y*37+37<=α x:=δ;generalize b45:fR b c z o e (dep+1)=a90 at*;obtain⟨oB,a92⟩:=a90;cases oB with
     |error l6=>
      obtain⟨a94,b46,a95,a96,a97,a98,rfl⟩:=a09
      dsimp only at a k5
      have k2:=cC (a:=.nil) (b:=.nil) (c:=.nil) (O:=.nil) (e4:=.nil) (h5:=.nil) bg bg;have b47:=(aN (O:=a95) (e4:=a96) (h5:=a97) a98).all;refine aa ?_;refine⟨_,θ,?_⟩;rw[<-a,cm,a2U (by rw[i.1];omega)];exact⟨(k5.set k6).set G,(a11.dK l4).dK t,a94,aB,_,_,_,bg,rfl⟩
     |ok a13=>
      obtain⟨n0,a14,a99,b00,b01,rfl⟩:=a09
      dsimp only at a k5
      have a05:=(aN (O:=a99) (e4:=b00) (h5:=b01) n0).all;refine aa ?_;refine⟨(h,(if y=0 then a13 else k4),(if y=0 then cg else a13),a92),a,k5.set k6,a11.dK l4,⟨r,rfl⟩,_,rfl,?_⟩;obtain rfl|rfl:y=0\/y=1:=δ
      .exact P.EH n0 a14
      .exact P.EI n0 a14
   .rintro⟨b02,b03,b04,O⟩ p ⟨b05,b06,b07,⟨b08,b09⟩,⟨b48,b10,A⟩,b11,b49,b12⟩ b50
    dsimp only at*
    have a57:=κ b09;have a61:=κ b11;have a81:=κ b10;obtain⟨m,n,q,l7,l8,l9,a06,a07,b51,b52⟩:=A.ld;have a83:=A.len;refine aa ?_;have a15:=ud p k T O b06 b02 b03 b04 b08 m n q l7 l8 l9 b k7 Q A.bS A.cf A.pd A.pe;refine ak a15 ?_;clear a15;rintro X b53⟨b13,a16,a18⟩;have k0:=χ (a16 _ _ G.1 G.2 b12);obtain⟨b54,a19,a27,a29,l6,a30,rfl⟩:=a18.shape;have b55:=(aN (O:=a19) (e4:=a27) (h5:=a29) a30).all;have i:=(aN (O:=.nil) (e4:=.nil) (h5:=.nil) bg).len;have k2:=cC (a:=.nil) (b:=.nil) (c:=.nil) (O:=a19) (e4:=a27) (h5:=a29) bg a30;refine aa ?_;refine⟨_,θ,?_⟩;rw[<-b05];exact⟨b13.set G,(b07.trans a16).dK t,a18.x⟩
def ZI(b:Int)(a:Ρ)(d:R)(k:isRow a d)(c:U)(h:Nat)(r:c.read h=β [.v (.int .i64 b)]):
  AC γ 219 [d,.ptr h 0] c λo p=>p=c/\o=.v (.bool (!decide ((α a:Int)=b))):=by
 obtain⟨x,rfl⟩:=k;have y:=bK (n:=a);by_cases z:(α a)=b
 .refine aM hm Ao ?_
  repeat' first|refine aH (λ_=>?_) λ_=>?_|trivial
 .refine aM hm Ao ?_
  repeat' first|refine aH (λ_=>?_) λ_=>?_|trivial
theorem EM(a:Nat)(b:List Ρ)(d:Χ)(r:Own)(h:U)(o:aC isRow b d)(x:α b<=1000000000000)(F:1<=a)(G:a<=8)(L:∀c∈b,α c=a):
  AC γ 167 [.v (.int .i64 (a:Int)),.J d r] h λc k=>k=h/\c=.v (.bool η):=by
 have P:(1)<=(a:Int):=δ;have S:(a:Int)<=8:=δ;refine aM hm N0 ?_;refine bp λp y=>?_;have T:=μ (X:=.cells [.v (.int .i64 (a))]) (θ) y;have c2:=ν h p (.cells [.v (.int .i64 (a))]);refine ak (CL b d _ _ o (bM.J (o.cells λ_ _=>φ)) x (b4:=219) ⟨by rfl,λz C k D E=>ZI a z C D k p (κ (E _ _ c2))⟩) ?_;rintro _ _⟨rfl,rfl⟩;have:b.any (λc=> !decide ((α c)=(a:Int)))=false:=by simp_all
 rw[this];exact aV
def qD(b:Nat)(c:Ρ)(d:ad)(a:an):Except Int an×ad:=jq b c (a.size.toNat+1) d a 0
def ZJ(c:U)(k y:Nat)(z:ad)(D:bh c k y z)(a:an)(o p r:Own)(E:α a.sum=32)(n:a.cH)(v:a.size<=2000000)(d:Ρ)(F:Own)(b:Nat)(G:1<=b)(L:b<=8)(P:α d=b):
  AC γ 105 [.ptr k 0,.agg (ae a o p r),.J (ab d) F,.v (.int .i64 (b:Int))] c λS q=>o6 c q k y (qD b d z a) S:=by
 have w:=(aN (O:=o) (e4:=p) (h5:=r) E).all;refine aM hm Lu ?_;refine bp λT A=>?_;refine dk λV W B H=>?_;refine tm λs I _ _ _ _=>?_;generalize x:((c.set T _).set V _).set s _=h;have e:c.sub h:=by subst x;exact aV
 have ba:h T=β (.cells (ae a o p r)):=by subst x;exact aV
 have bs:h V=β (.cells (ae aB .nil .nil .nil)):=by subst x;rw[<-cm];exact aV
 clear x;have t:=D.mono e;have C:=D.ct W;have K:=κ ba;refine bd (EM b [d] _ _ h ⟨⟨_,rfl⟩,trivial⟩ ρ G L (by simp[P])) ?_;refine ak (EJ k y b G L d F P (a.size.toNat+1) h z t a o p r 0 E n δ δ) ?_;rintro S M⟨u,f,g⟩;obtain⟨N,i,j,l,O,m,rfl⟩:=g.shape;have Q:=χ (f _ _ C.1 C.2 bs);have X:=(aN (O:=i) (e4:=j) (h5:=l) m).all;have Y:=(aN (O:=.nil) (e4:=.nil) (h5:=.nil) bg).len;have Z:=cC (a:=.nil) (b:=.nil) (c:=.nil) (O:=i) (e4:=j) (h5:=l) bg m;refine aa ?_;refine⟨_,θ,?_⟩;exact⟨u.set C,((ω e).trans f).dK W,g⟩
theorem ZK{h:ad}{k:Ρ×Bool}{b:an}(a:dr H e (cx k j0 b)=(.ok w,h)):0<=w.live/\w.live<=3000000:=by
 unfold dr at a;split at a
 .simp_all
 .rename_i p o;simp only[a4h,Except.ok.injEq]at a;obtain⟨rfl,_⟩:=a;have c:=tO o;have d:=sd c.ok;have r:=qg (d j0 (by simp[cx]));have x:=qg (d b (by simp[cx]));rw[c.eq];grind[gf,fz,cx,gd,fy]
variable{n b6:Ρ}
theorem ZL:∀ {h:Nat}{c a:ad}{d b:an}{dep:Nat},fR e n h c d dep=(.ok b,a)->∃o p r x,dr o e (cx p r x)=(.ok b,a)
 |0,c,a,d,b,dep,k=>by rw[fR]at k;simp_all
 |h+1,c,a,d,b,dep,k=>by
  grind[fR,Prod.mk.inj]
def iI(c:Nat)(h:Ρ)(k:ad)(d:an):Except Int an×ad:=
 match fR c h (d.size.toNat+1) k d 0 with
 |(.error o,a)=>(.error o,a)
 |(.ok b,a)=>if 2*b.live<b.size then lV a c b 0 else(.ok b,a)
def ZM(S:U)(h T:Nat)(x:ad)(e:bh S h T x)(b:an)(C D E:Own)(f:α b.sum=32)(n0:b.cH)(a15:b.size<=2000000)(k:Ρ)(O:Own)(a:Nat)(t:1<=a)(u:a<=8)(Q:α k=a):
  AC γ 107 [.ptr h 0,.agg (ae b C D E),.J (ab k) O,.v (.int .i64 (a:Int))] S λv n1=>y9 S n1 h T (iI a k x b) v:=by
 have a16:=(aN (O:=C) (e4:=D) (h5:=E) f).all;refine aM hm Ly ?_;refine bp λd w=>?_;refine dk λF g a18 a19=>?_;refine tm λn2 a27 _ _ _ _=>?_;generalize i:((S.set d _).set F _).set n2 _=G;have X:S.sub G:=by subst i;exact aV
 have ba:G d=β (.cells (ae b C D E)):=by subst i;exact aV
 have bs:G F=β (.cells (ae aB .nil .nil .nil)):=by subst i;rw[<-cm];exact aV
 clear i;refine bd (EM a [k] _ _ G ⟨⟨_,rfl⟩,trivial⟩ ρ t u (by simp[Q])) ?_;refine aO λy L=>?_;have Y:d≠y:=by rintro rfl;rw[ba]at L;cases L
 have n3:=Y.symm;have Z:F≠y:=by rintro rfl;rw[bs]at L;cases L
 have a29:=Z.symm;have n4:=Μ X L;have a30:=κ ba;refine aa ?_;have A:=μ (X:=.cells [.ptr h 0,.v (.int .i64 (a))]) (θ) L;have k0:=ο X A;have k2:=A _ _ ba;have n5:=A _ _ bs;have k3:=ν G y (.cells [.ptr h 0,.v (.int .i64 (a))]);generalize G.set y _=n9 at*;have a00:=e.mono k0;have a34:=κ k2;have a36:=κ k3;have j:=e.ct w;have z:=e.ct g;have k4:=e.ct n4;refine ak (EL h T a t u k O Q (b.size.toNat+1) n9 x a00 b C D E 0 f n0 δ δ) ?_;rintro v V⟨l,m,k5⟩;have a01:=m _ _ j.1 j.2 k2;have k6:=m _ _ z.1 z.2 n5;have a02:=m _ _ k4.1 k4.2 k3;have a38:=χ a01;have a42:=χ k6;have a43:=(aN (O:=.nil) (e4:=.nil) (h5:=.nil) bg).len;have c:iI a k x b=match fR a k (b.size.toNat+1) x b 0 with
  |(.error B,n)=>(.error B,n)
  |(.ok q,n)=>if 2*q.live<q.size then lV n a q 0 else(.ok q,n):=rfl
 generalize iI a k x b=a47 at c|-;have a03:d≠F:=a7s;have a04:=a03.symm;have Y:d≠y:=a7s;have Z:F≠y:=a7s;generalize a05:fR a k (b.size.toNat+1) x b 0=a06 at*;obtain⟨oB,k7⟩:=a06;have k8:=(ω k0).trans m;cases oB with
 |error B=>
  obtain⟨a07,a08,H,I,K,s,rfl⟩:=k5
  dsimp only at c l
  have M:=cC (a:=C) (b:=D) (c:=E) (O:=H) (e4:=I) (h5:=K) f s;have a48:=cC (a:=.nil) (b:=.nil) (c:=.nil) (O:=H) (e4:=I) (h5:=K) bg s;have a52:=(aN (O:=H) (e4:=I) (h5:=K) s).all;replace c:=c.symm;refine aa ?_;refine⟨_,θ,?_⟩;rw[<-c];exact⟨(l.set j).set z,(k8.dK w).dK g,a07,a08,_,_,_,s,rfl⟩
 |ok P=>
  obtain⟨W,k9,o,p,r,rfl⟩:=k5
  dsimp only at c l
  obtain⟨_,_,_,_,l0⟩:=ZL a05;obtain⟨a56,a57⟩:=ZK l0;have a61:=(EG l0).2.2.2;have M:=cC (a:=C) (b:=D) (c:=E) (O:=o) (e4:=p) (h5:=r) f W;have a62:=(aN (O:=o) (e4:=p) (h5:=r) W).all;replace c:=c.symm;refine aa ?_;have l1:bh (V.set d (.cells (ae P o p r))) h T k7:=l.set j;have a09:=ν V d (.cells (ae P o p r));have l2:(V.set d (.cells (ae P o p r))) F=β (.cells (ae aB .nil .nil .nil)):=by rw[ξ _ _ a04];exact k6
  have a10:(V.set d (.cells (ae P o p r))) y=β (.cells [.ptr h 0,.v (.int .i64 (a))]):=by rw[ξ _ _ n3];exact a02
  have l3:=k8.dK (X:=.cells (ae P o p r)) w;generalize V.set d _=a11 at*;have a63:=κ a09;have a65:=κ a10;have a13:=χ l2;refine aH (λN=>?_) λN=>?_
  .rw[if_pos N]at c;refine ak (EF a11 h T k7 l1 P o p r W k9 a t u 0 δ δ) ?_;rintro v a68⟨a14,l4,l5⟩;obtain⟨a69,l6,l7,l8,B,l9,rfl⟩:=l5.shape;have a13:=χ (l4 _ _ z.1 z.2 l2);have a71:=(aN (O:=l6) (e4:=l7) (h5:=l8) l9).all;have M:=cC (a:=.nil) (b:=.nil) (c:=.nil) (O:=l6) (e4:=l7) (h5:=l8) bg l9;refine aa ?_;refine⟨_,θ,?_⟩;rw[<-c];exact⟨a14.set z,(l3.trans l4).dK g,l5.x⟩
  .rw[if_neg N]at c;have M:=cC (a:=.nil) (b:=.nil) (c:=.nil) (O:=o) (e4:=p) (h5:=r) bg W;refine⟨_,θ,?_⟩;rw[<-c];exact⟨l1.set z,l3.dK g,W,k9,_,_,_,rfl⟩
end Go.Proofs.YtcfpcblgmmeioaaGreat
namespace Go.bt
open Go
end Go.bt
namespace Go.Proofs.YtcfpcblgmmeioaaGreat
open Go Go.bt
theorem ZN:dV ([],[]) ([],[])=(([],[]):Ρ×Ρ):=rfl
variable{e i v M b9 h9:Nat}
theorem EN{a:Ρ×Ρ}(b:gI e a):dV a ([],[])=a:=by have c:=kK.1 b.ok;have d:dD ([]) [] ([]:Ρ).length=false:=rfl;unfold dV;rw[c.2.2.1,if_pos b.ok,if_neg (by rw[d];simp)]
def aA.rows:aA->List Ρ
 |.nil=>[]
 |.node a _ b c=>a::(b.rows++c.rows)
theorem aA.fS:∀ {c:aA}{b:Ρ},b∈c.all->b∈c.rows
 |.nil,b,a=>a
 |.node d live h k,b,a=>by
  simp only[aA.all,a3f]at a;simp only[aA.rows,a3n,a3f];rcases a with (a|a)|a
  .exact .inr (.inl (aA.fS a))
  .exact .inr (.inr (aA.fS a))
  .cases live<;>simp at a;exact .inl a
def aA.c7(a:Nat)(b:aA):Prop:=∀c∈b.rows,bF a c
def aA.c7.a{a:Nat}{c:Ρ}{d:Bool}{b h:aA}(k:(aA.node c d b h).c7 a):b.c7 a:=λo p=>k o (by simp[aA.rows,p])
def aA.c7.b{a:Nat}{c:Ρ}{d:Bool}{h b:aA}(k:(aA.node c d h b).c7 a):b.c7 a:=λo p=>k o (by simp[aA.rows,p])
def aA.c7.r{b:Nat}{a:Ρ}{c:Bool}{d h:aA}(k:(aA.node a c d h).c7 b):bF b a:=k a (by simp[aA.rows])
variable{I:Bool}{a8:aA}{n b6:Ρ}
def aA.c7.mk{b:aA}(d:bF e n)(h:a8.c7 e)(k:b.c7 e):(aA.node n I a8 b).c7 e:=λc a=>by
 simp only[aA.rows,a3n,a3f]at a;rcases a with rfl|a|a
 .exact d
 .exact h c a
 .exact k c a
theorem aA.c7.ok{b:Nat}:∀ {c:aA},c.c7 b->c.Ok b
 |.nil,_=>trivial
 |.node _ _ _ _,a=>⟨a.r.len,a.a.ok,a.b.ok⟩
def bD:aA->an
 |.nil=>aB
 |.node a live b c=>gf (cx (a,live) (bD b) (bD c))
structure kj(d:Nat)(t:aA)(k:an):Prop where
 sum:α k.sum=32
 live:k.live=(α t.all:Int)
 size:k.size=(t.size:Int)
 bf:(α t.all=0/\k.aT=[]/\k.aS=[])\/(0<α t.all/\gI d (k.aT,k.aS))
 key:k.key=[]
 z:t=.nil->k=aB
theorem kj.ok{c:Nat}{a:aA}{d:an}(b:kj c a d)(y:a.size<=1048576):eK c d=true:=by
 have z:=b.size;have C:=b.live;have D:=kL a;unfold eK;cases a with
 |nil=>rw[decide_eq_true (b.z rfl),Bool.true_or]
 |node h k o p=>
  have E:1<=(aA.node h k o p).size:=by simp only[Ι];omega
  generalize aA.node h k o p=a at*;rw[a4x];right;rw[Ξ];refine⟨Κ,?_⟩;rcases b.bf with⟨x,r,F⟩|⟨x,r⟩;grind
  .rw[if_neg δ];exact r.ok
variable{w j0:an}
theorem kj.p4(a:kj e a8 w)(p:a8.size<=1048576):w.In e:=by
 have r:=a.size;have x:=a.live;have y:=kL a8;have b:dc w.aT/\dc w.aS/\α w.aT<=e/\α w.aS<=e:=by
  rcases a.bf with⟨h,c,z⟩|⟨h,c⟩;grind
  .have d:=kK.1 c.ok;have C:α w.aT=e:=d.2.2.1;have D:α w.aS=e:=d.2.2.2.1;exact⟨c.aT,c.aS,δ,δ⟩
 have k:dc w.key:=by rw[a.key];intro E o;cases o
 exact⟨a.sum,b.1,b.2.1,k,b.2.2.1,b.2.2.2,by rw[a.key];simp,δ,δ,δ,δ⟩
theorem ya{a:gy}(d:lO i e a)(k:kj i a8 w):lO i (e+α a8.all) (gd a w):=by
 have o:(gd a w).live=((e+α a8.all:Nat)):=by show a.live+w.live= _;rw[d.live,k.live];push_cast;rfl
 refine⟨o,?_⟩;show(e+α a8.all=0/\dV a.bf (w.aT,w.aS)=([],[]))\/(0<e+α a8.all/\gI i (dV a.bf (w.aT,w.aS)));rcases k.bf with⟨p,b,r⟩|⟨p,b⟩
 .rw[b,r];rcases d.bf with⟨h,c⟩|⟨h,c⟩;grind[ZN];grind[EN]
 .right;refine⟨δ,?_⟩;rcases d.bf with⟨h,c⟩|⟨h,c⟩
  .rw[c,p3 b];exact b
  .exact xl c b
def ZO:kj e .nil aB:=⟨rfl,rfl,rfl,.inl ⟨rfl,rfl,rfl⟩,rfl,λ_=>rfl⟩
def yb(C:1<=e)(D:e<=8){a:aA}(k:bF e n)(b:kj e a8 w)(c:kj e a j0)(T:a8.size+a.size<1048576):
  (cx (n,I) w j0).In e/\kj e (.node n I a8 a) (gf (cx (n,I) w j0))/\fg e (cx (n,I) w j0)=β (gf (cx (n,I) w j0)):=by
 have p:dE e (cx (n,I) w j0)=true:=by unfold dE cx;simp[k.len,b.ok δ,c.ok δ,b.key,c.key]
 have r:=xm C D k;have E:lO e (if I=η then 1 else 0) (fy ⟨0,1,([],[])⟩ (n,I)):=by
  cases I with
  |false=>exact⟨rfl,.inl ⟨rfl,rfl⟩⟩
  |true=>refine⟨rfl,.inr ⟨Λ,?_⟩⟩;show gI e (dV ([],[]) (gx n));rw[p3 r];exact r
 have o:=ya (ya E b) c;have x:fz (cx (n,I) w j0)=gd (gd (fy ⟨0,1,([],[])⟩ (n,I)) w) j0:=rfl;have F:(aA.node n I a8 a).all.length=(if I=η then 1 else 0)+α a8.all+α a.all:=by simp only[aA.all,a2V];split<;>simp<;>omega
 rw[<-x,<-F]at o;have y:(fz (cx (n,I) w j0)).size=((aA.node n I a8 a).size):=by
  rw[x];have d:(fy ⟨0,1,([],[])⟩ (n,I)).size=1:=by cases I<;>rfl
  show(fy ⟨0,1,([],[])⟩ (n,I)).size+w.size+j0.size= _;rw[d,b.size,c.size,Ι];push_cast;rfl
 refine⟨⟨p,λG L=>?_,λz P=>?_⟩,⟨oS _,o.live,y,?_,?_,λS=>by cases S⟩,?_⟩
 .obtain rfl:G=(n,I):=by simpa[cx] using L
  exact k.kd
 .have:z=w\/z=j0:=by simpa[cx] using P
  rcases this with rfl|rfl
  .exact b.p4 δ
  .exact c.p4 δ
 .rcases o.bf with⟨d,h⟩|⟨d,h⟩
  .left;refine⟨d,?_,?_⟩
   .show(fz _).bf.1=[];rw[h]
   .show(fz _).bf.2=[];rw[h]
  .exact .inr ⟨d,h⟩
 .show keyOf (cx (n,I) w j0)=[];unfold keyOf cx;rfl
 .unfold fg;rw[if_pos p,if_neg (by rw[y];simp only[Ι];omega)]
def fT{a:Nat}(c:1<=a)(d:a<=8):∀ {b:aA},b.c7 a->b.size<=1048576->kj a b (bD b)
 |.nil,_,_=>ZO
 |.node o live p r,h,k=>by
  simp only[Ι]at k;exact(yb c d h.r (fT c d h.a δ) (fT c d h.b δ) δ).2.1
def dL(a:ad):aA->Prop
 |.nil=>True
 |.node d live b c=>a.m (gS (da (cx (d,live) (bD b) (bD c))))=β (da (cx (d,live) (bD b) (bD c)))/\dL a b/\dL a c
def dL.mono{c d:ad}(a:c.le d):∀ {h:aA},dL c h->dL d h
 |.nil,_=>trivial
 |.node _ _ _ _,b=>⟨a.m _ _ b.1,b.2.1.mono a,b.2.2.mono a⟩
def yc(c:1<=e)(d:e<=8){a:aA}(h:(aA.node n I a8 a).c7 e)(k:(aA.node n I a8 a).size<=1048576):bD (.node n I a8 a)≠aB:=λo=>by
 have b:=(fT c d h k).size;rw[o]at b;have:(aB).size=0:=rfl;simp only[Ι]at b;omega
variable{H:ad}
def sk(b:1<=e)(c:e<=8){a:aA}(d:(aA.node n I a8 a).c7 e)(h:(aA.node n I a8 a).size<=1048576)(k:dL H (.node n I a8 a)):dn H e (bD (.node n I a8 a))=β (cx (n,I) (bD a8) (bD a)):=by have o:=h;simp only[Ι]at o;obtain⟨p,x,r⟩:=yb (I:=I) b c d.r (fT b c d.a δ) (fT b c d.b δ) δ;unfold dn;rw[show H.m (bD (.node n I a8 a)).sum=β (da (cx (n,I) (bD a8) (bD a)))from k.1];simp only;rw[C5 δ p];simp only;rw[r];exact if_pos rfl
def uk(b:1<=e)(c:e<=8){a:aA}(d:(aA.node n I a8 a).c7 e)(h:(aA.node n I a8 a).size<=1048576)(k:dL H (.node n I a8 a)):kh H e (bD (.node n I a8 a))=β ((n,I),[bD a8,bD a]):=by unfold kh;rw[sk b c d h k];rfl
theorem yd{b:Nat}(c:1<=b)(d:b<=8){x:ad}:∀ {a:aA}{z:Nat},a.c7 b->a.size<=1048576->dL x a->a.size<z->∃y,fu x b z (bD a)=β y/\y.Perm a.all
 |a,0,_,_,_,C=>by omega
 |.nil,z+1,_,_,_,_=>⟨[],by rw[fu];rfl,.refl _⟩
 |.node E live h k,z+1,o,p,r,C=>by
  have F:=fT c d o p;have G:=p;simp only[Ι]at G C;rw[fu];by_cases D:(bD (.node E live h k)).live=0
  .rw[if_pos D];have S:=F.live;simp_all
  .rw[if_neg D,uk c d o p r];obtain⟨T,L,V⟩:=yd c d (z:=z) o.a δ r.2.1 δ;obtain⟨W,P,e⟩:=yd c d (z:=z) o.b δ r.2.2 δ
   dsimp only
   rw[show [bD h,bD k].getD 0 aB=bD h from rfl,show [bD h,bD k].getD 1 aB=bD k from rfl,L,P];refine⟨_,rfl,?_⟩;grind[aA.all,List.append_assoc]
def ZP(a:1<=e)(b:e<=8)(c:a8.c7 e)(d:a8.size<=1048576)(k:dL H a8):∃h,fu H e ((bD a8).size.toNat+1) (bD a8)=β h/\h.Perm a8.all:=by have o:=(fT a b c d).size;exact yd a b c d k δ
structure fD(a:ad)(t:aA)(r:Except Int an×ad):Prop where
 le:a.le r.2
 ins:r.2.one=ι->r.1=.ok (bD t)/\dL r.2 t
def fD.bind{o:aA}{h:Except Int an×ad}{k:an->ad->Except Int an×ad}(c:fD H a8 h)(p:∀(b:an) (a:ad),a.le (k b a).2)(y:∀a,H.le a->a.one=ι->dL a a8->fD a o (k (bD a8) a)):
  fD H o (match(generalizing:=false) h with
   |(.error r,a)=>(.error r,a)
   |(.ok b,a)=>k b a):=by
 obtain⟨z,a⟩:=h;cases z with
 |error r=>exact⟨c.le,λd=>by cases (c.ins d).1⟩
 |ok b=>refine⟨c.le.trans (p b a),λd=>?_⟩;have x:=(p b a).zero d;obtain⟨C,D⟩:=c.ins x;obtain rfl:=Except.ok.inj C;exact(y a c.le x D).ins d
theorem um(c:Nat):∀(k:Nat)(d:ad)(b:List Ρ)(dep:Nat),d.le (hZ c k d b dep).2
 |0,d,_,_=>ad.le_refl
 |k+1,d,b,dep=>by
  rw[hZ];split
  .exact ad.le_refl
  have h:=um c k d ((dP (dep%c) b).take (α b/2)) (dep+1);split
  .rename_i a;rw[a]at h;exact h
  rename_i r p a;rw[a]at h;have o:=um c k p ((dP (dep%c) b).drop (α b/2+1)) (dep+1);split
  .rename_i a;rw[a]at o;exact h.trans o
  rename_i x y a;rw[a]at o;exact(h.trans o).trans (jo)
theorem uo(a:ad)(b:Nat)(c:an)(d:Nat):a.le (lV a b c d).2:=by grind[lV,ad.le_refl,um]
theorem sl(b:ad)(d:Nat)(h:Ρ×Bool)(k o:an)(p:Nat):b.le (lW b d h k o p).2:=by
 unfold lW;have a:=jo (H:=b) (e:=d) (b3:=cx h k o);split
 .rename_i c;rw[c]at a;exact a
 rename_i c;rw[c]at a;split
 .exact a.trans (uo _ _ _ _)
 .exact a
def qE(b:1<=e)(c:e<=8){a:aA}(d:(aA.node n I a8 a).c7 e)(k:(aA.node n I a8 a).size<=1048576)(o:dL H a8)(p:dL H a):fD H (.node n I a8 a) (dr H e (cx (n,I) (bD a8) (bD a))):=by simp only[Ι]at k;obtain⟨y,z,r⟩:=yb (I:=I) b c d.r (fT b c d.a δ) (fT b c d.b δ) δ;rw[pb r];have h:=kU H (da (cx (n,I) (bD a8) (bD a)));exact⟨h,λx=>⟨rfl,qB x,o.mono h,p.mono h⟩⟩
theorem qF{h:Nat}:∀ {k:Nat}{b:List Ρ}{dep:Nat}{c:Ρ},c∈(fp h k b dep).rows->c∈b
 |0,_,_,_,a=>by trivial
 |k+1,b,dep,c,a=>by
  rw[fp]at a;by_cases d:b=[]
  .rw[if_pos d]at a;trivial
  rw[if_neg d]at a;have o:=a3T.2 d;have p:=p6 (dep%h) b;simp only[aA.rows,a3n,a3f]at a;rcases a with rfl|a|a
  .rw[a3L,Ν δ];exact qp.1 (a3r _)
  .exact qp.1 (a3j (qF a))
  .exact qp.1 (a3v (qF a))
def ye(b:Nat)(a:List Ρ)(c:Nat)(d:∀h∈a,bF e h):(fp e b a c).c7 e:=λk o=>d k (qF o)
theorem yf{b:Nat}(E:1<=b)(F:b<=8):∀(d:Nat)(x:ad)(a k:List Ρ)(dep:Nat),k.Perm a->(∀c∈a,bF b c)->α a<=d->α a<=1048576->fD x (fp b d a dep) (hZ b d x k dep)
 |0,x,a,k,dep,_,_,_,_=>⟨ad.le_refl,λ_=>⟨rfl,trivial⟩⟩
 |d+1,x,a,k,dep,C,y,s,t=>by
  have T:=C.length_eq;by_cases D:a=[]
  .subst D;obtain rfl:k=[]:=C.eq_nil;rw[hZ,if_pos rfl,fp,if_pos rfl];exact⟨ad.le_refl,λ_=>⟨rfl,trivial⟩⟩
  have V:k≠[]:=λW=>D (by subst W;simp_all);have u:=a3T.2 D;have e:dP (dep%b) k=dP (dep%b) a:=by obtain⟨G,f⟩:=si λo z=>(y o z).len;obtain⟨g,i⟩:=si λo z=>(y o (C.mem_iff.1 z)).len;exact y7 (pc b _) (λo z=>(y o (G.mem_iff.1 z)).len) (g.trans (C.trans G.symm)) f i
  rw[hZ,if_neg V,fp,if_neg D,e,T];have v:=p6 (dep%b) a;have hm:=λo=>qp (e:=dep%b) (N:=a) (n:=o);generalize dP (dep%b) a=h at*;have L:∀c∈h.take (α a/2),bF b c:=λc p=>y c ((hm c).1 (a3j p));have P:∀c∈h.drop (α a/2+1),bF b c:=λc p=>y c ((hm c).1 (a3v p));have w:(h.take (α a/2)).length=α a/2:=by rw[a2X];omega
  have A:(h.drop (α a/2+1)).length=α a -(α a/2+1):=by rw[a3i];omega
  have B:=qq b d (h.take (α a/2)) (dep+1);have H:=qq b d (h.drop (α a/2+1)) (dep+1);have j:bF b (h.getD (α a/2) []):=by grind
  refine fD.bind (yf E F d x _ _ (dep+1) (.refl _) L δ δ) (λl S=>?_) λm I K n=>?_
  .have r:=um b d S (h.drop (α a/2+1)) (dep+1);split
   .rename_i p;rw[p]at r;exact r
   .rename_i p;rw[p]at r;exact r.trans (jo)
  .refine fD.bind (yf E F d m _ _ (dep+1) (.refl _) P δ δ) (λl S=>jo) λM r N q=>?_;exact qE E F (aA.c7.mk j (ye _ _ _ L) (ye _ _ _ P)) (by simp only[Ι];omega) (n.mono r) q
def EO(b:1<=e)(c:e<=8)(d:a8.c7 e)(k:a8.size<=1048576)(o:dL H a8)(a:Nat):fD H (fp e (α a8.all) a8.all a) (lV H e (bD a8) a):=by
 obtain⟨y,p,h⟩:=ZP b c d k o;have z:=kL a8;unfold lV;rw[p]
 dsimp only
 rw[h.length_eq];exact yf b c _ H _ _ a h (λr x=>d r (aA.fS x)) (a3w _) δ
theorem yg(c:1<=e)(d:e<=8){a:aA}(b:(aA.node n I a8 a).c7 e)(h:(aA.node n I a8 a).size<=1048576)(p:dL H a8)(r:dL H a)(k:Nat):fD H (gX e (.node n I a8 a) k) (lW H e (n,I) (bD a8) (bD a) k):=by
 have x:=h;simp only[Ι]at x;have C:=(fT c d b h).size;have D:=(fT c d b.a δ).size;have E:=(fT c d b.b δ).size;unfold lW;refine fD.bind (qE c d b h p r) (λF G=>?_) λL P S y=>?_;grind[uo,ad.le_refl]
 .have z:((2*(bD (.node n I a8 a)).size).tdiv 3+1<max (bD a8).size (bD a).size)↔max a8.size a.size>2*(aA.node n I a8 a).size/3+1:=by grind
  unfold gX
  dsimp only
  by_cases o:max a8.size a.size>2*(aA.node n I a8 a).size/3+1;simp_all [EO]
  .rw[if_neg (λb=>o (z.1 b)),if_neg o];exact⟨ad.le_refl,λ_=>⟨rfl,y⟩⟩
theorem yh(a:n∈(gX e a8 i).rows):n∈a8.rows:=by unfold gX at a;grind[aA.fS,qF]
theorem sm{h:Nat}{d:Ρ}:∀ {r:aA}{dep:Nat}{c:Ρ},c∈(cO h d r dep).1.rows->c=d\/c∈r.rows
 |.nil,dep,c,b=>by
  grind[cO,aA.rows,List.mem_singleton]
 |.node k live o p,dep,c,b=>by
  rw[cO]at b;split at b
  .have:=yh (a8:=.node k η o p) b;exact .inr this
  split at b
  .have a:=yh (a8:=.node k live (cO h d o (dep+1)).1 p) b;simp only[aA.rows,a3n,a3f]at a|-;rcases a with a|a|a
   .simp_all
   .exact(sm a).imp_right λb=>.inr (.inl b)
   .simp_all
  .have a:=yh (a8:=.node k live o (cO h d p (dep+1)).1) b;simp only[aA.rows,a3n,a3f]at a|-;rcases a with a|a|a
   .simp_all
   .simp_all
   .exact(sm a).imp_right λb=>.inr (.inr b)
def pf(b:bF e n)(c:a8.c7 e):(cO e n a8 i).1.c7 e:=λd a=>by
 rcases sm a with rfl|a
 .exact b
 .exact c d a
theorem yi{h:Nat}{k:Ρ}:∀(d:Nat)(c:ad)(o:an)(dep:Nat),c.le (jq h k d c o dep).2
 |0,c,_,_=>ad.le_refl
 |d+1,c,o,dep=>by
  rw[jq];split
  .exact jo
  split
  .exact ad.le_refl
  rename_i r p x;split;grind[ad.le_refl,sl];split
  .have a:=yi (h:=h) (k:=k) d c (p.getD 0 aB) (dep+1);split
   .rename_i b;rw[b]at a;exact a
   .rename_i b;rw[b]at a;exact a.trans (sl _ _ _ _ _ _)
  .have a:=yi (h:=h) (k:=k) d c (p.getD 1 aB) (dep+1);split
   .rename_i b;rw[b]at a;exact a
   .rename_i b;rw[b]at a;exact a.trans (sl _ _ _ _ _ _)
def yj{h:Nat}{k:Ρ}:∀(d:Nat)(c:ad)(o:an)(dep:Nat),c.le (fR h k d c o dep).2
 |0,c,_,_=>ad.le_refl
 |d+1,c,o,dep=>by
  rw[fR];split
  .exact ad.le_refl
  split
  .exact ad.le_refl
  rename_i r p x;split
  .split
   .exact jo
   .exact ad.le_refl
  split
  .have a:=yj (h:=h) (k:=k) d c (p.getD 0 aB) (dep+1);split
   .rename_i b;rw[b]at a;exact a
   .rename_i b;rw[b]at a;exact a.trans (jo)
  .have a:=yj (h:=h) (k:=k) d c (p.getD 1 aB) (dep+1);split
   .rename_i b;rw[b]at a;exact a
   .rename_i b;rw[b]at a;exact a.trans (jo)
theorem ZQ(b:ad)(c:an):b.le (iI e n b c).2:=by
 unfold iI;have a:=yj (h:=e) (k:=n) (c.size.toNat+1) b c 0;split
 .rename_i d;rw[d]at a;exact a
 rename_i d;rw[d]at a;split
 .exact a.trans (uo _ _ _ _)
 .exact a
theorem yk{b:Nat}(c:1<=b)(d:b<=8){h:Ρ}(y:bF b h):∀(k:aA)(o:ad)(r dep:Nat),k.c7 b->k.size+1<=1048576->dL o k->k.size<r->(cO b h k dep).2=η->fD o (cO b h k dep).1 (jq b h r o (bD k) dep)
 |k,o,0,dep,_,_,_,L,_=>by omega
 |.nil,o,r+1,dep,_,_,_,_,_=>by
  rw[jq,if_pos (show bD .nil=aB from rfl),cO];exact qE c d (aA.c7.mk y (λS D=>by cases D) (λS D=>by cases D)) (by trivial) trivial trivial
 |.node P live z C,o,r+1,dep,a,T,p,L,x=>by
  have V:=T;simp only[Ι]at V L;rw[jq,if_neg (yc c d a δ),uk c d a δ p]
  dsimp only
  rw[show [bD z,bD C].getD 0 aB=bD z from rfl,show [bD z,bD C].getD 1 aB=bD C from rfl];rw[cO]at x|-;by_cases E:P=h
  .simp only[if_pos E]at x|-;have W:live=false:=by simp_all
   rw[if_neg (by rw[W];simp)];exact yg c d (aA.c7.mk a.r a.a a.b) (by simp only[Ι];omega) p.2.1 p.2.2 dep
  .by_cases c2:cB (dep%b) h P<0
   .simp only[if_neg E,if_pos c2]at x|-;have e:=p7 b h z (dep+1);exact fD.bind (yk c d y z o r (dep+1) a.a δ p.2.1 δ x) (λf g=>sl _ _ _ _ _ _) λi F j G=>yg c d (aA.c7.mk a.r (pf y a.a) a.b) (by simp only[Ι];omega) G (p.2.2.mono F) dep
   .simp only[if_neg E,if_neg c2]at x|-;have e:=p7 b h C (dep+1);exact fD.bind (yk c d y C o r (dep+1) a.b δ p.2.2 δ x) (λf g=>sl _ _ _ _ _ _) λi F j G=>yg c d (aA.c7.mk a.r a.a (pf y a.b)) (by simp only[Ι];omega) (p.2.1.mono F) G dep
def sn{b:Nat}{c:Ρ}:∀ {a:aA}{dep:Nat},(cb b c a dep).1.rows=a.rows
 |.nil,dep=>rfl
 |.node d live h k,dep=>by
  rw[cb];split
  .rfl
  split
  .show _::(_++ _)= _::(_++ _);rw[sn]
  .show _::(_++ _)= _::(_++ _);rw[sn]
def so(a:a8.c7 e):(cb e n a8 i).1.c7 e:=λb c=>a b (by rwa[sn]at c)
def yl{c:Nat}(k:1<=c)(o:c<=8){p:Ρ}:∀(d:aA)(h:ad)(x dep:Nat),d.c7 c->d.size<=1048576->dL h d->d.size<x->(cb c p d dep).2=η->fD h (cb c p d dep).1 (fR c p x h (bD d) dep)
 |d,h,0,dep,_,_,_,G,_=>by omega
 |.nil,h,x+1,dep,_,_,_,_,b=>by rw[cb]at b;cases b
 |.node L live y z,h,x+1,dep,a,C,r,G,b=>by
  have P:=C;simp only[Ι]at P G;rw[fR,if_neg (yc k o a C),uk k o a C r]
  dsimp only
  rw[show [bD y,bD z].getD 0 aB=bD y from rfl,show [bD y,bD z].getD 1 aB=bD z from rfl];rw[cb]at b|-;by_cases D:L=p
  .simp only[if_pos D]at b|-;rw[if_pos b];exact qE k o (aA.c7.mk a.r a.a a.b) (by simp only[Ι];omega) r.2.1 r.2.2
  .by_cases c2:cB (dep%c) p L<0
   .simp only[if_neg D,if_pos c2]at b|-;have S:=p8 c p y (dep+1);exact fD.bind (yl k o y h x (dep+1) a.a δ r.2.1 δ b) (λT V=>jo) λW E e F=>qE k o (aA.c7.mk a.r (so a.a) a.b) (by simp only[Ι];omega) F (r.2.2.mono E)
   .simp only[if_neg D,if_neg c2]at b|-;have S:=p8 c p z (dep+1);exact fD.bind (yl k o z h x (dep+1) a.b δ r.2.2 δ b) (λT V=>jo) λW E e F=>qE k o (aA.c7.mk a.r a.a (so a.b)) (by simp only[Ι];omega) (r.2.1.mono E) F
theorem ym{b:Nat}(h:1<=b)(k:b<=8){o:Ρ}{y:ad}:∀(a:aA)(c dep:Nat),a.c7 b->a.size<=1048576->dL y a->a.size<c->(cb b o a dep).2=ι->fR b o c y (bD a) dep=(.error 9,y)
 |a,0,dep,_,_,_,D,_=>by omega
 |.nil,c+1,dep,_,_,_,_,d=>by rw[fR];rfl
 |.node E live p r,c+1,dep,x,z,C,D,d=>by
  have G:=z;simp only[Ι]at G D;rw[fR,if_neg (yc h k x z),uk h k x z C]
  dsimp only
  rw[show [bD p,bD r].getD 0 aB=bD p from rfl,show [bD p,bD r].getD 1 aB=bD r from rfl];rw[cb]at d;by_cases F:E=o;simp_all
  .by_cases c2:cB (dep%b) o E<0
   .simp only[if_neg F,if_pos c2]at d|-;rw[ym h k p c (dep+1) x.a δ C.2.1 δ d]
   .simp only[if_neg F,if_neg c2]at d|-;rw[ym h k r c (dep+1) x.b δ C.2.2 δ d]
def ZR(a:1<=e)(b:e<=8)(d:bF e n)(c:a8.c7 e)(h:a8.size+1<=1048576)(k:dL H a8)(o:(cO e n a8 0).2=η):fD H (cO e n a8 0).1 (qD e n H (bD a8)):=by have:=(fT a b c δ).size;exact yk a b d a8 H _ 0 c h k δ o
theorem ZS(a:1<=e)(b:e<=8)(c:a8.c7 e)(d:a8.size<=1048576)(h:dL H a8)(k:(cb e n a8 0).2=ι):iI e n H (bD a8)=(.error 9,H):=by have:=(fT a b c d).size;grind[iI,ym]
theorem ZT(b:1<=e)(c:e<=8)(a:a8.c7 e)(d:a8.size<=1048576)(x:dL H a8)(h:(cb e n a8 0).2=η):fD H (kM e n a8).1 (iI e n H (bD a8)):=by
 have y:=(fT b c a d).size;have z:=p8 e n a8 0;have k:=so (n:=n) (i:=0) a;have o:=fT b c k δ;have C:=o.size;have D:=o.live;unfold iI;refine fD.bind (yl b c a8 H _ 0 a d x δ h) (λE F=>?_) λG L P p=>?_;grind[uo,ad.le_refl]
 .unfold kM;by_cases r:2*(cb e n a8 0).1.all.length<(cb e n a8 0).1.size
  .rw[if_pos (show(cb e n a8 0).2=η/\2*(cb e n a8 0).1.all.length<(cb e n a8 0).1.size from⟨h,r⟩),if_pos (show 2*(bD (cb e n a8 0).1).live<(bD (cb e n a8 0).1).size by omega)];exact EO b c k δ p 0
  .rw[if_neg (show¬((cb e n a8 0).2=η/\2*(cb e n a8 0).1.all.length<(cb e n a8 0).1.size)from λa=>r a.2),if_neg (show¬2*(bD (cb e n a8 0).1).live<(bD (cb e n a8 0).1).size by omega)];exact⟨ad.le_refl,λ_=>⟨rfl,p⟩⟩
def aA.kk(a:Nat):aA->Nat->Prop
 |.nil,_=>True
 |.node c _ d h,dep=>(∀b∈d.rows,cB (dep%a) b c<0)/\(∀b∈h.rows,cB (dep%a) c b<0)/\d.kk a (dep+1)/\h.kk a (dep+1)
def aA.qG{c:Nat}:∀ {k:aA}{dep:Nat},k.c7 c->k.kk c dep->k.all.Pairwise (·≠ ·)
 |.nil,_,_,_=>.nil
 |.node y live D E,dep,b,⟨h1,r,z,C⟩=>by
  have o:=pc c (dep%c);rw[aA.all];refine a3Q.2 ⟨a3Q.2 ⟨aA.qG b.a z,aA.qG b.b C,λd a x h p=>?_⟩,by cases live<;>simp,λd a x h p=>?_⟩
  .subst p;exact o.y6 (b.a d (aA.fS a)).len b.r.len (h1 d (aA.fS a)) (r d (aA.fS h))
  .obtain rfl:x=y:=by cases live<;>simp at h;exact h
   subst p;rcases a3f.1 a with a|a
   .exact o.jd _ b.r.len (h1 _ (aA.fS a))
   .exact o.jd _ b.r.len (r _ (aA.fS a))
variable{N:List Ρ}
theorem EP(a:e<α N):N=N.take e++N.getD e []::N.drop (e+1):=by simp_all
theorem uq{h:Nat}:∀(c:Nat)(a:List Ρ)(dep:Nat),α a<=c->(∀b∈a,α b=h)->(fp h c a dep).all.Perm a
 |0,a,dep,x,_=>by
  obtain rfl:a=[]:=a2Y δ;rfl
 |c+1,a,dep,x,p=>by
  rw[fp];by_cases k:a=[]
  .rw[if_pos k,k];rfl
  rw[if_neg k];have y:=a3T.2 k;have r:=(si (e:=dep%h) p).1;have z:=r.length_eq;have hm:=λb d=>p b (r.mem_iff.1 d);generalize dP (dep%h) a=o at*;have C:=EP (N:=o) (e:=α a/2) δ;have D:=uq c (o.take (α a/2)) (dep+1) (by rw[a2X];omega) λb d=>hm b (a3j d);have E:=uq c (o.drop (α a/2+1)) (dep+1) (by rw[a3i];omega) λb d=>hm b (a3v d);rw[aA.all,if_pos rfl];grind
def yn(a:a8.c7 e):(gX e a8 i).all.Perm a8.all:=by
 unfold gX;split
 .rfl
 .split
  .exact uq _ _ _ (a3w _) λb c=>(a b (aA.fS c)).len
  .rfl
theorem yo{d:Nat}{b:Ρ}(h:bF d b):∀ {k:aA}{dep:Nat},k.c7 d->(cO d b k dep).2=η->(cO d b k dep).1.all.Perm (b::k.all)
 |.nil,dep,_,_=>.refl _
 |.node p live x y,dep,a,c=>by
  rw[cO]at c|-;by_cases o:p=b
  .simp only[if_pos o]at c|-;have r:live=false:=by simp_all
   refine(yn (aA.c7.mk a.r a.a a.b)).trans ?_;simp only[aA.all,if_pos,r,o];grind
  .by_cases c2:cB (dep%d) b p<0
   .simp only[if_neg o,if_pos c2]at c|-;refine(yn (aA.c7.mk a.r (pf h a.a) a.b)).trans ?_;exact((yo h a.a c).append_right _).append_right _
   .simp only[if_neg o,if_neg c2]at c|-;refine(yn (aA.c7.mk a.r a.a (pf h a.b))).trans ?_;refine(((yo h a.b c).append_left _).append_right _).trans ?_;exact a5m.append_right _
theorem yp{c:Nat}{b:Ρ}:∀ {d:aA}{dep:Nat},(cO c b d dep).2=ι->b∈d.all
 |.nil,dep,a=>by rw[cO]at a;cases a
 |.node h live o p,dep,a=>by
  rw[cO]at a;simp only[aA.all,a3f];by_cases k:h=b;simp_all
  .by_cases c2:cB (dep%c) b h<0
   .simp only[if_neg k,if_pos c2]at a;exact .inl (.inl (yp a))
   .simp only[if_neg k,if_neg c2]at a;exact .inl (.inr (yp a))
theorem ur{d:Nat}{b:Ρ}:∀ {h:aA}{dep:Nat},(cb d b h dep).2=η->h.all.Perm (b::(cb d b h dep).1.all)
 |.nil,dep,a=>by rw[cb]at a;cases a
 |.node k live o p,dep,a=>by
  rw[cb]at a|-;by_cases c:k=b
  .simp only[if_pos c]at a|-;simp only[aA.all,if_pos a,c];grind
  .by_cases c2:cB (dep%d) b k<0
   .simp only[if_neg c,if_pos c2]at a|-;exact((ur a).append_right _).append_right _
   .simp only[if_neg c,if_neg c2]at a|-;refine(((ur a).append_left _).append_right _).trans ?_;exact a5m.append_right _
theorem yq{b:Nat}{d:Ρ}(k:α d=b):∀ {o:aA}{dep:Nat},o.c7 b->o.kk b dep->(cb b d o dep).2=ι->d∉o.all
 |.nil,dep,_,_,_=>λh=>by cases h
 |.node r live E F,dep,h,⟨h1,y,C,D⟩,c=>by
  have x:=pc b (dep%b);intro a;rw[cb]at c;simp only[aA.all,a3f]at a;by_cases p:r=d
  .simp only[if_pos p]at c;subst p;rcases a with (a|a)|a
   .exact x.jd _ k (h1 _ (aA.fS a))
   .exact x.jd _ k (y _ (aA.fS a))
   .rw[c]at a;simp at a
  .have z:d∉(if live=η then [r]else []):=λh=>by
    simp_all
   by_cases c2:cB (dep%b) d r<0
   .simp only[if_neg p,if_pos c2]at c;rcases a with (a|a)|a
    .exact yq k h.a C c a
    .exact x.y6 k h.r.len c2 (y _ (aA.fS a))
    .exact z a
   .simp only[if_neg p,if_neg c2]at c;rcases a with (a|a)|a
    .exact c2 (h1 _ (aA.fS a))
    .exact yq k h.b D c a
    .exact z a
theorem uu{a:Nat}:∀(p:Nat)(c:List Ρ)(dep:Nat),(∀b∈c,α b=a)->c.Pairwise (·≠ ·)->(fp a p c dep).kk a dep
 |0,_,_,_,_=>trivial
 |p+1,c,dep,z,D=>by
  rw[fp];by_cases r:c=[]
  .rw[if_pos r];trivial
  rw[if_neg r];have g:=a3T.2 r;obtain⟨x,E⟩:=si (e:=dep%a) z;have i:=x.length_eq;have hm:=λb d=>z b (x.mem_iff.1 d);have y:(dP (dep%a) c).Pairwise (·≠ ·):=x.symm.pairwise D λk=>k.symm;have F:=pc a (dep%a);have C:(dP (dep%a) c).Pairwise (λG L=>cB (dep%a) G L<0):=by
   refine a6B ?_ (E.and y);intro h b o d j;rcases F.sg h b (hm h o) (hm b d)with k|k|k
   .exact k
   .simp_all
   .omega
  generalize dP (dep%a) c=P at*;have S:=EP (N:=P) (e:=α c/2) δ;rw[S]at C y;obtain⟨l,T,V⟩:=a3Q.1 C;obtain⟨W,m⟩:=a3x.1 T;obtain⟨e,f,_⟩:=a3Q.1 y;refine⟨λh o=>V h (qF o) _ ρ,λh o=>W h (qF o),?_,?_⟩
  .exact uu p _ _ (λb d=>hm b (a3j d)) e
  .exact uu p _ _ (λb d=>hm b (a3v d)) (a3x.1 f).2
def yr(a:a8.c7 e)(b:a8.kk e i):(gX e a8 i).kk e i:=by
 unfold gX;split
 .trivial
 .split
  .exact uu _ _ _ (λc d=>(a c (aA.fS d)).len) (aA.qG a b)
  .exact b
theorem ys{c:Nat}{k:Ρ}(h:bF c k):∀ {o:aA}{dep:Nat},o.c7 c->o.kk c dep->(cO c k o dep).1.kk c dep
 |.nil,dep,_,_=>⟨λd b=>(by cases b),λd b=>(by cases b),trivial,trivial⟩
 |.node p live D E,dep,a,⟨h1,r,x,y⟩=>by
  have C:=pc c (dep%c);rw[cO];by_cases z:p=k
  .simp only[if_pos z];exact yr (aA.c7.mk a.r a.a a.b) ⟨h1,r,x,y⟩
  .by_cases c2:cB (dep%c) k p<0
   .simp only[if_neg z,if_pos c2];refine yr (aA.c7.mk a.r (pf h a.a) a.b) ⟨λd b=>?_,r,ys h a.a x,y⟩;rcases sm b with rfl|b
    .exact c2
    .exact h1 d b
   .simp only[if_neg z,if_neg c2];refine yr (aA.c7.mk a.r a.a (pf h a.b)) ⟨h1,λd b=>?_,x,ys h a.b y⟩;rcases sm b with rfl|b
    .rcases C.sg d p h.len a.r.len with a|a|a
     .trivial
     .simp_all
     .exact a
    .exact r d b
def yt{a:Nat}{k:Ρ}:∀ {b:aA}{dep:Nat},b.kk a dep->(cb a k b dep).1.kk a dep
 |.nil,dep,_=>trivial
 |.node o live p r,dep,⟨h1,c,d,h⟩=>by
  rw[cb];split
  .trivial
  split
  .exact⟨by rw[sn];exact h1,c,yt d,h⟩
  .exact⟨h1,by rw[sn];exact c,d,yt h⟩
structure kW(d n:Nat)(t:aA):Prop where
 hy:t.c7 d
 uv:t.kk d 0
 cn:t.size<=n
theorem kW.nil{a n:Nat}:kW a n .nil:=⟨λc b=>(by cases b),trivial,a3N _⟩
def kW.ins(a:kW e i a8)(b:bF e n):kW e (i+1) (cO e n a8 0).1:=⟨pf b a.hy,ys b a.hy a.uv,by have:=p7 e n a8 0;have:=a.cn;omega⟩
theorem kW.del(b:kW e i a8):kW e i (kM e n a8).1:=by
 have a:=so (n:=n) (i:=0) b.hy;have c:=yt (k:=n) b.uv;have p:=p8 e n a8 0;have r:=kL (cb e n a8 0).1;have x:=b.cn;unfold kM;split
 .refine⟨ye _ _ _ λd h=>a d (aA.fS h),uu _ _ _ (λk o=>(a k (aA.fS o)).len) (aA.qG a c),?_⟩;grind[qq,cb]
 .exact⟨a,c,δ⟩
def ZU(a:kW e i a8)(b:(cb e n a8 0).2=η):a8.all.Perm (n::(kM e n a8).1.all):=by
 have c:=so (n:=n) (i:=0) a.hy;refine(ur b).trans (.cons _ ?_);unfold kM;split
 .exact(uq _ _ _ (a3w _) λd h=>(c d (aA.fS h)).len).symm
 .rfl
theorem fr.cells{b:aU}{a:R}(c:fr b a):α a.cells=76:=by obtain⟨T,rfl,d⟩:=c;exact d.all.1
theorem yu(o:List aU)(a:Χ)(c:Own)(b:U)(p:aC fr o a)(F:α o<=1000):
  AC γ 161 [.J a c] b λr d=>aw b d 76 (flat a) r:=by
 have G:=p.len;refine nu λL=>?_;have y:c=.nil->a=[]:=λh=>by subst h;simp_all
 have x:=p.cells λ_ _=>fr.cells;have P:=cT x;refine aZ hm MO ρ ?_;simp -dsimp -implicitDefEqProofs (disch:=first|omega|assumption|(simp only[aR,Nat.reduceAdd];try omega)) only[go_sem,simprocAttr,↓nD];refine nE (λk=>by rw[y k]) (λk=>?_) ?_
 .have z:a=[]:=by trivial
  subst z;refine aI @a3H ?_;exact⟨b,θ,aw.nil θ⟩
 .refine aI @rq ?_;have C:c8 b 76 (.J a c)=β (α a,flat a):=by have D:=a3h.2 λh E=>decide_eq_true (x h E);simp only[c8,D,if_true]
  refine fx (aw.zero (θ)) δ C δ (by simp only[a3a];omega) (by simp only[a3a];omega) λr d k=>?_;refine dS ?_;exact⟨d,θ,by trivial⟩
theorem ZV(t k:U)(h:Χ)(f:R)(y:aw t k 76 h f)(G:Nat)(L:α h=G*76)(a:Nat)(n1:a<=G)(n2:G<=1000)(o:Χ)(u:α o=76)(z:Nat)(v:t z=β (.cells o)):
  AC γ 160 [f,.v (.int .i64 (a:Int)),.aq z 1 1 76] k λk6 P=>aw t P 76 (h.take (a*76)++(o++h.drop (a*76))) k6:=by
 have S:=y.1 _ _ v;have g:((1:Nat):Int)=1:=rfl;have w:∀P:U,P z=β (.cells o)->c8 P 76 (.aq z 1 1 76)=β (1,o):=λP y=>by
  simp_all [c8,κ,a2U]
 by_cases c1:a=G
 .subst c1;obtain⟨e,E,wl⟩:∃e,c9 76 f (β (.v (.int .i64 (a:Int)))) ε ε=β e/\fY f=β (.v (.int .i64 (a:Int))):=by
   rcases y.2 with⟨i,rfl|rfl⟩|⟨c,b,d,r,rfl,j,C,l,m,k7,A,X⟩
   .rw[i]at L;obtain rfl:a=0:=by rw[a3a]at L;omega
    exact⟨_,UM,rfl⟩
   .rw[i]at L;obtain rfl:a=0:=by rw[a3a]at L;omega
    exact⟨_,UL,rfl⟩
   .obtain rfl:b=a:=δ;obtain⟨e,E,_⟩:=nQ (i:=76) (h9:=c) (e0:=.i64) δ A;exact⟨e,E,rfl⟩
  refine aZ hm An ρ ?_;simp -dsimp -implicitDefEqProofs (disch:=first|omega|assumption|(simp only[aR,Nat.reduceAdd];try omega)) only[go_sem,simprocAttr,↓ep,E,wl,g];refine fx y δ (w k S) δ δ δ λn3 P n4=>?_;refine Bl ?_;grind[θ,Θ,List.drop_eq_nil_of_le]
 have n5:a<G:=δ;obtain⟨c,b,d,r,rfl,j,C,l,m,k7,A,X⟩:=y.aq (λi=>by rw[i]at L;simp at L;omega);obtain rfl:b=G:=δ;have Y:c≠z:=by rintro rfl;rw[j]at v;cases v
 have B:¬(a)=(b:Int):=δ;refine aZ hm An ρ ?_;obtain⟨e,E,_,Z⟩:=nQ (i:=76) (h9:=c) (e0:=.i64) δ A;have n9:=Z k r h C δ m;have k0:(h.drop (a*76)).length=(b - a)*76:=by rw[a3i];omega
 have k8:r.take (a*76)=h.take (a*76):=by grind
 by_cases c2:(d)<(b:Int)+1
 .have n:c9 76 (.aq c b d 76) ε (β (.v (.int .i64 (a)))) ε=β (.aq c a d 76):=hi δ;have k2:(b)+1 -(a)=((b+1 - a:Nat):Int):=δ;refine dt (bx @E @B @g @c2 @n @k2) ?_;refine w9 C l δ δ δ λp D k9 q s l0 k3=>?_;have l1:a+(b+1 - a)=b+1:=δ;rw[l1]at s k3|-;generalize l2:ζ (b+1 - a) _=k4;have l3:α k4.flatten=(b+1 - a)*76:=by rw[<-l2,kv];rfl
  have l4:p≠c:=by rintro rfl;rw[q]at C;cases C
  have l5:p≠z:=by rintro rfl;rw[q]at S;cases S
  obtain⟨F,k5⟩:∃F,F=r.take (a*76)++k4.flatten++k9:=⟨_,rfl⟩;have l6:α F=D*76:=by rw[k5,a2V,a2V,l3,a2X,k3];omega
  have l7:F.take (a*76)=h.take (a*76):=by simp_all
  rw[<-k5];have H:c9 76 (.aq p (b+1) D 76) (β (.v (.int .i64 (a)))) ε ε=β (.bB p (a*76) (b+1 - a) (D - a) 76):=fK δ s δ;have I:c9 76 (.aq p (b+1) D 76) (β (.v (.int .i64 ((a)+1)))) ε ε=β (.bB p (a*76+76) (b - a) (D -(a+1)) 76):=by have:=fK (i:=76) (b9:=p) (e:=a+1) (e0:=.i64) δ s δ;grind
  have K:(k.set p (.cells F)) z=β (.cells o):=by rw[ξ _ _ (Ζ l5)];exact S
  have T:=gP (M:=a*76) (h9:=D - a) (i:=b+1 - a) (w _ K) (ν k p (.cells F)) δ;have M:o.take ((b+1 - a)*76)=o:=a2U δ;rw[M]at T;obtain⟨x,V⟩:∃x,x=putAt F (a*76) o:=⟨_,rfl⟩;have N:α x=D*76:=by rw[V,eh _ _ _ δ,l6]
  rw[<-V]at T;have l8:(k.set p (.cells x)) c=β (.cells r):=by rw[ξ _ _ (Ζ l4)];exact C
  have O:=Z _ r h l8 δ m;have W:=gP (M:=a*76+76) (h9:=D -(a+1)) (i:=b - a) O (ν k p (.cells x)) δ;have Q:(h.drop (a*76)).take ((b - a)*76)=h.drop (a*76):=a2U δ;rw[Q]at W;refine dt (ff @E @B @g @c2 @n @k2 @H @I @T @W @σ) ?_;refine⟨_,θ,μ y.1 (Μ y.1 q),.inr ⟨p,b+1,D,_,rfl,Μ y.1 q,ν _ _ _,?_,?_,?_,s,l0⟩⟩
  .rw[eh _ _ _ δ,N]
  .have:=(oX l7 u k0 δ).2;rw[show(b+1)*76=a*76+76+(b - a)*76 by omega,V];exact this
  grind
 .have n:c9 76 (.aq c b d 76) ε (β (.v (.int .i64 ((b)+1)))) ε=β (.aq c (b+1) d 76):=by rw[show(b)+1=((b+1:Nat):Int) by omega];exact hi δ
  have H:c9 76 (.aq c (b+1) d 76) (β (.v (.int .i64 (a)))) ε ε=β (.bB c (a*76) (b+1 - a) (d - a) 76):=fK δ δ δ;have I:c9 76 (.aq c (b+1) d 76) (β (.v (.int .i64 ((a)+1)))) ε ε=β (.bB c (a*76+76) (b - a) (d -(a+1)) 76):=by have:=fK (i:=76) (b9:=c) (v:=b+1) (M:=d) (e:=a+1) (e0:=.i64) δ δ δ;grind
  have l9:r≠[]:=by rintro rfl;simp at l;omega
  have n0:ku (.aq z 1 1 76) (.bB c (a*76+76) (b - a) (d -(a+1)) 76) k=β (.v (.bool ι)):=w8 rfl rfl (Ζ Y) (pX S (by rintro rfl;simp at u)) (pX C l9);have O:c8 k 76 (.bB c (a*76) (b+1 - a) (d - a) 76)=β (b+1 - a,(r.drop (a*76)).take ((b+1 - a)*76)):=by simp only[c8,κ C];grind
  have W:=gP (M:=a*76+76) (h9:=d -(a+1)) (i:=b - a) O C δ;have Q:((r.drop (a*76)).take ((b+1 - a)*76)).take ((b - a)*76)=h.drop (a*76):=by rw[a4a,<-m,a4i];congr 1;omega
  rw[Q]at W;obtain⟨x,V⟩:∃x,x=putAt r (a*76+76) (h.drop (a*76)):=⟨_,rfl⟩;rw[<-V]at W;have N:α x=α r:=by rw[V,eh _ _ _ δ]
  have K:(k.set c (.cells x)) z=β (.cells o):=by rw[ξ _ _ (Ζ Y)];exact S
  have T:=gP (M:=a*76) (h9:=d - a) (i:=b+1 - a) (w _ K) (ν k c (.cells x)) δ;have M:o.take ((b+1 - a)*76)=o:=a2U δ;rw[M]at T;refine dt (ff @E @B @g @c2 @n @H @I @n0 @W @T @σ) ?_;refine⟨_,θ,μ y.1 j,.inr ⟨c,b+1,d,_,rfl,j,ν _ _ _,?_,?_,?_,δ,X⟩⟩
  .rw[eh _ _ _ δ,N,l]
  .have:=(oX k8 u k0 δ).1;grind
  grind
variable{g A c0:Χ}{e7:List aU}
theorem ZW(c:aC fr e7 g):∀a∈g,∃b,a=.agg b/\α b=76:=λa d=>by
 obtain⟨k,_,T,rfl,h⟩:=c.mem d;exact⟨T,rfl,h.all.1⟩
variable{q b7:R}{f u e1:U}
theorem aw.ZX(b:aw f u 76 (flat g) q)(c:aC fr e7 g):∃a,View u q a (.J g .any)/\f.sub a:=by obtain⟨h,a,d,k,o⟩:=View.dC b;rw[cT (c.cells λ_ _=>fr.cells)]at d;grind[x7,ZW]
def cP(a:List aU)(b:Τ):Nat:=(a.takeWhile λc=>bV c.name b).length
def ER:∀ {c:List aU}{b:Τ}{d:Nat},Place c b d->d=cP c b
 |[],b,d,a=>by have:=a.1;simpa[cP] using this
 |o::c,b,0,a=>by
  have:=a.2.2 0 ρ δ;simp only[a3X]at this;simp[cP,this]
 |o::c,b,d+1,a=>by
  have k:=a.2.1 0 δ;simp only[a3X]at k;have:=ER ⟨by have:=a.1;simpa using this,λh p=>by have:=a.2.1 (h+1) δ;trivial,λh p r=>by have:=a.2.2 (h+1) Κ δ;trivial⟩;simp only[cP,a4k,k,if_true,a3e];rw[this];rfl
def fU(a:List aU)(b:Τ):Bool:=decide (cP a b<α a)&&decide ((a.getD (cP a b) default).name=b)
theorem yv{c:List aU}(d:cK c=η):∀b a,b<a->a<α c->bV (c.getD b default).name (c.getD a default).name=η
 |b,0,h1,_=>by omega
 |b,a+1,h1,p=>by
  have h:=d;simp only[cK,Ξ,a3h,a4b,a4x,decide_eq_true_eq]at h;have k:=(h.1 (a+1) p).2.resolve_left δ;rw[Nat.add_sub_cancel]at k;rcases a7o b a with o|o
  .exact uf _ _ _ (yv d b a o δ) k
  grind
def yw(a:List aU)(c:Χ)(h:Own)(b:Τ)(r:aC fr a c)(k:cK a=η)(d:U):
  AC γ 159 [.J c h,bo b] d λo p=>p=d/\o=.aF [.v (.int .i64 (cP a b:Int)),.v (.bool (fU a b))]:=by
 have z:α a<=8:=by simp only[cK,Ξ,decide_eq_true_eq]at k;omega
 refine(Zk a c h b r δ (yv k) d).mono λo p x=>?_;obtain⟨C,D,y,rfl⟩:=x;obtain rfl:=ER y;trivial
def uw(d:Except Int (List aU))(a:R):Prop:=
 match d with
 |.error b=>b≠0/\a=.aF [.J [] .nil,.v (.int .i64 b)]
 |.ok h=>∃c,aC fr h c/\a=.aF [.J c .any,.v (.int .i64 0)]
def jr(a:List aU)(b:aU):Except Int (List aU):=
 if(cK a&&ft b)=η then(if fU a b.name=η then .error 4 else if 8<=α a then .error 10 else .ok (a.take (cP a b.name)++b::a.drop (cP a b.name)))else .error 1
def js(a:List aU)(b:aU):Except Int (List aU):=
 if(cK a&&ft b)=η then(if fU a b.name=η then .ok (a.set (cP a b.name) b)else .error 3)else .error 1
def sq(a b:U)(o:Except Int (List aU))(c:R):Prop:=
 match o with
 |.error d=>a.sub b/\d≠0/\c=.aF [.J [] .nil,.v (.int .i64 d)]
 |.ok p=>∃h k,aC fr p k/\aw a b 76 (flat k) h/\c=.aF [h,.v (.int .i64 0)]
def sq.yx{a:Except Int (List aU)}(b:sq f u a q):∃c d,View u q d c/\f.sub d/\uw a c:=by
 cases a with
 |error x=>exact⟨_,_,View.refl,b.1,b.2⟩
 |ok y=>obtain⟨z,k,h,o,rfl⟩:=b;obtain⟨C,p,r⟩:=aw.ZX o h;exact⟨_,_,View.aF (a:=[]) p,r,k,h,rfl⟩
def ZY(a:List aU)(b:Τ):cP a b<=α a:=by unfold cP;have:=congrArg α (a3F (p:=λc:aU=>bV c.name b) (l:=a));rw[a2V]at this;omega
def ZZ(a:List aU)(d:Χ)(r:Own)(b:aU)(c:Χ)(D:ef b c)(V:b.Fit)(p:aC fr a d)(L:∀b∈a,b.Fit)(W:α a<=1000)(x:U):
  AC γ 99 [.J d r,.agg c] x λz E=>x.sub E/\uw (jr a b) z:=by
 have q:AC γ 99 [.J d r,.agg c] x λz E=>sq x E (jr a b) z:=?_
 .exact q.view λz E s=>s.yx
 have t:=p.len;obtain⟨e,Q,X,Y,bm,Z,k0,k2,k3,k4,k5,k6,k7⟩:=D.all;refine aM hm Li ?_;refine bp λf u=>?_;have C:=μ (X:=.cells c) (θ) u;have aE:=ν x f (.cells c);generalize x.set f _=o at*;have v:=κ aE;have h:(if(cK a&&ft b)=η then(if fU a b.name=η then .error 4 else if 8<=α a then .error 10 else .ok (a.take (cP a b.name)++b::a.drop (cP a b.name)))else .error 1)=jr a b:=rfl;generalize jr a b=k8 at*;cases P:cK a with
 |false=>rw[if_neg (by rw[P];simp)]at h;refine bd (o4 a d r p L δ o) ?_;rw[<-h];exact⟨_,θ,C,Λ,rfl⟩
 |true=>
 cases g:ft b with
 |false=>rw[if_neg (by rw[g];simp)]at h;refine bd (o4 a d r p L δ o) ?_;refine bd (qA b c D V o) ?_;rw[<-h];exact⟨_,θ,C,Λ,rfl⟩
 |true=>
 rw[if_pos (by rw[P,g];rfl)]at h;refine bd (o4 a d r p L δ o) ?_;refine bd (qA b c D V o) ?_;have F:=yw a d r b.name p P o;have w:=ZY a b.name;generalize cP a b.name=k at*;cases G:fU a b.name with
 |true=>rw[if_pos G]at h;rw[G]at F;refine bd F ?_;rw[<-h];exact⟨_,θ,C,Λ,rfl⟩
 |false=>
 rw[if_neg (by rw[G];simp)]at h;rw[G]at F;refine bd F ?_;refine aH (λA=>?_) λA=>?_
 .rw[if_pos δ]at h;rw[<-h];exact⟨_,θ,C,Λ,rfl⟩
 rw[if_neg δ]at h;have i:bc 76 [R.agg c]:=λj B=>by rw[a3s.1 B];exact e
 refine(As (iv i ρ λy k9=>trivial)).mpr ?_;have v:=κ aE;refine aa ?_;refine ak (yu a d r o p W) ?_;intro l m S;have l0:=κ (S.1 _ _ aE);refine aa ?_;have H:flat [R.agg c]=c:=by simp[flat,τ]
 refine iv i ρ λy n=>?_;rw[H];have T:=p.cells λ_ _=>fr.cells;have I:aw (o.set y (.cells c)) (m.set y (.cells c)) 76 (flat d) l:=S.new n;have K:(flat d).length=α a*76:=by rw[cT T,t]
 have M:=ZV (o.set y (.cells c)) (m.set y (.cells c)) (flat d) l I (α a) K k w W c e y (ν _ _ _);refine aa ?_;refine ak M ?_;intro z l1 N;refine aa ?_;refine⟨_,θ,?_⟩;rw[<-h];have O:x.sub (o.set y (.cells c)):=μ C (Μ C (Μ S.1 n));refine⟨z,d.take k++ .agg c::d.drop k,(p.take k).append ⟨⟨c,rfl,D⟩,p.drop k⟩,?_,rfl⟩;have j:flat (d.take k++ .agg c::d.drop k)=(flat d).take (k*76)++(c++(flat d).drop (k*76)):=by rw[(fw k T).1,(fw k T).2];simp[flat,τ]
 rw[j];exact N.base O
theorem aw.lj(c:aw u f e (flat g) q)(d:bc e g)(y:0<e)(o:i<α g)(p:α A=e):
  ∃b h a,q=.aq b (α g) h e/\f b=β (.cells a)/\i*e+e<=α a/\aw u (f.set b (.cells (putAt a (i*e) A))) e (flat (g.set i (.agg A))) q:=by
 have z:=cT d;have C:(i+1)*e<=α g*e:=a3g _ o;rw[a3U,a5H]at C;obtain⟨b,D,h,a,rfl,r,E,F,G,W,x,L⟩:=c.aq (λk=>by rw[k,a3a]at z;omega);obtain rfl:D=α g:=a5i y δ;have j:=a3g e x;refine⟨b,h,a,rfl,E,δ,μ c.1 r,.inr ⟨b,α g,h,_,rfl,r,ν _ _ _,?_,?_,?_,x,L⟩⟩
 .rw[eh _ _ _ δ,F]
 .have P:g.set i (.agg A)=g.take i++ .agg A::g.drop (i+1):=a4e .. |>.trans (by rw[if_pos o])
  have S:flat (g.take i++ .agg A::g.drop (i+1))=(flat g).take (i*e)++(A++(flat g).drop ((i+1)*e)):=by rw[(fw (i+1) d).1,(fw i d).2];simp[flat,τ]
  have l:(a.take (i*e)).length=i*e:=by rw[a2X];omega
  have T:(i+1)*e=i*e+e:=by grind
  rw[P,S,putAt,p,<-G,a4a,a4w δ,T,a4i];have m:(a.take (i*e)++A).length=i*e+e:=by simp_all
  have n:α g*e=(i*e+e)+(α g*e -(i*e+e)):=δ;grind
 .rw[cT (d:=e)]
  .simp
  .intro k V;rcases a4T V with c|rfl
   .exact d k c
   .exact p
theorem a0a(a:List aU)(c:Χ)(o:Own)(b:aU)(d:Χ)(z:ef b d)(S:b.Fit)(k:aC fr a c)(L:∀b∈a,b.Fit)(g:α a<=1000)(r:U):
  AC γ 166 [.J c o,.agg d] r λC D=>r.sub D/\uw (js a b) C:=by
 have i:AC γ 166 [.J c o,.agg d] r λC D=>sq r D (js a b) C:=?_
 .exact i.view λC D E=>E.yx
 have j:=k.len;obtain⟨l,u,v,w,bm,A,B,H,I,K,M,N,O⟩:=z.all;refine aM hm MY ?_;refine bp λT m=>?_;have F:=μ (X:=.cells d) (θ) m;have aE:=ν r T (.cells d);generalize r.set T _=p at*;have Q:=κ aE;have h:(if(cK a&&ft b)=η then(if fU a b.name=η then .ok (a.set (cP a b.name) b)else .error 3)else .error 1)=js a b:=rfl;generalize js a b=X at*;cases P:cK a with
 |false=>rw[if_neg (by rw[P];simp)]at h;refine bd (o4 a c o k L δ p) ?_;rw[<-h];exact⟨_,θ,F,Λ,rfl⟩
 |true=>
 cases V:ft b with
 |false=>rw[if_neg (by rw[V];simp)]at h;refine bd (o4 a c o k L δ p) ?_;refine bd (qA b d z S p) ?_;rw[<-h];exact⟨_,θ,F,Λ,rfl⟩
 |true=>
 rw[if_pos (by rw[P,V];rfl)]at h;refine bd (o4 a c o k L δ p) ?_;refine bd (qA b d z S p) ?_;have G:=yw a c o b.name k P p;have W:fU a b.name=η->cP a b.name<α a:=λE=>by
  simp only[fU,Ξ,decide_eq_true_eq]at E;exact E.1
 generalize cP a b.name=x at*;cases y:fU a b.name with
 |false=>rw[if_neg (by rw[y];simp)]at h;rw[y]at G;refine bd G ?_;rw[<-h];exact⟨_,θ,F,Λ,rfl⟩
 |true=>
 rw[if_pos y]at h;rw[y]at G;have W:=W y;refine bd G ?_;refine ak (yu a c o p k g) ?_;intro Y Z e;have n:=k.cells λ_ _=>fr.cells;obtain⟨f,q,k0,rfl,s,k2,t⟩:=aw.lj e n δ (i:=x) δ l;have k3:=κ (e.1 _ _ aE);have k4:cJ 76 (.aq f (α c) q 76) (.v (.int .i64 (x)))=β (.ptr f (x*76)):=by grind[jL,Int.toNat_natCast]
 have k5:=χ s;refine aa ?_;refine⟨_,θ,?_⟩;rw[<-h];exact⟨_,c.set x (.agg d),k.set x ⟨d,rfl,z⟩,t.base F,by rw[j]⟩
end Go.Proofs.YtcfpcblgmmeioaaGreat
