import Derived.Test.YtkafjfkjahgihaaGreatMC
set_option linter.all false
open Option renaming some->β,none->ε
open Go.Proofs.Tryz renaming prog->γ
open List renaming replicate->δ,zipWith->φ,range->χ,length_append->ω,take_of_length_le->Γ,drop_eq_getElem_cons->Θ,length->α
open Bool renaming true->ζ,false->θ
open Go.bD.U renaming a1->η,ad->ι,ae->κ,aj->μ,an->ξ,ao->ο,set_set->ς,aI->τ,bJ->Ι
open UInt8 renaming ofNat->ν
open BitVec renaming ofInt->π
open Go.bD.R renaming cells->ρ
open Go.bD.bf renaming nil->Ν
namespace Go.bD
open Go
def wr:dV->Φ
 |.plain ops|.draw ops _=>ops.filterMap (·.dst)
 |.seq a b|.cond _ a b=>wr a++wr b
 |.block _ a|.loop a=>wr a
 |_=>[]
def hv(b:Φ)(c d:Fr):Prop:=∀a,a∉b->d a=c a
theorem hv.trans{a:Φ}{b c d:Fr}(o:hv a b c)(p:hv a c d):hv a b d:=λh k=>(p h k).trans (o h k)
variable{n b6:R}{j:Fr}
def hv.put{c:Φ}{b:Option Nat}(d:∀a,b=β a->a∈c):hv c j (dp j b n):=λa h=>uD j b n a λk=>h (d a k)
variable{j2:dV}{K:Ctx}{e9:gi -> Fr -> U -> Prop}{f s e5:U}{e i v O e0 j6:Nat}{k0:Nat -> Prop}{b2:Type}
section
def DM{c:Φ}{p:Fr->U->Prop}{r:Fr}:∀(d:List ca),(∀h∈d,∀x,h.dst=β x->x∈c)->∀(a:Fr)(b:U),hv c r a->je K d p a b->je K d (λy k=>p y k/\hv c r y) a b
 |[],_,a,b,cm,o=>⟨o,cm⟩
 |h::C,z,a,b,cm,o=>nv (λG k D=>DM C (λE F=>z E (a9H _ F)) _ k (cm.trans (hv.put (z h (aa6 ..)))) D) o
def DN{d:Φ}{h:Nat->ca}{o:Fr->U->Prop}{p:Fr}(r:∀D x,(h D).dst=β x->x∈d):∀(y:List dj)(a:Fr)(b:U),hv d p a->can K h o y a b->can K h (λz k=>o z k/\hv d p z) y a b
 |[],a,b,cm,c=>⟨c,cm⟩
 |E::F,a,b,cm,c=>⟨c.1,nv (λG k C=>⟨C.1,DN r F _ k (cm.trans (hv.put (r E.i))) C.2⟩) c.2⟩
theorem oU{y:Φ}:∀(z:dV),(∀d∈wr z,d∈y)->∀ {r:gi->Fr->U->Prop}{k:Fr} (b:Fr) (c:U),hv y k b->bW K z r b c->bW K z (λo E G=>r o E G/\hv y k E) b c
 |.skip,_,_,_,b,c,cm,a=>⟨a,cm⟩
 |.ret,_,_,_,b,c,cm,a=>⟨a,cm⟩
 |.exit _,_,_,_,b,c,cm,a=>⟨a,cm⟩
 |.plain ops,hw,_,_,b,c,cm,a=>DM ops (λL P d x=>hw d (abt.2 ⟨L,P,x⟩)) b c cm a
 |.draw ops S,hw,_,_,b,c,cm,a=>DN (λC d x=>by
   refine hw d (abt.2 ?_);grind[nth,List.mem_of_getElem?]) S b c cm a
 |.seq h D,hw,r,k,b,c,cm,a=>jl h (λo b c a=>by
   cases o with
   |norm=>exact oU D (λd p=>hw d (aah _ p)) b c a.2 a.1
   |exit C=>exact a
   |ret=>exact a) b c (oU h (λd p=>hw d (aal _ p)) b c cm a)
 |.block C h,hw,r,k,b,c,cm,a=>jl h (λo b c a=>by
   cases o with
   |norm=>exact a
   |exit g=>obtain⟨T,i⟩:=a;simp only[lB]at T|-;split<;>(simp_all)
   |ret=>exact a) b c (oU h hw b c cm a)
 |.cond z h D,hw,r,k,b,c,cm,a=>by
   simp only[xP,CS,kF]at a|-;split at a
   .exact⟨λx=>oU h (λd p=>hw d (aal _ p)) b c cm (a.1 x),λx=>oU D (λd p=>hw d (aah _ p)) b c cm (a.2 x)⟩
   .trivial
 |.loop h,hw,r,k,b,c,cm,a=>by
   obtain⟨V,W,e,f⟩:=a;refine⟨λb c=>V b c/\hv y k b,W,⟨e,cm⟩,λb c F=>jl h (λo b c a=>?_) b c (oU h hw b c F.2 (f b c F.1))⟩;cases o with
   |norm=>exact⟨⟨a.1.1,a.2⟩,a.1.2⟩
   |exit C=>exact a
   |ret=>exact a
def gI(a:Fr):List (Nat×R)->Prop
 |[]=>True
 |b::c=>a b.1=b.2/\gI a c
def YJ:gI j []=True:=rfl
def YK{v:R}:gI j [(e,v)]=(j e=v):=by simp[gI]
def YL{v:R}{a:Nat×R}{b:List (Nat×R)}:gI j ((e,v)::a::b)=(j e=v/\gI j (a::b)):=rfl
def gW(a:Fr):List (Nat×R)->Fr
 |[]=>a
 |b::c=>dp (gW a c) (β b.1) b.2
def YM:gW j []=j:=rfl
def YN{v:R}{a:List (Nat×R)}:gW j ((e,v)::a)=dp (gW j a) (β e) v:=rfl
theorem td{a:Fr}:∀ {b:List (Nat×R)},gI a b->gW a b=a
 |[],_=>rfl
 |d::o,c=>by
  rw[gW,td c.2];funext h;by_cases k:h=d.1
  .subst k;rw[<-c.1];simp[dp,mf]
  grind[uD,Option.some.inj]
def keeps(a:Fr):Φ->List (Nat×R)
 |[]=>[]
 |b::c=>(b,a b)::keeps a c
def YO:keeps j []=[]:=rfl
def YP{a:Φ}:keeps j (e::a)=(e,j e)::keeps j a:=rfl
def yf{b c:Fr}:∀ {d:Φ},(∀a∈d,c a=b a)->gI c (keeps b d)
 |[],_=>trivial
 |a::p,h=>⟨h a (aa6 ..),yf λk o=>h k (a9H _ o)⟩
theorem DO:∀ {a:Nat},k0 a->∃a,k0 a/\∀b,k0 b->a<=b:=by
 intro a
 induction a using Nat.strongRecOn with
 |ind a ih=>grind
theorem cd(D:Φ)(y:b2->List (Nat×R))(E:b2->U->Prop)(h:b2->Nat)(L:b2)
  (m:E L f/\gI j (y L)) (P:∀x c,E x c->∀d,bW K j2 (eY (λn q=>∃a,E a q/\gI n (y a)/\h a<h x) e9) (gW (gW d (keeps j D)) (y x)) c)
  (I:D.all (λS=> !(wr j2).contains S)=true:=by kernel_rfl):cy (bW K (.loop j2) e9 j f) ():=by
 classical
 let p:=λ(d) (c) (a)=>E a c/\gI d (y a)
 let z:=λ(d) (c)=>if C:∃k,(∃a,p d c a/\h a=k)/\∀o,(∃a,p d c a/\h a=o)->k<=o then C.choose else 0;refine⟨λd c=>(∃a,p d c a)/\hv (wr j2) j d,z,⟨⟨L,m⟩,λ_ _=>rfl⟩,λb r T=>?_⟩;have C:∃k,(∃a,p b r a/\h a=k)/\∀o,(∃a,p b r a/\h a=o)->k<=o:=by obtain⟨a,s⟩:=T.1;exact DO ⟨a,s,rfl⟩
 obtain⟨⟨x,i,hm⟩,M⟩:=C.choose_spec;have t:gI b (keeps j D):=yf λS N=>T.2 S λO=>by
  simp_all
 have u:gW (gW b (keeps j D)) (y x)=b:=by rw[td t,td i.2]
 have l:=P x r i.1 b;rw[u]at l;refine jl j2 (λv F G V=>?_) b r (oU j2 (λ_ P=>P) b r T.2 l);cases v with
 |norm=>obtain⟨⟨a,W,e,w⟩,A⟩:=V;refine⟨⟨⟨a,W,e⟩,A⟩,?_⟩;have g:∃k,(∃a,p F G a/\h a=k)/\∀o,(∃a,p F G a/\h a=o)->k<=o:=DO ⟨a,⟨W,e⟩,rfl⟩;show z F G<z b r;have B:z F G=g.choose:=dif_pos g;have H:z b r=C.choose:=dif_pos C;rw[B,H];exact Nat.lt_of_le_of_lt (g.choose_spec.2 _ ⟨a,⟨W,e⟩,rfl⟩) (by rw[<-hm];exact w)
 |exit Q=>exact V.1
 |ret=>exact V.1
end
theorem gX(d:Φ)(b:b2->List (Nat×R))(c:b2->Prop)(h:b2->Nat)(k:b2)
  (x:c k) (y:gI j (b k)) (z:∀a,c a->∀o,bW K j2 (eY (λC D=>∃p,D=f/\c p/\gI C (b p)/\h p<h a) e9) (gW (gW o (keeps j d)) (b a)) f)
  (E:d.all (λF=> !(wr j2).contains F)=true:=by kernel_rfl):cy (bW K (.loop j2) e9 j f) ():=
 cd d b (λa r=>r=f/\c a) h k ⟨⟨rfl,x⟩,y⟩ (λa r G o=>by
  obtain⟨rfl,L⟩:=G;refine jl j2 (λP S T V=>?_) _ _ (z a L o);grind) E
def uZ:=
 σ @YJ<|
 σ @YK<|
 σ @YL<|
 σ @YM<|
 σ @YN<|
 σ @YO<|
 @YP
def U.v7(a:f e=ε)(b:s.sub f):s e=none:=Ι b a
variable{Z:bt}
def U.YQ(c:f e=ε):f.sub (s.set e Z)=f.sub s:=propext ⟨λa d h b=>by
 have k:d≠e:=by rintro rfl;rw[c]at b;cases b
 have:=a d h b;rwa[ξ _ _ k]at this,λa=>κ a c⟩
def U.sub_self:f.sub f=True:=eq_true η
def YR:(∃b,b.sub s/\f.sub b)=f.sub s:=propext ⟨λ⟨_,a,h⟩ c d k=>a c d (h c d k),λa=>⟨f,a,η⟩⟩
def YS:(∃b,b.sub s/\b=f)=f.sub s:=propext ⟨λ⟨_,a,c⟩=>by subst c;exact a,λa=>⟨f,a,rfl⟩⟩
variable{w j8:Υ}
def YT:sY (bc w)=β (.v (.int .i64 (α w))):=y0
variable{e2:IntKind}
def YU(a:e<α w):sU (bc w) (.v (.int e2 (e:Int)))=β (.v (.int .u8 (w.getD e 0).toNat)):=by have:=Dr (w:=w) (e2:=e2) (b3:=(e)) acq acq;trivial
variable{g B e1:Ψ}{M e7 j0:Own}
def oV:cO e (.J g M) (.v (.int e2 (i:Int)))=eG e g[i]? :=by rfl
variable{e6:Value}
def YV:eG 1 (β (.v e6))=β (.bZ [.v e6]):=rfl
def YW:eG 1 (β (bc w))=β (.bZ [bc w]):=rfl
def YX:eG 1 (β (.J g M))=β (.bZ [.J g M]):=rfl
def YY:eG 1 (β (.ptr e i))=β (.bZ [.ptr e i]):=rfl
variable{Q b7 h7 j7 k1:Prop}
def YZ[Decidable Q]:(!decide Q)=decide (¬Q):=decide_not.symm
variable{I:Bool}
def Z0:(xor θ I)=I:=aaM I
def Z1:(∃b,b.sub s/\f.sub b/\Q)=(f.sub s/\Q):=propext ⟨λ⟨_,a,h,k⟩=>⟨λc d o=>a c d (h c d o),k⟩,λa=>⟨f,a.1,η,a.2⟩⟩
def Z2:(∃b,b.sub s/\b=f/\Q)=(f.sub s/\Q):=propext ⟨λ⟨_,a,c,d⟩=>by subst c;trivial,λa=>⟨f,a.1,rfl,a.2⟩⟩
def Z3{a:b2}{b:List b2}:List.take (e+1) (a::b)=a::List.take e b:=rfl
def Z4{a:List b2}:List.take 0 a=[]:=rfl
def Z5:List.take e ([]:List b2)=[]:=List.take_nil
def Z6{a:List b2}:List.drop 0 a=a:=rfl
def Z7:putAt (b6::g) 0 (n::B)=n::putAt g 0 B:=by rfl
def Z8:putAt g 0 []=g:=by rfl
def Z9:putAt (n::g) (e+1) B=n::putAt g e B:=by simp[putAt,Nat.add_right_comm]
def Za{b:b2}{a:List b2}:(b::a).length=α a+1:=rfl
def Zb:([]:List b2).length=0:=rfl
def Zc:(bc w).cells=[bc w]:=rfl
def Zd:(R.J g M).cells=[.J g M]:=rfl
def Ze:(R.ptr e i).cells=[.ptr e i]:=rfl
def Zf{v:Value}:(R.v v).cells=[.v v]:=rfl
theorem q0(a:e<=α g)(b:aW i g):dX i (.J g M) (β (.v (.int e2 (e:Int)))) ε=β (.J (g.drop e) .any):=by grind[ri,Int.toNat_natCast]
def Zg(a:e<α g)(b:aW i g):dX i (.J g M) (β (.v (.int e2 ((e:Int)+1)))) ε=β (.J (g.drop (e+1)) .any):=q0 (e:=e+1) a b
theorem Zh(a:e<=α g)(b:aW i g):dX i (.J g M) ε (β (.v (.int e2 (e:Int))))=β (.J (g.take e) .any):=by grind[oO,Int.toNat_natCast]
theorem Zi{a:IntKind}(b:i<=e)(c:e<=α g)(d:aW v g):dX v (.J g M) (β (.v (.int e2 (i:Int)))) (β (.v (.int a (e:Int))))=β (.J ((g.take e).drop i) .any):=by grind[Dg,Int.toNat_natCast]
def Zj:(∃ _:Unit,True)=True:=eq_true ⟨(),trivial⟩
variable{q Y:R -> U -> Prop}
def Zk{a:cC q}:jV e f [] (bR q a)=q (.J [] .zero) f:=by simp[jV,bR]
def Zl:cO e (.J g M) (.v (.int e2 0))=eG e g[0]? :=oV (i:=0)
def Zm:cO e (.J g M) (.v (.int e2 1))=eG e g[1]? :=oV (i:=1)
def v8:=
 σ @Zl<|
 σ @Zm<|
 σ @Zj<|
 σ @q0<|
 σ @Zg<|
 σ @Zh<|
 σ @Zi<|
 σ @Zc<|
 σ @Zd<|
 σ @Ze<|
 σ @Zf<|
 σ @μ<|
 σ @ξ<|
 σ @Z7<|
 σ @Z8<|
 σ @Z9<|
 σ @Za<|
 σ @Zb<|
 σ @Z3<|
 σ @Z4<|
 σ @Z5<|
 σ @Z6<|
 σ @U.YQ<|
 σ @U.sub_self<|
 σ @YR<|
 σ @YS<|
 σ @Z1<|
 σ @Z2<|
 σ @true_and<|
 σ @and_true<|
 σ @YT<|
 σ @YU<|
 σ @oV<|
 σ @YV<|
 σ @YW<|
 σ @YX<|
 σ @YY<|
 σ @hY<|
 σ @hY<|
 σ @D7<|
 σ @decide_true<|
 σ @decide_false<|
 σ @a9d<|
 σ @a8U<|
 σ @a9N<|
 σ @aar<|
 σ @aca<|
 σ @Bool.and_false<|
 σ @Z0<|
 σ @Bool.true_xor<|
 σ @YZ<|
 @Decidable.not_not
theorem te{a:Nat->Bool}(b:e<i)(c:a e=θ):(χ i).all a=false:=List.all_eq_false.2 ⟨e,a9C.2 b,by simp[c]⟩
theorem tf{a:Nat->Bool}(b:∀c<e,a c=ζ):(χ e).all a=true:=a8A.2 λd h=>b d (a9C.1 h)
def upto(b:∀a<e,k0 a)(c:k0 e):∀a<e+1,k0 a:=λa d=>(Nat.lt_or_eq_of_le (Nat.le_of_lt_succ d)).elim (b a) λh=>h▸c
def Zn:R.v (.int e2 ((e:Int)+1))=.v (.int e2 ((e+1:Nat):Int)):=rfl
theorem rq{a:Bool}(b:(I=ζ)=(a=ζ):=by apply propext;(try dsimp only);(try simp (disch:=omega) only[if_pos,if_neg,Ξ,a9U,a9M,Bool.not_eq_eq_eq_not,a9d,a8U,decide_eq_true_eq,decide_eq_false_iff_not,a9m,false_iff,iff_false,true_iff,iff_true,true_and,and_true,false_and,and_false,false_or,or_false,true_or,or_true,iff_self, *])<;>omega):I=a:=by simp_all
theorem aS{a:Bool}(b:I=a:=by exact rq):R.v (.bool I)=.v (.bool a):=b▸rfl
theorem aO{a:Bool}(b:I=a):R.v (.bool I)=.v (.bool a):=by rw[b]
def U.va(a:f.sub s)(b:f e=β Z):s e=β Z:=a _ _ b
def U.vb(a:bf f s i g M)(b:f e=β Z):s e=β Z:=a.sub _ _ b
def iI(c d:U):Prop:=∀a b,c a=β (.cells b)->d a=β (.cells b)
def U.tg(a:f.sub s):iI f s:=λc d b=>a _ _ b
theorem iI.trans(a:iI f s)(b:iI s e5):iI f e5:=λd h c=>b _ _ (a _ _ c)
def U.vc(a:iI f s)(b:f e=β (.cells g)):s e=β (.cells g):=a _ _ b
def U.vd{a:bt}(b:f e=β Z)(c:f i=ε):(f.set i a) e=β Z:=κ η c _ _ b
def U.gY(b:f i=ε)(a:f e=β Z):e≠i:=by rintro rfl;rw[b]at a;cases a
def a0(a:f e=β Z:=by first|assumption|exact μ _ _ _):f e=β Z:=a
def a3(a:f e=β Z:=by first|exact a0|exact U.vd a2 acu|exact U.va acu a2|exact U.vb acu a2|exact U.yg acu a2|exact U.vc acu a2):f e=β Z:=a
def a4(a:f e=β Z:=by first|exact a0|exact U.vd a3 acu|exact U.va acu a3|exact U.vb acu a3|exact U.yg acu a3|exact U.vc acu a3):f e=β Z:=a
def a5(a:f e=β Z:=by first|exact a0|exact U.vd a4 acu|exact U.va acu a4|exact U.vb acu a4|exact U.yg acu a4|exact U.vc acu a4):f e=β Z:=a
def dB(a:f e=β Z:=by first|exact a0|exact U.vd a5 acu|exact U.va acu a5|exact U.vb acu a5|exact U.yg acu a5|exact U.vc acu a5):f e=β Z:=a
def eW(c:∀a b,f a=β (.cells b)->s a=β (.cells b):=by intro _ _ _;exact dB):iI f s:=c
def rr(c:∀a b,f a=β b->s a=β b:=by intro _ _ _;exact dB):f.sub s:=c
variable{b5:FuncId}{m:Program}
section
def eI(a:Q=b7:=by simp -dsimp -implicitDefEqProofs (disch:=first|omega|assumption|exact U.v7 acu acu|(simp only[aX,Nat.reduceAdd];try omega)) only[go_sem,simprocAttr,-List.reduceReplicate,↓eQ,v8,uZ, *]<;>rfl):Q=b7:=a
def ia(a:Q=b7:=by first|exact eI|rfl):Q=b7:=a
def aa(a:b7)(b:Q=b7:=by exact ia):Q:=b.mpr a
def aR(a:Q=True:=by simp -dsimp -implicitDefEqProofs (disch:=first|omega|assumption|exact U.v7 acu acu|(simp only[aX,Nat.reduceAdd];try omega)) only[go_sem,simprocAttr,-List.reduceReplicate,↓eQ,v8,uZ, *]):Q:=of_eq_true a
def aL(b:m.follows .mixedOrders=ζ){a:List (Nat×Option (Bool×Nat))}(c:dz m v e=β ⟨i,O,j2,a⟩)(d:Q)(h:α g<=i:=by simp)
  (k:bW (Ctx.of m) j2 (oN a q) (mv g) f=Q:=by exact eI):AC m e g f q:=bg b c h (k.mpr d)
def bp{c:Nat->Prop}(d:∀a,f a=ε->c a)(h:∀a,f a=ε->k0 a=c a:=by intro a b;exact eI):ji f (bV k0 ()):=λa b=>(h a b).mpr (d a b)
def U.set_nil(a:(f.set i Z) e=ε):f e=ε/\e≠i/\i≠e:=⟨(U.gG a).2,(U.gG a).1,(U.gG a).1.symm⟩
def dk{d:Nat->Prop}(o:∀a,f a=ε->a≠e->e≠a->d a)(h:∀a,f a=ε->a≠e->e≠a->k0 a=d a:=by intro a b c h;exact eI):ji (f.set e Z) (bV k0 ()):=λa b=>by
 obtain⟨b,c,k⟩:=U.set_nil b;exact(h a b c k).mpr (o a b c k)
def gZ{k:Nat->Prop}{r:bt}(x:∀a,f a=ε->a≠e->e≠a->a≠i->i≠a->k a)(o:∀a,f a=ε->a≠e->e≠a->a≠i->i≠a->k0 a=k a:=by intro a b c o d h;exact eI):ji ((f.set e Z).set i r) (bV k0 ()):=λa b=>by
 obtain⟨b,d,h⟩:=U.set_nil b;obtain⟨b,c,p⟩:=U.set_nil b;exact(o a b c p d h).mpr (x a b c p d h)
def cl(c:AC m b5 g f Y)(d:∀a b,Y a b->q a b)(h:Q=oM K b5 g f (bR q ()):=by exact ia)(k:K.p=m:=by rfl):Q:=by subst k;exact h.mpr (ag c d)
def bh(a:AC K.p b5 g f λb c=>c=f/\b=n)(d:Q)(h:q n f=Q:=by exact eI):oM K b5 g f (bR q ()):=ag a λ_ _ a=>by rw[a.1,a.2];exact h.mpr d
theorem nG(c:AC m b5 g f λa b=>b=f/\a=n)(d:b7)(h:Q=oM K b5 g f (bR q ()):=by exact ia)(k:q n f=b7:=by exact ia)(o:K.p=m:=by rfl):Q:=by grind[ag]
theorem gs{c:U->Prop}(b:AC K.p b5 g f λd a=>f.sub a/\d=n)(h:∀a,f.sub a->c a)(k:∀a,f.sub a->q n a=c a:=by intro a b;exact eI):oM K b5 g f (bR q ()):=ag b λ_ a b=>by simp_all
def nH(a:Q=b7:=by first|(simp only[decide_eq_true_eq,decide_eq_false_iff_not,a9M,Bool.not_eq_false',a9d,a8U,Decidable.not_not]<;>rfl)|rfl):Q=b7:=a
def Zo{c:Prop}(k:(I=ζ)=Q:=by exact nH)(o:(I=θ)=b7:=by exact nH)(d:Q->h7=k1:=by intro;first|exact eI|rfl)(h:b7->j7=c:=by intro;first|exact eI|rfl):kF (.v (.bool I)) (cy h7 ()) (cy j7 ())=((Q->k1)/\(b7->c)):=by subst k o;exact propext ⟨λb=>⟨λa=>(d a).mp (b.1 a),λa=>(h a).mp (b.2 a)⟩,λb=>⟨λa=>(d a).mpr (b.1 a),λa=>(h a).mpr (b.2 a)⟩⟩
def Zp{c:Bool}{d:Prop}(o:(I=c)=Q:=by exact nH)(p:(I= !c)=b7:=by exact nH)(h:Q->h7=k1:=by intro;first|exact eI|rfl)(k:b7->j7=d:=by intro;first|exact eI|rfl):hV (.v (.bool I)) c (cy h7 ()) (cy j7 ())=((Q->k1)/\(b7->d)):=by rw[Vb];subst o p;exact propext ⟨λb=>⟨λa=>(h a).mp (b.1 a),λa=>(k a).mp (b.2 a)⟩,λb=>⟨λa=>(h a).mpr (b.1 a),λa=>(k a).mpr (b.2 a)⟩⟩
def aG(a:j7->b7)(b:k1->h7)(c:Q=((j7->b7)/\(k1->h7)):=by first|exact Zo|exact Zp):Q:=c.mpr ⟨a,b⟩
def DP(a:Q:=by first|assumption|(simp only[decide_eq_true_eq,decide_eq_false_iff_not,a9M,Bool.not_eq_false',Decidable.not_not]<;>omega)):Q:=a
def Zq(a:I=true:=by exact DP)(b:Q=b7:=by exact eI):kF (.v (.bool I)) (cy Q ()) (cy h7 ())=b7:=by subst a;exact CT.trans b
def Zr(a:I=false:=by exact DP)(b:Q=b7:=by exact eI):kF (.v (.bool I)) (cy h7 ()) (cy Q ())=b7:=by subst a;exact CU.trans b
def iJ(a:b7)(b:Q=b7:=by first|exact Zq|exact Zr|exact a7P|exact a7Q):Q:=b.mpr a
end
theorem fa{a:List b2}{b:b2}(c:e<α a):a.take (e+1)=a.take e++[a.getD e b]:=by simp_all
abbrev fK(a b:U)(c:Υ)(d:R):Prop:=av a b 1 (c.map ah) d
def oW(b:U)(c:R)(a:Υ):Prop:=bT b 1 c=β (α a,a.map ah)
theorem oW.J{s:U}{a:Υ}{o:Own}:oW s (.J (a.map ah) o) a:=by have b:=y4 (f:=s) (w:=a) (M:=o);exact b
def fK.mA(b:fK s f w n):oW f n w:=by obtain⟨d,a,c,_⟩:=b.src;simp only[a8o,a8Y]at a;subst a;exact c
def av.sub{a b:U}{c:Nat}{d:Ψ}{h:R}(k:av a b c d h):a.sub b:=k.1
section
def DQ(c:fK f s w n)(d:oW s b6 j8)(h:∀b a,fK f a (w++j8) b->f.sub a->Y b a)(o:α w+α j8<=100000000000:=by(try simp only[Ρ,a8m,a8s,a8o, *])<;>omega)
  (k:∀b a,fK f a (w++j8) b->f.sub a->q b a=Y b a:=by intro b s c p;exact eI):jW 1 1 s n b6 (bR q ()):=
 eZ c acq d acr acs acs λb a c=>by rw[<-a9i]at c;exact(k b a c c.sub).mpr (h b a c c.sub)
def nI(c:fK f e5 w n)(d:fK e5 s j8 b6)(h:∀b a,fK f a (w++j8) b->f.sub a->Y b a)(k:α w+α j8<=100000000000:=by(try simp only[Ρ,a8m,a8s,a8o, *])<;>omega)
  (o:∀b a,fK f a (w++j8) b->f.sub a->q b a=Y b a:=by intro b s c p;exact eI):jW 1 1 s n b6 (bR q ()):=DQ (c.mono d.sub) d.mA h k o
def ve(b:Υ)(o:∀c a,fK f a b c->f.sub a->Y c a)(z:g=b.map ah:=by first|rfl|simp)(p:α g<=1000000000000:=by(try simp only[Ρ,a8m,a8s,a8o, *])<;>omega)
  (r:∀c a,fK f a b c->f.sub a->q c a=Y c a:=by intro c f d E;exact eI):oQ 1 f g (bR q ()):=by
 have h:=λc a d=>(r c a d d.sub).mpr (o c a d d.sub);subst z;rw[a8o]at p;by_cases k:b=[]
 .subst k;rw[a9z,nC];exact h _ _ (av.zero η)
 .refine eP (by intro F C;obtain⟨_,_,rfl⟩:=a8D.1 C;rfl) (by simpa using k) λD x=>h _ _ ?_;have y:flat (b.map ah)=b.map ah:=by
   clear h o r k p
   induction b with
   |nil=>rfl
   |cons G b ih=>simp only[a8C,flat,a8I]at ih|-;rw[ih];rfl
  refine⟨κ η x,.inr ⟨D,α b,α b,_,acr,x,μ _ _ _,?_,?_,acr,acq,by simp only[maxLen];omega⟩⟩
  .rw[y];simp
  .rw[y,Ο acr]
def ib{d:R->U->Prop}(c:AC K.p b5 g f q)(h:∀a b,q a b->d a b)(k:∀a b,q a b->Y a b=d a b:=by intro a f c;exact eI):oM K b5 g f (bR Y ()):=ag c λa b c=>(k a b c).mpr (h a b c)
end
section
def yh{c:Nat->Prop}{x y:bt}(z:∀a,f a=ε->a≠e->e≠a->a≠i->i≠a->a≠v->v≠a->c a)(C:∀a,f a=ε->a≠e->e≠a->a≠i->i≠a->a≠v->v≠a->k0 a=c a:=by intros;exact eI):ji (((f.set e Z).set i x).set v y) (bV k0 ()):=λa b=>by
 obtain⟨b,d,h⟩:=U.set_nil b;obtain⟨b,k,o⟩:=U.set_nil b;obtain⟨b,p,r⟩:=U.set_nil b;exact(C a b p r k o d h).mpr (z a b p r k o d h)
def Zs{c:Nat->Prop}{z C D:bt}(E:∀a,f a=ε->a≠e->e≠a->a≠i->i≠a->a≠v->v≠a->a≠O->O≠a->c a)(F:∀a,f a=ε->a≠e->e≠a->a≠i->i≠a->a≠v->v≠a->a≠O->O≠a->k0 a=c a:=by intros;exact eI):ji ((((f.set e Z).set i z).set v C).set O D) (bV k0 ()):=λa b=>by
 obtain⟨b,d,h⟩:=U.set_nil b;obtain⟨b,k,o⟩:=U.set_nil b;obtain⟨b,p,r⟩:=U.set_nil b;obtain⟨b,x,y⟩:=U.set_nil b;exact(F a b x y p r k o d h).mpr (E a b x y p r k o d h)
def ic{v:R}(c:∀a,f a=ε->k0 a)(d:aW e (v::g):=by simp[aW,ρ, *])(h:∀a,f a=ε->q (.J (v::g) (.buf a (v::g).length)) (f.set a (.buf e (v::g).length (v::g).length))=k0 a:=by intros;exact eI):jV e f (v::g) (bR q ()):=by refine⟨d,?_⟩;rw[if_neg acr];intro a b;exact(h a b).mpr (c a b)
def Zt{v:R}(h:∀a,f a=ε->a≠e->e≠a->k0 a)(k:aW i (v::g):=by simp[aW,ρ, *])(o:∀a,f a=ε->a≠e->e≠a->q (.J (v::g) (.buf a (v::g).length)) ((f.set e Z).set a (.buf i (v::g).length (v::g).length))=k0 a:=by intros;exact eI):jV i (f.set e Z) (v::g) (bR q ()):=by refine⟨k,?_⟩;rw[if_neg acr];intro a b;obtain⟨b,c,d⟩:=U.set_nil b;exact(o a b c d).mpr (h a b c d)
def vf{v:R}{c:bt}(p:∀a,f a=ε->a≠e->e≠a->a≠i->i≠a->k0 a)(r:aW O (v::g):=by simp[aW,ρ, *])(x:∀a,f a=ε->a≠e->e≠a->a≠i->i≠a->q (.J (v::g) (.buf a (v::g).length)) (((f.set e Z).set i c).set a (.buf O (v::g).length (v::g).length))=k0 a:=by intros;exact eI):jV O ((f.set e Z).set i c) (v::g) (bR q ()):=by refine⟨r,?_⟩;rw[if_neg acr];intro a b;obtain⟨b,d,h⟩:=U.set_nil b;obtain⟨b,k,o⟩:=U.set_nil b;exact(x a b k o d h).mpr (p a b k o d h)
def Zu{c:Nat}{v:R}{d h k o:bt}(L:∀a,f a=ε->a≠e->e≠a->a≠i->i≠a->a≠O->O≠a->a≠e0->e0≠a->a≠j6->j6≠a->k0 a)(P:aW c (v::g):=by simp[aW,ρ, *])(S:∀a,f a=ε->a≠e->e≠a->a≠i->i≠a->a≠O->O≠a->a≠e0->e0≠a->a≠j6->j6≠a->q (.J (v::g) (.buf a (v::g).length)) ((((((f.set e Z).set i d).set O h).set e0 k).set j6 o).set a (.buf c (v::g).length (v::g).length))=k0 a:=by intros;exact eI):jV c (((((f.set e Z).set i d).set O h).set e0 k).set j6 o) (v::g) (bR q ()):=by refine⟨P,?_⟩;rw[if_neg acr];intro a b;obtain⟨b,p,r⟩:=U.set_nil b;obtain⟨b,x,y⟩:=U.set_nil b;obtain⟨b,z,C⟩:=U.set_nil b;obtain⟨b,D,E⟩:=U.set_nil b;obtain⟨b,F,G⟩:=U.set_nil b;exact(S a b F G D E z C x y p r).mpr (L a b F G D E z C x y p r)
def Zv{d:Nat}{v:R}{c:Nat}{h k o p r:bt}(V:∀a,f a=ε->a≠e->e≠a->a≠i->i≠a->a≠O->O≠a->a≠e0->e0≠a->a≠j6->j6≠a->a≠c->c≠a->k0 a)(W:aW d (v::g):=by simp[aW,ρ, *])(j:∀a,f a=ε->a≠e->e≠a->a≠i->i≠a->a≠O->O≠a->a≠e0->e0≠a->a≠j6->j6≠a->a≠c->c≠a->q (.J (v::g) (.buf a (v::g).length)) (((((((f.set e Z).set i h).set O k).set e0 o).set j6 p).set c r).set a (.buf d (v::g).length (v::g).length))=k0 a:=by intros;exact eI):jV d ((((((f.set e Z).set i h).set O k).set e0 o).set j6 p).set c r) (v::g) (bR q ()):=by refine⟨W,?_⟩;rw[if_neg acr];intro a b;obtain⟨b,x,y⟩:=U.set_nil b;obtain⟨b,z,C⟩:=U.set_nil b;obtain⟨b,D,E⟩:=U.set_nil b;obtain⟨b,F,G⟩:=U.set_nil b;obtain⟨b,L,P⟩:=U.set_nil b;obtain⟨b,S,T⟩:=U.set_nil b;exact(j a b S T L P F G D E z C x y).mpr (V a b S T L P F G D E z C x y)
def mB(a:AC K.p b5 (g++e1++B) f λb c=>c=f/\b=n)(d:Q)(h:fH K.p b5=true:=by kernel_rfl)(k:q n f=Q:=by exact eI):y6 K (.bL b5 g B) e1 f (bR q ()):=
 fm h a λ_ _ a=>by rw[a.1,a.2];exact k.mpr d
end
section
theorem yi{r:dV}{h:Fr}{k:Φ}{x:b2->List (Nat×R)}{y:b2->U->Prop}(z:∀c∈wr j2,c∈k)(D:hv k h j)(o:Φ)(V:o.all (λc=> !k.contains c)=ζ)
  (E:bW K j2 (eY (λa b=>∃C,y C b/\gI a (x C)) e9) j f) (F:∀d b,y d b->∀a,bW K r e9 (gW (gW a (keeps h o)) (x d)) b):bW K j2 (eY (bW K r e9) e9) j f:=by
 refine jl j2 (λG a b p=>?_) j f (oU j2 z j f D E);cases G with
 |norm=>
  obtain⟨⟨d,L,P⟩,S⟩:=p;have T:gI a (keeps h o):=yf λc W=>S c λz=>by
   simp_all
  have:=F d b L a;rw[td T,td P]at this;exact this
 |exit e=>exact p.1
 |ret=>exact p.1
def q1{h:dV}(b:Φ)(k:b2->List (Nat×R))(o:b2->U->Prop)
  (x:bW K j2 (eY (λc a=>∃p,o p a/\gI c (k p)) e9) j f) (d:∀r a,o r a->∀c,bW K h e9 (gW (gW c (keeps j b)) (k r)) a) (y:b.all (λz=> !(wr j2).contains z)=true:=by kernel_rfl):bW K (.seq j2 h) e9 j f:=
 yi (k:=wr j2) (λ_ d=>d) (λ_ _=>rfl) b y x d
def oX{h k:dV}{z:cC (bW K h (eY (bW K j2 e9) e9) j f)}{C:cC (bW K k (eY (bW K j2 e9) e9) j f)}(o:Φ)(p:b2->List (Nat×R))(r:b2->U->Prop)
  (D:I=ζ->bW K h (eY (λc a=>∃d,r d a/\gI c (p d)) e9) j f) (E:I=θ->bW K k (eY (λc a=>∃d,r d a/\gI c (p d)) e9) j f) (b:∀x a,r x a->∀c,bW K j2 e9 (gW (gW c (keeps j o)) (p x)) a) (y:o.all (λI=> !(wr h++wr k).contains I)=true:=by kernel_rfl):
  kF (.v (.bool I)) (cy (bW K h (eY (bW K j2 e9) e9) j f) z) (cy (bW K k (eY (bW K j2 e9) e9) j f) C):=
 ⟨λj2=>yi (λ_ b=>aal _ b) (λ_ _=>rfl) o y (D j2) b,λj2=>yi (λ_ b=>aah _ b) (λ_ _=>rfl) o y (E j2) b⟩
end
def DR(a:Q=b7:=by first|(simp -dsimp -implicitDefEqProofs (disch:=first|omega|assumption|exact U.v7 acu acu|(simp only[aX,Nat.reduceAdd];try omega)) only[Zk,nC,go_sem,simprocAttr,-List.reduceReplicate,↓eQ,v8,uZ, *]<;>rfl)|rfl):Q=b7:=a
def q2(a:e<=i:=by first|omega|((try simp only[Ρ,a8m,a8s,a8o,a8l,a8z, *])<;>omega)):e<=i:=a
def rd(a:f.sub s)(b:f e=β (.cells g)):s.read e=β g:=ι (a _ _ b)
theorem DS{v:R}(b:aW e g)(h:α v.cells=e):aW e (g++[v]):=λc d=>by
 rcases a8u.1 d with a|a
 .exact b c a
 grind
def DT:aW e []:=λ_ a=>by cases a
theorem bf.nJ(r:bf s f e g M):∃d:U,bf d f e g M/\d.sub f/\s.sub d/\∀a,(∀b o,M=.buf b o->b≠a)->d a=f a:=by
 obtain⟨k,h⟩:=r;cases M with
 |buf b o=>
  have p:(f.del b).sub f:=λa M c=>by
   grind[U.iD,U.eO]
  refine⟨f.del b,⟨p,U.iD _ _,h.2⟩,p,λa M c=>?_,λa c=>U.eO _ (Δ (c _ _ rfl))⟩;have x:a≠b:=by rintro rfl;rw[h.1]at c;cases c
  rw[U.eO _ x];exact k _ _ c
 |any=>trivial
 |nil=>exact⟨f,⟨η,h⟩,η,k,λ_ _=>rfl⟩
 |zero=>exact⟨f,⟨η,h⟩,η,k,λ_ _=>rfl⟩
def th{k:cC q}(d:bf s f e g M)(o:aW e g)(p:aW e B)(r:(α g+α B)*i<=140737488355328)(x:α g+α B<=9223372036854775807)
  (y:∀b a,bf s a e (g++B) b->iI f a->q (.J (g++B) b) a):mz e i f (.J g M) (.J B e7) (bR q k):=by
 obtain⟨G,z,L,C,D⟩:=d.nJ;refine dW z o p r x λb a h=>y b a (h.base C) λE P c=>h.sub _ _ ?_;rw[D E (λS T F=>by subst F;rintro rfl;rw[d.2.2]at c;cases c)];exact c
section
def hx{v:R}{k:Nat->R->U->Prop}{o:Nat->Own->U->Prop}(p:bf f s e g M)(y:aW e g)(z:∀a c b,bf f b e (g++[v]) c->iI s b->o a c b)
  (C:Q=jV e s [v] (bR q ()):=by exact ia)
  (D:∀a,s a=ε->q (.J [v] (.buf a 1)) (s.set a (.buf e 1 1))=mz e i (s.set a (.buf e 1 1)) (.J g M) (.J [v] (.buf a 1)) (bR (k a) ()):=by intro a d;exact eI)
  (E:∀a c b,bf f b e (g++[v]) c->k a (.J (g++[v]) c) b=o a c b:=by intro a c b p;exact ia)
  (r:α v.cells=e:=by first|rfl|assumption|simp[ρ, *]) (P:α g<=1000000000:=by exact q2) (F:i<=10000:=by decide):Q:=by
 rw[C];refine⟨λG h=>by rw[a8B.1 h];exact r,?_⟩;rw[if_neg acr];intro a d;refine(D a d).mpr (th (p.mono (κ η d)) y (λG h=>by rw[a8B.1 h];exact r) ?_ ?_ λc b x L=>(E a c b x).mpr (z a c b x ((U.tg (κ η d)).trans L)))
 .exact a8W (ab6 (show α g+1<=1000000001 by omega) F) acv
 .simp;omega
def Zw:aW 1 (w.map ah):=λb a=>by obtain⟨_,_,rfl⟩:=a8D.1 a;rfl
def Zx{d:UInt8}{k:Nat->R->U->Prop}{o:Nat->Own->U->Prop}(p:bf f s 1 (w.map ah) M)(x:∀a c b,bf f b 1 ((w++[d]).map ah) c->iI s b->o a c b)
  (y:Q=jV 1 s [ah d] (bR q ()):=by exact ia)
  (z:∀a,s a=ε->q (.J [ah d] (.buf a 1)) (s.set a (.buf 1 1 1))=mz 1 e (s.set a (.buf 1 1 1)) (.J (w.map ah) M) (.J [ah d] (.buf a 1)) (bR (k a) ()):=by intro a G;exact eI)
  (C:∀a c b,bf f b 1 ((w++[d]).map ah) c->k a (.J ((w++[d]).map ah) c) b=o a c b:=by intro a c b p;exact ia)
  (D:α w<=1000000000:=by exact q2) (E:e<=10000:=by decide):Q:=by
 have r:w.map ah++[ah d]=(w++[d]).map ah:=by rw[a9i];rfl
 refine hx p Zw (λa c b h F=>x a c b (r▸h) F) y z (λa c b h=>?_) rfl (by rw[a8o];exact D) E;rw[r]at h|-;exact C a c b h
def kK{c:Own->U->Prop}(d:bf f s e g M)(k:aW e g)(o:aW e B)(p:∀b a,bf f a e (g++B) b->iI s a->c b a)
  (r:Q=mz e i s (.J g M) (.J B e7) (bR q ()):=by exact ia) (x:∀b a,bf f a e (g++B) b->q (.J (g++B) b) a=c b a:=by intro b a d;exact ia)
  (y:α g+α B<=1000000000:=by exact q2) (z:i<=10000:=by decide):Q:=by
 rw[r];refine th d k o (a8W (ab6 y z) acv) acq λb a h C=>(x b a h).mpr (p b a h C)
def ti{c:Own->U->Prop}(h:aW e g)(k:∀a b,bf f b e g a->c a b)
  (o:Q=mz e i f (.J [] M) (.J g e7) (bR q ()):=by exact DR) (p:M=.nil\/M=.zero:=by first|exact .inl rfl|exact .inr rfl) (r:∀a b,bf f b e g a->q (.J g a) b=c a b:=by intro a b d;exact ia)
  (x:α g<=1000000000:=by exact q2) (y:i<=10000:=by decide):Q:=
 kK (f:=f) (c:=c) (by rcases p with rfl|rfl;exact Ν η;exact bf.zero η) DT h (λa b d _=>k a b d) o r (by simpa using x) y
def ru(c:av f s e B n)(k:bT s e b6=β (v,g))(o:∀a b,av f b e (B++g) a->Y a b)
  (p:Q=jW e i s n b6 (bR q ()):=by exact ia) (r:∀a b,av f b e (B++g) a->q a b=Y a b:=by intro a b c;exact ia)
  (d:0<e:=by decide) (x:α g=v*e:=by first|rfl|omega|simp) (y:α B+α g<=1000000000:=by exact q2) (z:i<=10000:=by decide):Q:=by
 rw[p];refine eZ c d k x (a8W (ab6 y z) (a8W acv (abN _ d))) acq λa b h=>(r a b h).mpr (o a b h)
def vg(c:bT f e n=β (v,g))(d:∀a b,av f b e g a->Y a b)
  (h:Q=jW e i f (.J [] M) n (bR q ()):=by exact DR) (k:M=.nil\/M=.zero:=by first|exact .inl rfl|exact .inr rfl) (o:∀a b,av f b e g a->q a b=Y a b:=by intro a b z;exact ia)
  (p:0<e:=by decide) (r:α g=v*e:=by first|rfl|omega|simp) (x:α g<=1000000000:=by exact q2) (y:i<=10000:=by decide):Q:=
 ru (B:=[]) (f:=f) (by rcases k with rfl|rfl;exact av.nil η;exact av.zero η) c d h o p r (by simpa using x) y
def Zy{v:R}{h k:Nat->R->U->Prop}(o:av f s 1 g n)(r:∀a b c,av f c 1 (g++[v]) b->h a b c)(x:Q=oQ 1 s [v] (bR q ()):=by exact ia)
  (y:∀a,s a=ε->q (.aq a 1 1 1) (s.set a (.cells [v]))=jW 1 e (s.set a (.cells [v])) n (.aq a 1 1 1) (bR (k a) ()):=by intro a d;exact eI)
  (z:∀a b c,av f c 1 (g++[v]) b->k a b c=h a b c:=by intro a b c o;exact ia) (p:v.cells=[v]:=by first|rfl|assumption) (C:α g+1<=1000000000:=by exact q2) (D:e<=10000:=by decide):Q:=by
 have E:flat [v]=[v]:=by simp[flat,p]
 rw[x];refine eP (λG F=>by rw[a8B.1 F,p];rfl) acr λa d=>?_;rw[E];refine(y a d).mpr (ru (o.mono (κ η d)) ?_ (r a) rfl (z a) acv rfl C D);simp[bT,U.read,U.set]
end
end Go.bD
set_option maxRecDepth 100000
namespace Go.Proofs.YtkafjfkjahgihaaGreat
open Go Go.bD
def rotl(a:UInt32)(b:Nat):UInt32:=a<<<UInt32.ofNat b|||a>>>UInt32.ofNat (32 - b)
def Zz(a:Nat)(b:0<a/\a<32):br .and (.int .u64 (IntKind.u64.wrap (-((32 - a:Nat):Int)))) (.int .u64 31)=β (.int .u64 a):=by have c:∀a:Fin 32,0<a.val->IntKind.u64.wrap (π IntKind.u64.bits (IntKind.u64.wrap (-((32 - a.val:Nat))))&&&π IntKind.u64.bits 31).toNat=(a.val):=acv;have:=c ⟨a,b.2⟩ b.1;simp only[br,fB,hR,this];rfl
theorem ZA(c:UInt32)(a:Nat)(d:0<a/\a<32)(b:U):AC γ 216 [.v (.int .u32 c.toNat),.v (.int .i64 (-((32 - a:Nat):Int)))] b λh k=>k=b/\h=.v (.int .u32 (rotl c a).toNat):=by refine bg hm Rk acr ?_;refine aF (Zz a d) ?_;refine⟨b,η,rfl,?_⟩;grind[rotl]
def mC(b:UInt32)(d:Int)(a:Nat)(h:0<a/\a<32)(k:d= -((32 - a:Nat):Int))(c:U):AC γ 216 [.v (.int .u32 b.toNat),.v (.int .i64 d)] c λo p=>p=c/\o=.v (.int .u32 (rotl b a).toNat):=by subst k;exact ZA b a h c
def word(a:Υ)(b:Nat):UInt32:=(a.getD (4*b) 0).toUInt32<<<24|||(a.getD (4*b+1) 0).toUInt32<<<16|||(a.getD (4*b+2) 0).toUInt32<<<8|||(a.getD (4*b+3) 0).toUInt32
def ZB(a:UInt32):UInt32:=rotl a 25^^^rotl a 14^^^a>>>3
def ZC(a:UInt32):UInt32:=rotl a 15^^^rotl a 13^^^a>>>10
def more(a:Χ):Χ:=a++[a.getD (α a - 16) 0+ZB (a.getD (α a - 15) 0)+a.getD (α a - 7) 0+ZC (a.getD (α a - 2) 0)]
def first(a:Υ)(b:Nat):Χ:=(χ b).map (word a)
def grow:Nat->Χ->Χ
 |0,a=>a
 |b+1,a=>grow b (more a)
def sched(a:Υ):Χ:=grow 48 (first a 16)
def er(a:Χ):Ψ:=a.map (λb=>.v (.int .u32 b.toNat))++δ (64 - α a) (.v (.int .u32 0))
def ZD:er []=δ 64 (.v (.int .u32 0)):=by rfl
variable{j1:Χ}
def tj(a:α j1<=64):(er j1).length=64:=by simp[er];omega
variable{e i v O e0 j6:Nat}
theorem yj(a:UInt32)(b:e=α j1)(d:α j1<64):putAt (er j1) e [.v (.int .u32 a.toNat)]=er (j1++[a]):=by subst b;have c:64 - α j1=(64 -(α j1+1))+1:=acq;simp only[putAt,er,c,aan];grind
theorem lF(a:e<α j1):aQ θ 1 ((er j1).drop e)=.v (.int .u32 (j1.getD e 0).toNat):=by grind[aQ,er,List.map_drop,Θ,List.getD]
theorem ZE(c:Υ)(V:Own)(i:α c=64)(D:U):AC γ 214 [.J (c.map ah) V] D λj r=>r=D/\j=.agg ((sched c).map λP=>.v (.int .u32 P.toNat)):=by
 refine bg hm Rg acr ?_;refine eH ?_;refine aN λF l=>?_;refine eH ?_;refine aN λG S=>?_;obtain⟨s,S⟩:=U.gG S;refine eH ?_;refine cv (λb r=>∃a:Nat,a<=16/\b 0=.J (c.map ah) V/\b 2=.ptr F 0/\b 3=.ptr G 0/\b 10=.v (.int .i64 a)/\r=(D.set F (.cells (δ 64 (.v (.int .u32 0))))).set G (.cells (er (first c a))))
  (λb _=>match b 10 with|.v (.int _ T)=>(16 - T).toNat|_=>0) ⟨0,acq,?_⟩ ?_
 .simp -dsimp -implicitDefEqProofs (disch:=first|omega|assumption|(simp only[aX,Nat.reduceAdd];try omega)) only[go_sem,↓reduceIte,Nat.reduceEqDiff,Nat.reduceAdd,Nat.reduceSub,Nat.reduceMul,Nat.reduceLeDiff,Nat.reduceLT,Int.reduceNeg,Int.reduceToNat,Int.reduceAdd,Int.reduceSub,Int.reduceMul,Int.reduceLT,Int.reduceLE,Int.reduceEq,Int.reduceNe,first,List.range_zero,ZD]
  all_goals (simp)
 .rintro b r⟨a,m,W,d,h,e,rfl⟩;have f:(first c a).length=a:=by simp[first]
  by_cases k:(a:Int)<16
  .have o:(er (first c a)).length=64:=tj acq;have n:(4*(a:Int)).toNat=4*a:=acq;have x:(4*(a:Int)+1).toNat=4*a+1:=acq;have y:(4*(a:Int)+2).toNat=4*a+2:=acq;have z:(4*(a:Int)+3).toNat=4*a+3:=acq;have t:(a:Int).toNat+1<=64:=acq;refine aF (gk @W @d @h @e @k @o @i @n @x @y @z) ?_;rw[yj _ f.symm acq];refine⟨⟨a+1,acq,acr,?_⟩,acq⟩;simp only[first,abS,a9i,a8C,a9z];rfl
  .obtain rfl:a=16:=acq;refine aF (bl @W @d @h @e @k) ?_;refine cv (λb r=>∃(p:Χ)(a:Nat),a<=48/\α p=16+a/\grow (48 - a) p=sched c/\b 2=.ptr F 0/\b 3=.ptr G 0/\b 5=.v (.int .i64 ((16+a:Nat)))/\r=(D.set F (.cells (δ 64 (.v (.int .u32 0))))).set G (.cells (er p)))
    (λb _=>match b 5 with|.v (.int _ T)=>(64 - T).toNat|_=>0) ⟨first c 16,0,acq,f,rfl,?_⟩ ?_
   .simp -dsimp -implicitDefEqProofs (disch:=first|omega|assumption|(simp only[aX,Nat.reduceAdd];try omega)) only[go_sem,↓reduceIte,Nat.reduceEqDiff,Nat.reduceAdd,Nat.reduceSub,Nat.reduceMul,Nat.reduceLeDiff,Nat.reduceLT,Int.reduceNeg,Int.reduceToNat,Int.reduceAdd,Int.reduceSub,Int.reduceMul,Int.reduceLT,Int.reduceLE,Int.reduceEq,Int.reduceNe,d,h,grow];rfl
   .rintro b r⟨p,a,m,L,g,d,h,C,rfl⟩;by_cases k:((16+a:Nat):Int)<64
    .have o:(er p).length=64:=tj acq;have x:(((16+a:Nat):Int) - 15).toNat=a+1:=acq;have y:(((16+a:Nat):Int) - 2).toNat=a+14:=acq;have z:(((16+a:Nat):Int) - 16).toNat=a:=acq;have E:(((16+a:Nat):Int) - 7).toNat=a+9:=acq;refine aF (cj @d @h @C @k @x @y @z @E @o @lF) ?_;refine ag (mC _ _ 25 acv acv _) ?_;rintro _ _⟨rfl,rfl⟩;refine aF (cj @d @h @C @k @x @y @z @E @o @lF) ?_;refine ag (mC _ _ 14 acv acv _) ?_;rintro _ _⟨rfl,rfl⟩;refine aF (cj @d @h @C @k @x @y @z @E @o @lF) ?_;refine ag (mC _ _ 15 acv acv _) ?_;rintro _ _⟨rfl,rfl⟩;refine aF (cj @d @h @C @k @x @y @z @E @o @lF) ?_;refine ag (mC _ _ 13 acv acv _) ?_;rintro _ _⟨rfl,rfl⟩;refine aF (cj @d @h @C @k @x @y @z @E @o @lF) ?_;rw[yj _ L.symm acq];refine⟨⟨_,a+1,acq,by simp[L];omega,?_,?_,rfl⟩,acq⟩
     .rw[<-g,show 48 - a=(48 -(a+1))+1 by omega,grow,more,L];rw[show 16+a - 16=a by omega,show 16+a - 15=a+1 by omega,show 16+a - 7=a+9 by omega,show 16+a - 2=a+14 by omega];rfl
     .simp;omega
    .obtain rfl:a=48:=acq;have o:(er p).length=64:=tj acq;have q:(er p).take 64=p.map λP=>.v (.int .u32 P.toNat):=by grind[er,Γ]
     have u:p=sched c:=g;refine aF (cb @d @h @C @k @o @q @L) ?_;exact⟨D,κ (κ η l) S,rfl,by grind⟩
def wl(a:Χ):Ψ:=a.map λb=>.v (.int .u32 b.toNat)
theorem eR:(wl j1).length=α j1:=by simp[wl]
theorem hy(a:e<α j1):aQ θ 1 ((wl j1).drop e)=.v (.int .u32 (j1.getD e 0).toNat):=by simp only[aQ,wl];simp_all
def q3(a:0<α j1):aQ θ 1 (wl j1)=.v (.int .u32 (j1.getD 0 0).toNat):=hy (e:=0) a
def DU(a:UInt32)(b:e<α j1):putAt (wl j1) e [.v (.int .u32 a.toNat)]=wl (j1.set e a):=by simp only[putAt,wl,a8m,a8s,<-ab8,<-aaV];rw[a9t,if_pos b];simp
def nK:Χ:=[
 0x428a2f98,0x71374491,0xb5c0fbcf,0xe9b5dba5,0x3956c25b,0x59f111f1,0x923f82a4,0xab1c5ed5,
 0xd807aa98,0x12835b01,0x243185be,0x550c7dc3,0x72be5d74,0x80deb1fe,0x9bdc06a7,0xc19bf174,
 0xe49b69c1,0xefbe4786,0x0fc19dc6,0x240ca1cc,0x2de92c6f,0x4a7484aa,0x5cb0a9dc,0x76f988da,
 0x983e5152,0xa831c66d,0xb00327c8,0xbf597fc7,0xc6e00bf3,0xd5a79147,0x06ca6351,0x14292967,
 0x27b70a85,0x2e1b2138,0x4d2c6dfc,0x53380d13,0x650a7354,0x766a0abb,0x81c2c92e,0x92722c85,
 0xa2bfe8a1,0xa81a664b,0xc24b8b70,0xc76c51a3,0xd192e819,0xd6990624,0xf40e3585,0x106aa070,
 0x19a4c116,0x1e376c08,0x2748774c,0x34b0bcb5,0x391c0cb3,0x4ed8aa4a,0x5b9cca4f,0x682e6ff3,
 0x748f82ee,0x78a5636f,0x84c87814,0x8cc70208,0x90befffa,0xa4506ceb,0xbef9a3f7,0xc67178f2]
def gn:Χ:=[0x6a09e667,0xbb67ae85,0x3c6ef372,0xa54ff53a,0x510e527f,0x9b05688c,0x1f83d9ab,0x5be0cd19]
def yk(a:U):AC γ 161 [] a λb c=>c=a/\b=.agg (wl gn):=by refine bg hm PG acr ?_;refine eH ?_;refine aN λh d=>?_;simp -dsimp -implicitDefEqProofs (disch:=first|omega|assumption|(simp only[aX,Nat.reduceAdd];try omega)) only[go_sem,simprocAttr,putAt,List.take,List.drop,δ,a9v,a8y];exact⟨a,κ η d,rfl,rfl⟩
def ZF(a:U):AC γ 215 [] a λb c=>c=a/\b=.agg (wl nK):=by refine bg hm Ri acr ?_;refine eH ?_;refine aN λh d=>?_;simp -dsimp -implicitDefEqProofs (disch:=first|omega|assumption|(simp only[aX,Nat.reduceAdd];try omega)) only[go_sem,simprocAttr,putAt,List.take,List.drop,δ,a9v,a8y];exact⟨a,κ η d,rfl,rfl⟩
def tk(p r:UInt32):Χ->Χ
 |[a,c,d,x,b,h,k,y]=>
  let o:=y+(rotl b 26^^^rotl b 21^^^rotl b 7)+(b&&&h^^^ ~~~b&&&k)+p+r
  let z:=(rotl a 30^^^rotl a 19^^^rotl a 10)+(a&&&c^^^a&&&d^^^c&&&d)
  [o+z,a,c,d,x+o,b,h,k]
 |C=>C
def iK:Χ->Χ->Χ->Χ
 |a::bI,b::ws,v=>iK bI ws (tk a b v)
 |_,_,v=>v
def comp(a:Χ)(b:Υ):Χ:=φ (·+ ·) (iK nK (sched b) a) a
def jY(a:Nat)(v b:Χ):Χ:=φ (·+ ·) (v.take a) (b.take a)++v.drop a
def DV:∀(a:Nat)(b:Χ),(grow a b).length=α b+a
 |0,b=>rfl
 |a+1,b=>by rw[grow,DV a,more];simp;omega
def ZG(a:Υ):(sched a).length=64:=by simp[sched,DV,first]
def ZH(a:Υ)(c:Own)(d:α a=64)(b:U):AC γ 214 [.J (a.map ah) c] b λh k=>k=b/\h=.agg (wl (sched a)):=ZE a c d b
def DW(v b:Χ)(c:α v=8)(d:α b=8)(a:Nat)(h:a<8):
  (jY a v b).length=8/\(jY a v b).set a ((jY a v b).getD a 0+b.getD a 0)=jY (a+1) v b:=by
 match v,c,b,d with
 |[k,o,p,r,x,y,z,C],_,[D,E,F,G,L,P,S,T],_=>rcases(by omega:a=0\/a=1\/a=2\/a=3\/a=4\/a=5\/a=6\/a=7)with rfl|rfl|rfl|rfl|rfl|rfl|rfl|rfl<;>exact⟨rfl,rfl⟩
def ZI(a b:UInt32)(v:Χ)(c:α v=8):(tk a b v).length=8:=by
 match v,c with
 |[d,h,k,o,p,r,x,a],_=>rfl
def DX:∀(a b v:Χ),α v=8->(iK a b v).length=8
 |[],_,v,c=>by trivial
 |_:: _,[],v,c=>by trivial
 |d::a,h::b,v,c=>by rw[iK];exact DX a b _ (ZI d h v c)
theorem DY(b c v:Χ)(a:Nat)(d:a<α b)(h:a<α c):iK (b.drop a) (c.drop a) v=iK (b.drop (a+1)) (c.drop (a+1)) (tk (b.getD a 0) (c.getD a 0) v):=by grind[Θ,iK,List.getD]
theorem ZJ(c x y:Χ)(I:Υ)(K:Own)(t:α c=8)(N:α x=64)(O:α y=64)
  (Q:∀o,AC γ 215 [] o λT p=>p=o/\T=.agg (wl x))
  (X:∀o,AC γ 214 [.J (I.map ah) K] o λT p=>p=o/\T=.agg (wl y)) (o:U):
  AC γ 162 [.agg (wl c),.J (I.map ah) K] o λT p=>p=o/\T=.agg (wl (φ (·+ ·) (iK x y c) c)):=by
 refine bg hm PI acr ?_;have z:(wl c).length=8:=by rw[eR,t]
 have C:(wl x).length=64:=by rw[eR,N]
 have D:(wl y).length=64:=by rw[eR,O]
 refine aF @z ?_;refine aN λW Y=>?_;refine aF @z ?_;refine aN λe u=>?_;obtain⟨l0,u⟩:=U.gG u;refine aF @z ?_;refine ag (X _) ?_;rintro _ _⟨rfl,rfl⟩;refine aF @z ?_;refine ag (Q _) ?_;rintro _ _⟨rfl,rfl⟩;refine aF @z ?_;refine aN λw V=>?_;obtain⟨l1,V⟩:=U.gG V;obtain⟨l2,V⟩:=U.gG V;refine aF @z ?_;refine aN λA S=>?_;obtain⟨l3,S⟩:=U.gG S;obtain⟨l4,S⟩:=U.gG S;obtain⟨l5,S⟩:=U.gG S;refine aF @z ?_;refine aN λf E=>?_;obtain⟨l6,E⟩:=U.gG E;obtain⟨l7,E⟩:=U.gG E;obtain⟨l8,E⟩:=U.gG E;obtain⟨l9,E⟩:=U.gG E;refine aF (aP @z @C @D @Ο.{0}) ?_;refine cv (λb p=>∃(a:Nat)(v:Χ),a<=64/\α v=8/\iK (x.drop a) (y.drop a) v=iK x y c/\b 2=.ptr W 0/\b 4=.ptr e 0/\b 5=.ptr w 0/\b 6=.ptr A 0/\b 7=.ptr f 0/\b 18=.v (.int .i64 a)/\
   p=(((((o.set W (.cells (wl c))).set e (.cells (δ 8 (.v (.int .u32 0))))).set w (.cells (wl y))).set A (.cells (wl x))).set f (.cells (wl v))))
  (λb _=>match b 18 with|.v (.int _ B)=>(64 - B).toNat|_=>0) ⟨0,c,acq,t,rfl,?_⟩ ?_
 .exact rn
  all_goals (trivial)
 .rintro b p⟨a,v,Z,H,k3,d,h,F,G,k,L,rfl⟩;have P:(wl v).length=8:=by rw[eR,H]
  by_cases r:(a:Int)<64
  .obtain⟨g,i,j,l,m,n,q,s,rfl⟩:∃g i j l m n q s,v=[g,i,j,l,m,n,q,s]:=by
    match v,H with
    |[g,i,j,l,m,n,q,s],_=>simp
   refine aF (gl @d @h @F @G @k @L @r @P @C @D @hy @q3 @a8Q.{0} @a8V.{0}) ?_;refine ag (mC _ _ 26 acv acv _) ?_;rintro _ _⟨rfl,rfl⟩;refine aF (gl @d @h @F @G @k @L @r @P @C @D @hy @q3 @a8Q.{0} @a8V.{0}) ?_;refine ag (mC _ _ 21 acv acv _) ?_;rintro _ _⟨rfl,rfl⟩;refine aF (gl @d @h @F @G @k @L @r @P @C @D @hy @q3 @a8Q.{0} @a8V.{0}) ?_;refine ag (mC _ _ 7 acv acv _) ?_;rintro _ _⟨rfl,rfl⟩;refine aF (gl @d @h @F @G @k @L @r @P @C @D @hy @q3 @a8Q.{0} @a8V.{0}) ?_;refine ag (mC _ _ 30 acv acv _) ?_;rintro _ _⟨rfl,rfl⟩;refine aF (gl @d @h @F @G @k @L @r @P @C @D @hy @q3 @a8Q.{0} @a8V.{0}) ?_;refine ag (mC _ _ 19 acv acv _) ?_;rintro _ _⟨rfl,rfl⟩;refine aF (gl @d @h @F @G @k @L @r @P @C @D @hy @q3 @a8Q.{0} @a8V.{0}) ?_;refine ag (mC _ _ 10 acv acv _) ?_;rintro _ _⟨rfl,rfl⟩;simp -dsimp -implicitDefEqProofs (disch:=first|omega|assumption|(simp only[aX,Nat.reduceAdd];try omega)) only[go_sem,↓reduceIte,Nat.reduceEqDiff,Nat.reduceAdd,Nat.reduceSub,Nat.reduceMul,Nat.reduceLeDiff,Nat.reduceLT,Int.reduceNeg,Int.reduceToNat,Int.reduceAdd,Int.reduceSub,Int.reduceMul,Int.reduceLT,Int.reduceLE,Int.reduceEq,Int.reduceNe,d,h,F,G,k,L,r,P,C,D,hy,q3,a8Q,a8V,putAt,List.take,List.drop,δ,a9v,a8y];refine⟨⟨a+1,tk (x.getD a 0) (y.getD a 0) [g,i,j,l,m,n,q,s],acq,rfl,?_,acr,rfl⟩,acq⟩;grind[DY]
  .obtain rfl:a=64:=acq;have k4:iK x y c=v:=by rw[<-k3,a9E acq];rfl
   refine aF (cj @d @h @F @G @k @L @r @P @C @D) ?_;refine cv (λb p=>∃a:Nat,a<=8/\b 2=.ptr W 0/\b 4=.ptr e 0/\b 7=.ptr f 0/\b 108=.v (.int .i64 a)/\
     p=(((((o.set W (.cells (wl c))).set e (.cells (δ 8 (.v (.int .u32 0))))).set w (.cells (wl y))).set A (.cells (wl x))).set f (.cells (wl (jY a v c)))))
    (λb _=>match b 108 with|.v (.int _ B)=>(8 - B).toNat|_=>0) ⟨0,acq,?_⟩ ?_
   .refine aF (aD @d @h @k) ?_;rfl
   .rintro b p⟨a,Z,d,h,k,M,rfl⟩;by_cases r:(a:Int)<8
    .obtain⟨k5,k6⟩:=DW v c H t a acq;have k7:(wl (jY a v c)).length=8:=by rw[eR,k5]
     refine aF (cj @d @h @k @M @r @z @k7 @hy @DU @k6) ?_;grind
    .obtain rfl:a=8:=acq;have k8:jY 8 v c=φ (·+ ·) v c:=by grind[jY,Γ,List.drop_of_length_le]
     have k9:(wl (φ (·+ ·) v c)).length=8:=by rw[eR];simp;omega
     rw[k8];refine aF (cb @d @h @k @M @r @k9 @Ο.{0}) ?_;refine⟨o,?_,rfl,by rw[k4]⟩;exact κ (κ (κ (κ (κ η Y) u) V) S) E
def DZ(b:Χ)(a:Υ)(c:Own)(h:α b=8)(k:α a=64)(d:U):
  AC γ 162 [.agg (wl b),.J (a.map ah) c] d λo p=>p=d/\o=.agg (wl (comp b a)):=
 ZJ b nK (sched a) a c h rfl (ZG a) ZF (ZH a c k) d
def yl(a:Χ)(c:Υ)(b:α a=8):(comp a c).length=8:=by simp[comp,DX _ _ _ b,b]
def bytes(a:Υ)(b:Own):R:=.J (a.map ah) b
def cD(a:Nat):Υ:=[ν (a>>>56),ν (a>>>48),ν (a>>>40),ν (a>>>32),ν (a>>>24),ν (a>>>16),ν (a>>>8),ν (a>>>0)]
theorem E0(b:Nat)(x:U):AC γ 163 [.v (.int .u64 b)] x λC h=>∃c,bf x h 1 ((cD b).map ah) c/\C=.J ((cD b).map ah) c:=by
 refine bg hm PK acr ?_;refine eH ?_;refine cv (λd h=>∃(a:Nat)(c:Own),a<=8/\bf x h 1 (((cD b).take a).map ah) c/\d 0=.v (.int .u64 b)/\d 3=.J (((cD b).take a).map ah) c/\d 4=.v (.int .i64 (56 - 8*(a))))
  (λd _=>match d 4 with|.v (.int _ b)=>(b+8).toNat|_=>0) ⟨0,.nil,acq,bf.Xe η,?_⟩ ?_
 .refine eH ?_;rfl
 .rintro d h⟨a,c,G,y,k,o,p⟩;by_cases r:(0)<=56 - 8*(a:Int)
  .refine aF (bl @k @o @p @r @iH) ?_;refine sT η λL P D=>?_;refine aF (aP @k @o @p @r) ?_;refine xX (y.mono D.sub) (by simp[cD];omega) λE S F=>?_;refine aF (aP @k @o @p @r) ?_;refine⟨⟨a+1,E,acq,?_,?_⟩,acq⟩
   .have z:(cD b).take (a+1)=(cD b).take a++[ν (b>>>(56 - 8*(a:Int)).toNat)]:=by rcases(by omega:a=0\/a=1\/a=2\/a=3\/a=4\/a=5\/a=6\/a=7)with rfl|rfl|rfl|rfl|rfl|rfl|rfl|rfl<;>rfl
    rw[z];exact F
   .have z:(cD b).take (a+1)=(cD b).take a++[ν (b>>>(56 - 8*(a:Int)).toNat)]:=by rcases(by omega:a=0\/a=1\/a=2\/a=3\/a=4\/a=5\/a=6\/a=7)with rfl|rfl|rfl|rfl|rfl|rfl|rfl|rfl<;>rfl
    grind
  .obtain rfl:a=8:=acq;refine aF (aP @k @o @p @r) ?_;exact⟨h,η,c,y,rfl⟩
def q4(b:List (Υ×Own)):Ψ:=b.map λa=>.J (a.1.map ah) a.2
def chunk(a:Υ):Υ:=cD (α a)++a
def preB(a:UInt8)(b:List Υ):Υ:=a::b.flatMap chunk
def ym(a:UInt8):∀b:List Υ,α b<(preB a b).length
 |[]=>by simp[preB]
 |d::c=>by
  have:=ym a c;simp only[preB,a8m,a8I,Ρ,chunk,cD,a8s]at this|-;omega
def E1(b:UInt8)(c:List (Υ×Own))(p:Own)(S:(preB b (c.map (·.1))).length<=70368744177664)(G:U):
  AC γ 96 [.v (.int .u8 b.toNat),.J (q4 c) p] G λT r=>∃p,bf G r 1 ((preB b (c.map (·.1))).map ah) p/\T=.J ((preB b (c.map (·.1))).map ah) p:=by
 refine bg hm NN acr ?_;refine eH ?_;refine sT η λV n W=>?_;refine eH ?_;refine cv (λh r=>∃(a k:List (Υ×Own))(E:Own),c=a++k/\bf G r 1 ((preB b (a.map (·.1))).map ah) E/\h 5=.J ((preB b (a.map (·.1))).map ah) E/\h 10=.J (q4 c) p/\h 11=.v (.int .i64 (α c))/\h 12=.v (.int .i64 (α a)))
  (λh _=>match h 12 with|.v (.int _ e)=>(α c - e).toNat|_=>0) ⟨[],c,V,rfl,W,?_⟩ ?_
 .refine eH ?_;exact⟨rfl,by simp[q4]⟩
 .rintro h r⟨a,k,E,rfl,L,x,y,z,C⟩;cases k with
  |nil=>have o:¬(α a:Int)<((a++[]).length):=acr;refine aF (bl @x @y @z @C @o) ?_;simp only[a9p]at*;exact⟨r,η,E,L,rfl⟩
  |cons f k=>
   obtain⟨d,D⟩:=f;have o:(α a:Int)<((a++(d,D)::k).length):=acs;have F:(q4 (a++(d,D)::k))[α a]?=β (.J (d.map ah) D):=by simp[q4]
   have q:(preB b (a.map (·.1))).length+8+α d<=70368744177664:=by refine a8W ?_ S;simp[preB,chunk,cD];omega
   have g:=ym b (a.map (·.1));rw[a8o]at g;refine aF (cb @x @y @z @C @o @F @hX) ?_;refine ag (E0 (α d) _) ?_;rintro _ s⟨t,i,rfl⟩;refine aF (cb @x @y @z @C @o @F @hX) ?_;refine nA (L.mono i.sub) ?_ λu v j=>?_
   .simp only[cD,a8m,a8s];omega
   refine aF (cb @x @y @z @C @o @F @hX) ?_;refine nA j ?_ λl w P=>?_
   .simp only[cD,Ρ,a8m,a8s];omega
   refine aF (cb @x @y @z @C @o @F @hX) ?_;have m:preB b (a.map (·.1))++cD (α d)++d=preB b ((a++[(d,D)]).map (·.1)):=by simp[preB,chunk]
   rw[m]at P|-;refine⟨⟨a++[(d,D)],k,l,acr,P,rfl,?_⟩,?_⟩
   .simp
   omega
def blocks:Nat->Χ->Υ->Χ
 |0,a,_=>a
 |b+1,a,aO=>blocks b (comp a (aO.take 64)) (aO.drop 64)
def q5:∀(b:Nat)(a:Χ)(aO:Υ),α a=8->(blocks b a aO).length=8
 |0,_,_,c=>c
 |b+1,a,aO,c=>by rw[blocks];exact q5 b _ _ (yl a _ c)
theorem vh:∀(a:Nat)(b:Χ)(aO:Υ),blocks (a+1) b aO=comp (blocks a b aO) ((aO.drop (64*a)).take 64)
 |0,b,aO=>by rfl
 |a+1,b,aO=>by
  rw[blocks,vh a,blocks,a8T];grind
theorem E2:∀(a b:Nat)(c:Χ)(aO:Υ),blocks (a+b) c aO=blocks b (blocks a c aO) (aO.drop (64*a))
 |0,b,c,aO=>by simp[blocks]
 |a+1,b,c,aO=>by
  rw[show a+1+b=(a+b)+1 by omega,blocks,E2 a b,blocks,a8T,show 64+64*a=64*(a+1) by omega]
theorem E3:∀(a:Nat)(b:Χ)(aO c:Υ),64*a<=α aO->blocks a b (aO++c)=blocks a b aO
 |0,_,_,_,_=>rfl
 |a+1,b,aO,c,d=>by
  rw[blocks,blocks,a9O acq,a9P acq];exact E3 a _ _ _ acs
variable{n b6:R}
section
variable{h:Χ}(hh:α h=8)
include hh
def mD:(wl h++[n,b6]).length=10:=by simp[wl,hh]
def rv:(wl h++[n,b6]).drop 9=[b6]:=by rw[show(9)=(wl h).length+1 by rw[eR,hh],<-a8T,aaN];rfl
theorem ry:(wl h++[n,b6]).drop 8=[n,b6]:=by grind[wl,eR,List.drop_left]
theorem rz:(wl h++[n,b6]).take 8=wl h:=by grind[wl,eR,List.take_left]
theorem yn{a:R} :putAt (wl h++[n,b6]) 9 [a]=wl h++[n,a]:=by simp_all [eR,putAt,aaS,Ο]
theorem vi{a:R} :putAt (wl h++[n,b6]) 8 [a]=wl h++[a,b6]:=by simp_all [eR,putAt,a9J]
theorem yo(a:α j1=8):putAt (wl h++[n,b6]) 0 (wl j1)=wl j1++[n,b6]:=by grind[wl,eR,putAt,List.take_append,List.drop_append,List.drop_of_length_le]
end
variable{f s e5:U}{Z:bt}
theorem U.q6(a:f e=β Z):f.set e Z=f:=by grind[U.set]
theorem U.E4{c:bt}(d:(f.set e c).sub s):(f.set e Z).sub (s.set e Z):=λh k a=>by
 rw[U.uP]at a|-;split;simp_all
 .rename_i b;rw[if_neg b]at a;exact d h k (by rw[U.uP,if_neg b];exact a)
theorem ZK(h:Χ)(a:α h=8)(T:∀o,AC γ 161 [] o λV p=>p=o/\V=.agg (wl h))(b:Υ)(W:Own)(s:α b<=70368744177664)(o:U)(k:Nat)(e:o k=β (.cells (wl h++[.J [] .nil,.v (.int .u64 0)]))):
  AC γ 94 [.ptr k 0,.J (b.map ah) W] o λ_ p=>∃r,p=o.set k (.cells (wl (blocks (α b/64) h b)++[.J ((b.drop (64*(α b/64))).map ah) r,.v (.int .u64 (α b))])):=by
 refine bg hm NJ acr ?_;have E:(wl h).length=8:=by rw[eR,a]
 rw[<-U.q6 e];simp -dsimp -implicitDefEqProofs (disch:=first|omega|assumption|(simp only[aX,Nat.reduceAdd];try omega)) only[go_sem,simprocAttr,mD a,rv a,ry a,rz a,yn a,vi a];refine ag (T _) ?_;rintro _ _⟨rfl,rfl⟩;simp -dsimp -implicitDefEqProofs (disch:=first|omega|assumption|(simp only[aX,Nat.reduceAdd];try omega)) only[go_sem,simprocAttr,mD a,rv a,ry a,rz a,yn a,vi a,yo a a,E];refine dD η (by simp[aW]) λt u F=>?_;have G:=F.sub k _ (μ _ _ _);simp -dsimp -implicitDefEqProofs (disch:=first|omega|assumption|(simp only[aX,Nat.reduceAdd];try omega)) only[go_sem,simprocAttr,τ G,ι G,mD a,rv a,ry a,rz a,yn a,vi a,yo a a,E];refine dW F (by simp[aW]) (by simp[aW]) acr acr λv w f=>?_;refine eH ?_;refine nA (w:=[]) f acs λg i L=>?_;have j:=L.sub k _ (μ _ _ _);rw[<-U.q6 j];simp -dsimp -implicitDefEqProofs (disch:=first|omega|assumption|(simp only[aX,Nat.reduceAdd];try omega)) only[go_sem,simprocAttr,abH,a8y];refine cv (λx p=>∃(c:Nat)(r:Own),64*c<=α b/\x 0=.ptr k 0/\x 4=.J ((b.drop (64*c)).map ah) r/\p=i.set k (.cells (wl (blocks c h b)++[.J [] .nil,.v (.int .u64 (α b))])))
  (λx _=>match x 4 with|.J xs _=>α xs|_=>0) ⟨0,g,acq,?_⟩ ?_
 .simp -dsimp -implicitDefEqProofs (disch:=first|omega|assumption|(simp only[aX,Nat.reduceAdd];try omega)) only[go_sem,simprocAttr,abH];rfl
 .rintro x p⟨c,r,A,C,D,rfl⟩;have d:=q5 c h b a;generalize P:blocks c h b=z at*;have B:(wl z).length=8:=by rw[eR,d]
  by_cases y:(64)<=((b.drop (64*c)).length:Int)
  .have l:=y;rw[a8z]at l;simp -dsimp -implicitDefEqProofs (disch:=first|omega|assumption|(simp only[aX,Nat.reduceAdd];try omega)) only[go_sem,simprocAttr,C,D,y,mD d,rz d];have m:((b.drop (64*c)).take (64:Int).toNat).length=64:=acs;refine ag (DZ z _ _ d m _) ?_;rintro _ _⟨rfl,rfl⟩;have S:=yl z ((b.drop (64*c)).take 64) d;have n:(wl (comp z ((b.drop (64*c)).take 64))).length=8:=by rw[eR,S]
   simp -dsimp -implicitDefEqProofs (disch:=first|omega|assumption|(simp only[aX,Nat.reduceAdd];try omega)) only[go_sem,simprocAttr,C,D,y,mD d,yo d S,n];refine⟨⟨c+1,.any,acq,?_,?_⟩,by simp only[a8z];omega⟩;grind[List.drop_drop]
   .rw[vh,P]
  .simp -dsimp -implicitDefEqProofs (disch:=first|omega|assumption|(simp only[aX,Nat.reduceAdd];try omega)) only[go_sem,simprocAttr,C,D,y,mD d,vi d];rw[a8z]at y;have q:α b/64=c:=acq;refine⟨o.set k _,U.E4 L.sub,r,?_⟩;rw[q,P]
def ZL(a:Υ)(d:Own)(h:α a<=70368744177664)(b:U)(c:Nat)(k:b c=β (.cells (wl gn++[.J [] .nil,.v (.int .u64 0)]))):
  AC γ 94 [.ptr c 0,.J (a.map ah) d] b λ_ o=>∃p,o=b.set c (.cells (wl (blocks (α a/64) gn a)++[.J ((a.drop (64*(α a/64))).map ah) p,.v (.int .u64 (α a))])):=
 ZK gn rfl yk a d h b c k
def et(a:Nat):Nat:=(55+64 - a%64)%64
def jo(a:Nat)(b:Υ):Υ:=b++128::δ (et a) 0++cD (8*a)
def yp(a:UInt32):Υ:=[(a>>>24).toUInt8,(a>>>16).toUInt8,(a>>>8).toUInt8,a.toUInt8]
def eu(a:Χ):Υ:=a.flatMap yp
def bo(a:Υ):R:=.agg (a.map ah)
def ie(a:Υ):Ψ:=a.map ah++δ (32 - α a) (.v (.int .u8 0))
variable{w j8:Υ}
def vj(a:α w<=32):(ie w).length=32:=by simp[ie];omega
def yq(a:UInt8)(b:e=α w)(d:α w<32):putAt (ie w) e [.v (.int .u8 a.toNat)]=ie (w++[a]):=by subst b;have c:32 - α w=(32 -(α w+1))+1:=acq;simp only[putAt,ie,c,aan];simp[a9J,ah]
def vk:∀a:Χ,(eu a).length=4*α a
 |[]=>rfl
 |c::b=>by simp only[eu,a8I,Ρ]at*;have:=vk b;simp only[eu]at this;rw[this];simp[yp];omega
theorem ZM(m:Χ)(a13:α m=8)(k8:∀F,AC γ 161 [] F λn p=>p=F/\n=.agg (wl m))(r:Χ)(x:α r=8)(a:Nat)(k:Υ)(H:Own)(a14:a<=70368744177664)(I:α k=a%64)(k9:a=0->r=m)
  (F:U) (S:Nat) (T:F S=β (.cells (wl r++[.J (k.map ah) H,.v (.int .u64 a)]))):
  AC γ 95 [.ptr S 0] F λn p=>p=F/\n=bo (eu (blocks ((jo a k).length/64) r (jo a k))):=by
 refine bg hm NL acr ?_;have K:(wl r).length=8:=by rw[eR,x]
 refine eH ?_;refine aN λG q=>?_;have l0:S≠G:=by rintro rfl;rw[q]at T;cases T
 simp -dsimp -implicitDefEqProofs (disch:=first|omega|assumption|(simp only[aX,Nat.reduceAdd];try omega)) only[go_sem,↓reduceIte,Nat.reduceEqDiff,Nat.reduceAdd,Nat.reduceSub,Nat.reduceMul,Nat.reduceLeDiff,Nat.reduceLT,Int.reduceNeg,Int.reduceToNat,Int.reduceAdd,Int.reduceSub,Int.reduceMul,Int.reduceLT,Int.reduceLE,Int.reduceEq,Int.reduceNe,ι T,mD x,rv x,ry x,rz x];refine aN λL f=>?_;obtain⟨M,f⟩:=U.gG f;have l1:S≠L:=by rintro rfl;rw[f]at T;cases T
 simp -dsimp -implicitDefEqProofs (disch:=first|omega|assumption|(simp only[aX,Nat.reduceAdd];try omega)) only[go_sem,↓reduceIte,Nat.reduceEqDiff,Nat.reduceAdd,Nat.reduceSub,Nat.reduceMul,Nat.reduceLeDiff,Nat.reduceLT,Int.reduceNeg,Int.reduceToNat,Int.reduceAdd,Int.reduceSub,Int.reduceMul,Int.reduceLT,Int.reduceLE,Int.reduceEq,Int.reduceNe,ι T,mD x,rv x,ry x,rz x,K];refine Dj (λb p=>b 0=.ptr S 0/\b 2=.ptr G 0/\b 3=.ptr L 0/\p=(F.set G (.cells (δ 32 (.v (.int .u8 0))))).set L (.cells (wl r))) ?_ ?_ ?_
 .intro N;have l2:a=0:=by simpa using N
  have l3:=k9 l2;subst l3;refine eH ?_;refine ag (k8 _) ?_;rintro _ _⟨rfl,rfl⟩;exact gH @K
 .intro _;exact rn
 .rintro b p⟨z,c,d,rfl⟩;have O:((F.set G (.cells (δ 32 (.v (.int .u8 0))))).set L (.cells (wl r))) S=β (.cells (wl r++[.J (k.map ah) H,.v (.int .u64 a)])):=by rw[ξ _ _ l1,ξ _ _ l0];exact T
  generalize s:((F.set G (.cells (δ 32 (.v (.int .u8 0))))).set L (.cells (wl r)))=l4 at*;refine aF (aD @z @c @d) ?_;refine dD η (by simp[aW]) λa15 a16 Q=>?_;have l5:=Q.sub _ _ O;simp -dsimp -implicitDefEqProofs (disch:=first|omega|assumption|(simp only[aX,Nat.reduceAdd];try omega)) only[go_sem,↓reduceIte,Nat.reduceEqDiff,Nat.reduceAdd,Nat.reduceSub,Nat.reduceMul,Nat.reduceLeDiff,Nat.reduceLT,Int.reduceNeg,Int.reduceToNat,Int.reduceAdd,Int.reduceSub,Int.reduceMul,Int.reduceLT,Int.reduceLE,Int.reduceEq,Int.reduceNe,z,c,d,ι l5,mD x,ry x];refine nA (w:=[]) Q acs λa18 a19 l6=>?_;refine aF (aD @z @c @d) ?_;refine sT (a:=128) η λa27 a29 l7=>?_;refine aF (aD @z @c @d) ?_;refine xX (l6.mono l7.sub) acs λl8 a30 a34=>?_;refine aF (aP @z @c @d @a8y.{0}) ?_;refine cv (λb p=>∃(E:Nat)(V:Own),E<=et a/\b 0=.ptr S 0/\b 2=.ptr G 0/\b 3=.ptr L 0/\b 4=.J ((k++128::δ E 0).map ah) V/\bf l4 p 1 ((k++128::δ E 0).map ah) V)
   (λb _=>match b 4 with|.J xs _=>200 - α xs|_=>0) ⟨0,l8,acq,?_⟩ ?_
  .simp -dsimp -implicitDefEqProofs (disch:=first|omega|assumption|(simp only[aX,Nat.reduceAdd];try omega)) only[go_sem,↓reduceIte,Nat.reduceEqDiff,Nat.reduceAdd,Nat.reduceSub,Nat.reduceMul,Nat.reduceLeDiff,Nat.reduceLT,Int.reduceNeg,Int.reduceToNat,Int.reduceAdd,Int.reduceSub,Int.reduceMul,Int.reduceLT,Int.reduceLE,Int.reduceEq,Int.reduceNe,z,c,d];trivial
  .rintro b p⟨E,V,a36,z,c,d,C,t⟩;have N:et a<=63:=by unfold et;omega
   have X:(k++128::δ E 0).length=a%64+1+E:=by simp[I];omega
   by_cases P:E<et a
   .have l9:¬(((a%64+1+E)%64:Nat):Int)=56:=by unfold et at P;omega
    refine aF (cb @z @c @d @C @X @Dm @l9) ?_;refine sT (a:=0) η λn0 n1 u=>?_;refine aF (aP @z @c @d @C) ?_;refine xX (t.mono u.sub) acq λY v i=>?_;have a38:k++128::δ E 0++[0]=k++128::δ (E+1) 0:=by simp[ac8]
    refine aF (aP @z @c @d @C) ?_;grind
   .obtain rfl:E=et a:=acq;have n2:(((a%64+1+et a)%64:Nat):Int)=56:=by unfold et;omega
    have n3:=t.sub _ _ O;simp -dsimp -implicitDefEqProofs (disch:=first|omega|assumption|(simp only[aX,Nat.reduceAdd];try omega)) only[go_sem,↓reduceIte,Nat.reduceEqDiff,Nat.reduceAdd,Nat.reduceSub,Nat.reduceMul,Nat.reduceLeDiff,Nat.reduceLT,Int.reduceNeg,Int.reduceToNat,Int.reduceAdd,Int.reduceSub,Int.reduceMul,Int.reduceLT,Int.reduceLE,Int.reduceEq,Int.reduceNe,z,c,d,C,X,Dm,n2,ne_eq,not_true_eq_false,ι n3,mD x,rv x];have W:(8)*(a)=((8*a:Nat):Int):=acr;rw[W];refine ag (E0 (8*a) _) ?_;rintro _ n1⟨n0,u,rfl⟩;refine aF (aP @z @c @d @C) ?_;refine nA (t.mono u.sub) (by simp[cD];omega) λY v i=>?_;refine aF (aP @z @c @d @C) ?_;have n4:=i.sub _ _ (by rw[<-s];exact μ _ _ _);have Z:=i.sub _ _ (by rw[<-s,ξ _ _ (Δ M)];exact μ _ _ _);have k3:=ο (by rw[<-s];exact κ (κ η q) f) i.sub;rw[<-U.q6 n4];have n5:k++128::δ (et a) 0++cD (8*a)=jo a k:=rfl;have a42:(jo a k).length=64*((jo a k).length/64):=by
     have:(jo a k).length=a%64+1+et a+8:=by simp[jo,I,cD];omega
     rw[this];unfold et;omega
    rw[n5];generalize jo a k=y at*;refine cv (λb p=>∃(o:Nat)(V:Own),64*o<=α y/\b 2=.ptr G 0/\b 3=.ptr L 0/\b 4=.J ((y.drop (64*o)).map ah) V/\p=v.set L (.cells (wl (blocks o r y))))
     (λb _=>match b 4 with|.J xs _=>α xs|_=>0) ⟨0,Y,acq,?_⟩ ?_
    .refine aF (c2 @c @d) ?_;rfl
    .rintro b p⟨o,V,a43,c,d,C,rfl⟩;have w:=q5 o r y x;have j:(wl (blocks o r y)).length=8:=by rw[eR,w]
     by_cases P:(0)<((y.drop (64*o)).length:Int)
     .have n9:=P;rw[a8z]at n9;have a47:64<=(y.drop (64*o)).length:=by rw[a8z];omega
      refine aF (bx @c @d @C @P @j @Ο.{0}) ?_;have a00:((y.drop (64*o)).take 64).length=64:=acs;refine ag (DZ _ _ _ w a00 _) ?_;rintro _ _⟨rfl,rfl⟩;have a01:=yl (blocks o r y) ((y.drop (64*o)).take 64) w;have a02:(wl (comp (blocks o r y) ((y.drop (64*o)).take 64))).length=8:=by rw[eR,a01]
      refine aF (bl @c @d @C @j @a02) ?_;refine⟨⟨o+1,.any,acq,?_,?_⟩,by simp only[a8z];omega⟩;grind[List.drop_drop]
      .rw[vh]
     .rw[a8z]at P;have a03:o=α y/64:=acq;refine aF (bl @c @d @C @a8z.{0} @P) ?_;rw[<-a03];generalize a48:blocks o r y=D at*;refine aN λA B=>?_;obtain⟨a52,B⟩:=U.gG B;have k4:A≠G:=by grind
      refine aF (bl @c @d @C @j @Ο.{0}) ?_;refine cv (λb p=>∃h:Nat,h<=8/\b 2=.ptr G 0/\b 5=.ptr A 0/\b 50=.agg (wl D)/\b 51=.v (.int .i64 h)/\p=(v.set L (.cells (wl D))).set A (.cells (ie (eu (D.take h)))))
       (λb _=>match b 51 with|.v (.int _ a)=>(8 - a).toNat|_=>0) ⟨0,acq,?_⟩ ?_
      .refine aF (aD @c @d @C) ?_;rfl
      .rintro b p⟨h,a56,c,k5,k6,k7,rfl⟩;have e:(eu (D.take h)).length=4*h:=by rw[vk];simp;omega
       by_cases P:(h:Int)<8
       .have a04:(ie (eu (D.take h))).length=32:=vj acq;have a05:(4*(h:Int)).toNat=4*h:=acq;have a06:(4*(h:Int)+1).toNat=4*h+1:=acq;have a07:(4*(h:Int)+2).toNat=4*h+2:=acq;have a08:(4*(h:Int)+3).toNat=4*h+3:=acq;have a57:∀(g)(l),α g<32->putAt (ie g) (α g) [.v (.int .u8 l.toNat)]=ie (g++[l]):=λg l a09=>yq l rfl a09;simp -dsimp -implicitDefEqProofs (disch:=first|omega|assumption|(simp only[aX,Nat.reduceAdd];try omega)) only[go_sem,↓reduceIte,Nat.reduceEqDiff,Nat.reduceAdd,Nat.reduceSub,Nat.reduceMul,Nat.reduceLeDiff,Nat.reduceLT,Int.reduceNeg,Int.reduceToNat,Int.reduceAdd,Int.reduceSub,Int.reduceMul,Int.reduceLT,Int.reduceLE,Int.reduceEq,Int.reduceNe,c,k5,k6,k7,P,j,hy,a05,a06,a07,a08,yq,vj];refine⟨⟨h+1,acq,acr,?_⟩,acq⟩;grind[eu,yp,List.getD,List.take_succ_eq_append_getElem]
       .obtain rfl:h=8:=acq;have a04:(ie (eu (D.take 8))).length=32:=vj acq;have W:D.take 8=D:=Ο acq;have a10:ie (eu D)=(eu D).map ah:=by rw[W]at e;simp[ie,e]
        have a11:((eu D).map ah).length=32:=by rw[W]at e;simp[e]
        have a61:(eu D).length=32:=by rw[W]at e;exact e
        rw[W,a10];refine aF (lE @c @k5 @k6 @k7 @P @a11 @Ο.{0} (τ Z) (ι Z) @k4 (Δ k4) (Δ M) @rf) ?_;refine⟨F,?_,rfl,rfl⟩;exact κ (κ (κ k3 f) (Ι k3 B)) q
def ZN(b:U):AC γ 93 [] b λc d=>∃a,b a=ε/\c=.ptr a 0/\d=b.set a (.cells (wl gn++[.J [] .nil,.v (.int .u64 0)])):=by refine bg hm NH acr ?_;refine eH ?_;refine ag (yk _) ?_;rintro _ _⟨rfl,rfl⟩;have h:(wl gn).length=8:=rfl;have k:putAt (δ 8 (R.v (Value.int IntKind.u32 0))++[R.J [] Own.nil]++[R.v (Value.int IntKind.u64 0)]) 0 (wl gn)=wl gn++[.J [] .nil,.v (.int .u64 0)]:=rfl;simp -dsimp -implicitDefEqProofs (disch:=first|omega|assumption|(simp only[aX,Nat.reduceAdd];try omega)) only[go_sem,↓reduceIte,Nat.reduceEqDiff,Nat.reduceAdd,Nat.reduceSub,Nat.reduceMul,Nat.reduceLeDiff,Nat.reduceLT,Int.reduceNeg,Int.reduceToNat,Int.reduceAdd,Int.reduceSub,Int.reduceMul,Int.reduceLT,Int.reduceLE,Int.reduceEq,Int.reduceNe,h,k];refine aN λa o=>?_;refine eH ?_;exact⟨_,η,a,o,rfl,rfl⟩
def fo(a:Υ):Υ:=
 eu (blocks ((jo (α a) (a.drop (64*(α a/64)))).length/64) (blocks (α a/64) gn a) (jo (α a) (a.drop (64*(α a/64)))))
def iL(a:Υ):(fo a).length=32:=by rw[fo,vk,q5 _ _ _ (q5 _ _ _ rfl)]
def E5(a:Υ)(c:Own)(d:α a<=70368744177664)(b:U):AC γ 42 [.J (a.map ah) c] b λk o=>o=b/\k=bo (fo a):=by
 refine bg hm Mw acr ?_;refine eH ?_;refine aN λG p=>?_;refine eH ?_;refine ag (ZN _) ?_;rintro _ _⟨h,r,rfl,rfl⟩;obtain⟨x,y⟩:=U.gG r;refine eH ?_;refine ag (ZL a c d _ h (μ _ _ _)) ?_;rintro _ _⟨z,rfl⟩;refine eH ?_;have C:(a.drop (64*(α a/64))).length=α a%64:=acs;refine ag (ZM gn rfl yk (blocks (α a/64) gn a) (q5 _ _ _ rfl) (α a) (a.drop (64*(α a/64))) z d C (λD=>?_) _ h (μ _ _ _)) ?_
 .rw[D];rfl
 rintro _ _⟨rfl,rfl⟩;have E:((fo a).map ah).length=32:=by rw[a8o,iL]
 have L:=iL a;have F:bo (eu (blocks ((jo (α a) (a.drop (64*(α a/64)))).length/64) (blocks (α a/64) gn a) (jo (α a) (a.drop (64*(α a/64))))))=.agg ((fo a).map ah):=rfl;rw[F];generalize fo a=P at*;refine aF (c2 @E (Δ x)) ?_;exact⟨b,κ (κ η p) y,rfl,by rw[Ο acq];rfl⟩
def a7R(a:List Υ):Prop:=∀b∈a,α b=32
def aY:(bo w).cells=w.map ah:=rfl
def aZ(a:α w=32):(.agg ((w.take 32).map ah):R)=bo w:=by rw[Ο (by simp[a])];rfl
def ZO(a:List Υ)(b:Own)(c:List (Υ×Own))(d:Own)(h:Bool):bt:=.cells [.J (a.map bo) b,.J (q4 c) d,.v (.bool h)]
def PS(c:U)(d:Nat)(h k:List Υ)(o:Bool)(p:U):Prop:=
 ∃r b a,a.map (·.1)=k/\bf (c.set d (ZO h r a b o)) p 1 (q4 a) b
def vl:Υ:=δ 32 0
def eX:bt:=.cells (δ 32 (.v (.int .u8 0)))
def ZP(a:Υ):bt:=.cells (a.map ah)
theorem vm(a:bo w=bo j8):w=j8:=by
 have b:w.map ah=j8.map ah:=by simpa[bo] using a
 have c:=congrArg bytesOf b;rw[sq,sq]at c;simp_all
theorem ZQ:peq (.agg (w.map ah)) (.agg (j8.map ah))=decide (w=j8):=by
 by_cases a:w=j8
 .subst a;simp[IT]
 .have:¬peq (.agg (w.map ah)) (.agg (j8.map ah))=true:=λb=>a (vm ((qR _ _).1 b));simp_all
theorem E6(a:α w=32):di [(32,.int .u8)] (w.map ah):=by
 refine⟨by simp[a],?_,?_⟩
 .intro c b;obtain⟨d,_,rfl⟩:=a8D.1 (a8v b);rfl
 .simp only[di];simp_all
variable{I:Bool}
def q7{a:R->Prop}(b:α w=32)(c:α j8=32):uR I [(32,.int .u8)] (bo w) (bo j8) a=a (.v (.bool (xor I (decide (w=j8))))):=by have d:=E6 b;have h:=E6 c;show(di _ _/\di _ _/\a (.v (.bool (xor I (peq (.agg (w.map ah)) (.agg (j8.map ah)))))))= _;rw[ZQ];simp[d,h]
end Go.Proofs.YtkafjfkjahgihaaGreat
set_option maxHeartbeats 1000000
namespace Go.Proofs.YtkafjfkjahgihaaGreat
open Go Go.bD
structure BF where
 x:Υ
 y:Υ
 cM:List Υ
 tl:List Υ
 ig:Bool
end Go.Proofs.YtkafjfkjahgihaaGreat
set_option maxHeartbeats 1000000
namespace Go.Proofs.YtkafjfkjahgihaaGreat
open Go Go.bD
def vn(a:Υ)(b:Own):bt:=.cells [.J (a.map ah) b,.v (.int .i64 0)]
def cz(c:U)(d:Nat)(a:Υ)(h:U):Prop:=∃b,bf (c.set d (vn a b)) h 1 (a.map ah) b
def vo(h k:U)(d:Nat)(a b:Υ)(y:Own)(c:cz h d a k)(D:α a+α b<=70368744177664):
  AC γ 98 [.ptr d 0,.v (.bool ζ),.J (b.map ah) y] k λ_ z=>cz h d (a++b) z:=by
 obtain⟨E,c⟩:=c;have C:=c.sub _ _ (μ _ _ _);refine bg hm NR acr ?_;refine aF (aP @a9d (ι C) @aY @aZ) ?_;refine nA c acq λo F p=>?_;have r:=p.sub _ _ (μ _ _ _);refine aF (aP (ι r) (τ r) @aY @aZ) ?_;have x:=p.set (ob:=vn (a++b) o) (μ _ _ _);rw[ς]at x;exact⟨_,η,o,x⟩
def nL(c k:U)(a:Nat)(b:Υ)(d:UInt8)(h:cz c a b k)(o:α b+1<=70368744177664):
  AC γ 45 [.ptr a 0,.v (.int .u8 d.toNat)] k λ_ p=>cz c a (b++[d]) p:=by
 refine bg hm MC acr ?_;refine aF (c2 @aY @aZ) ?_;refine sT η λr x y=>?_;refine aF (c2 @aY @aZ) ?_;obtain⟨z,h⟩:=h;refine ag (vo c x a b [d] r ⟨z,h.mono y.sub⟩ o) ?_;intro E C D;refine aF (c2 @aY @aZ) ?_;exact⟨C,η,D⟩
def cq(a:Int):Nat:=(π 64 a^^^π 64 9223372036854775808).toNat
def ij(a:Int):Υ:=cD (cq a)
theorem E7(a:Int):br .xor (.int .u64 (IntKind.u64.wrap a)) (.int .u64 9223372036854775808)=β (.int .u64 (cq a)):=by
 have b:π 64 (IntKind.u64.wrap a)=π 64 a:=by rw[kG];apply BitVec.eq_of_toInt_eq;grind
 have c:br .xor (.int .u64 (IntKind.u64.wrap a)) (.int .u64 9223372036854775808)=β (.int .u64 (IntKind.u64.wrap (π 64 (IntKind.u64.wrap a)^^^π 64 9223372036854775808).toNat)):=rfl;rw[c,b];have d:=(π 64 a^^^π 64 9223372036854775808).isLt;rw[wrap_u64 acq acq];rfl
theorem ZR(o C:U)(b:Nat)(p:Υ)(h:Int)(E:cz o b p C)(G:α p+8<=70368744177664):
  AC γ 166 [.ptr b 0,.v (.int .i64 h)] C λ_ c=>cz o b (p++ij h) c:=by
 refine bg hm PR acr ?_;refine aF (aD @E7 @aY @aZ) ?_;generalize F:cq h=k;refine cv (λd c=>∃a:Nat,a<=8/\cz o b (p++(cD k).take a) c/\d 0=.ptr b 0/\d 4=.v (.int .u64 k)/\d 5=.v (.int .i64 (56 - 8*(a))))
  (λd _=>match d 5 with|.v (.int _ h)=>(h+8).toNat|_=>0) ⟨0,acq,by simpa using E,?_⟩ ?_
 .exact gH (c2 @aY @aZ)
 .rintro d c⟨a,L,D,r,x,y⟩;by_cases z:(0)<=56 - 8*(a:Int)
  .refine aF (cb @r @x @y @z @iH @aY @aZ) ?_;refine ag (nL o c b _ _ D ?_) ?_
   .simp;omega
   intro P S T;refine aF (bx @r @x @y @z @aY @aZ) ?_;refine⟨⟨a+1,acq,?_,acs⟩,acq⟩;have V:(cD k).take (a+1)=(cD k).take a++[ν (k>>>(56 - 8*(a:Int)).toNat)]:=by rcases(by omega:a=0\/a=1\/a=2\/a=3\/a=4\/a=5\/a=6\/a=7)with rfl|rfl|rfl|rfl|rfl|rfl|rfl|rfl<;>rfl
   grind
  .obtain rfl:a=8:=acq;refine aF (bx @r @x @y @z @aY @aZ) ?_;refine⟨c,η,?_⟩;rw[ij,F];exact D
end Go.Proofs.YtkafjfkjahgihaaGreat
namespace Go.bD
open Go
def E8(a:Bool)(c:R)(b:R->Prop):Prop:=
 match c with
 |.J xs d=>match d with
  |.nil=>b (.v (.bool (!a)))
  |.buf _ _=>b (.v (.bool a))
  |_=>(xs=[]->b (.v (.bool (!a))))/\b (.v (.bool a))
 |.aq _ _ _ _=>b (.v (.bool a))
 |_=>False
variable{q Y:R -> U -> Prop}{I:Bool}{K:Ctx}{j:Fr}{f s e5:U}{N e4:Operand}
def mE:G K (.nk I N) j f q=E8 I (ak j N) (bV (λa=>q a f) ()):=rfl
variable{g B e1:Ψ}{M e7 j0:Own}
def mF{a:R->Prop}{b:cC a}(c:M=.nil->g=[])(d:g=[]->a (.v (.bool (!I))))(h:a (.v (.bool I))):E8 I (.J g M) (bV a b):=by
 cases M with
 |nil=>exact d (c rfl)
 |buf k o=>exact h
 |any=>trivial
 |zero=>trivial
end Go.bD
namespace Go.Proofs.YtkafjfkjahgihaaGreat
open Go Go.bD
def yr(a:Υ)(d:Own)(b:U)(k:d=.nil->a=[])(C:α a<=70368744177664):
  AC γ 102 [.J (a.map ah) d] b λo p=>∃h,bf b p 1 (a.map ah) h/\o=.J (a.map ah) h:=by
 refine bg hm NZ acr ?_;simp -dsimp -implicitDefEqProofs (disch:=first|omega|assumption|(simp only[aX,Nat.reduceAdd];try omega)) only[go_sem,simprocAttr,aY,aZ,↓mE];refine mF (λc=>by rw[k c];rfl) (λc=>?_) ?_
 .have r:a=[]:=by simpa using c
  subst r;refine aF (aD @a8U @aY @aZ) ?_;exact⟨b,η,.nil,Ν η,rfl⟩
 .refine aF (c2 @aY @aZ) ?_;refine dD η (by simp[aW]) λD E x=>?_;refine aF (c2 @aY @aZ) ?_;refine nA (w:=[]) x acs λy z F=>?_;refine aF (aD @a8y.{0} @aY @aZ) ?_;exact⟨z,η,y,by trivial,rfl⟩
def ZS(k b:U)(d:Nat)(a:Υ)(c:cz k d a b)(o:α a<=70368744177664):
  AC γ 48 [.ptr d 0] b λp r=>∃h,bf b r 1 (a.map ah) h/\p=.J (a.map ah) h:=by
 obtain⟨x,c⟩:=c;have y:=c.sub _ _ (μ _ _ _);refine bg hm CC acr ?_;refine aF (aD (ι y) @aY @aZ) ?_;refine ag (yr a x b (λz=>?_) o) ?_
 .subst z;have:=c.2;simpa using this
 rintro _ C⟨D,E,rfl⟩;refine aF (c2 @aY @aZ) ?_;exact⟨C,η,D,E,rfl⟩
end Go.Proofs.YtkafjfkjahgihaaGreat
namespace Go.bD
open Go
end Go.bD
namespace Go.Proofs.YtkafjfkjahgihaaGreat
open Go Go.bD
def ys(a:Int)(b c:Υ):Ψ:=.v (.int .i64 a)::(b.map ah++c.map ah)
def ZT(a:Int)(b c:Υ):R:=.agg (ys a b c)
def ZU(a:Int)(b c:Υ):Υ:=preB 68 [ij a,b,c]
end Go.Proofs.YtkafjfkjahgihaaGreat
namespace Go.bD
open Go
variable{f s e5:U}{g B e1:Ψ}{e i v O e0 j6:Nat}
def ZV(a:α g=e):sV 1 e (f.set i (.ro g)) (.ptr i 0)=β (.J g .any):=Xh (μ _ _ _) a
end Go.bD
namespace Go.Proofs.YtkafjfkjahgihaaGreat
open Go Go.bD
structure iM where
 n:Int
 h:Υ
 d:Υ
 deriving DecidableEq
def iM.ok(a:iM):Prop:=α a.h=32/\α a.d=32
def iM.C(a:iM):Ψ:=ys a.n a.h a.d
def iM.V(a:iM):R:=ZT a.n a.h a.d
def iM.sum(a:iM):Υ:=fo (ZU a.n a.h a.d)
def cz.mono{b c d:U}{h:Nat}{k:Υ}(a:cz b h k c)(o:c.sub d):cz b h k d:=by obtain⟨p,a⟩:=a;exact⟨p,a.mono o⟩
def cz.sub{a c:U}{d:Nat}{h:Υ}(b:cz a d h c)(k:a d=ε):a.sub c:=by obtain⟨o,b⟩:=b;exact ο (κ η k) b.sub
theorem cz.base{b c d:U}{h:Nat}{k:Υ}(a:cz b h k d)(o:c.sub b):cz c h k d:=by obtain⟨p,a⟩:=a;exact⟨p,a.base (U.lD o)⟩
variable{f s e5:U}{w j8:Υ}{e i v O e0 j6:Nat}
def cz.cell(a:cz s e w f):∃b,f e=β (vn w b):=by obtain⟨b,a⟩:=a;exact⟨b,a.sub _ _ (μ _ _ _)⟩
def cz.new{d h:U}{c a:Nat}{p:Υ}{ob:bt}(b:cz d c p h)(k:h a=ε):a≠c/\d a=ε/\cz (d.set a ob) c p (h.set a ob):=by
 obtain⟨r,x⟩:=b.cell;have o:a≠c:=by rintro rfl;rw[k]at x;cases x
 obtain⟨r,b⟩:=b;have y:=Ι b.sub k;rw[ξ _ _ o]at y;refine⟨o,y,r,?_⟩;rw[U.dL _ o];exact b.new k
variable{Z:bt}
def cz.get(a:cz f i w s)(b:e≠i)(c:f e=β Z):s e=β Z:=by obtain⟨d,a⟩:=a;exact a.sub _ _ (by rw[ξ _ _ b];exact c)
def E9(d h:U)(a:Nat)(b c:Υ)(k:α c=32)(o:cz d a b h)(y:α b+32<=70368744177664):
  AC γ 100 [.ptr a 0,bo c] h λ_ p=>cz d a (b++c) p:=by
 refine bg hm NV acr ?_;refine aF (aD @k @aY @aZ) ?_;refine aN λz r=>?_;refine aF (aP @k @ZV @aY @aZ) ?_;refine ag (vo d _ a b c .any (o.mono (κ η r)) acq) ?_;intro C D x;refine aF (c2 @aY @aZ) ?_;exact⟨_,η,x⟩
def Ea(a:Int):(ij a).length=8:=rfl
structure Rd where
 b:Υ
 e:Int
def ha(a:Rd)(b:Own):bt:=.cells [.J (a.b.map ah) b,.v (.int .i64 a.e)]
def bP(a:U)(b:Nat)(c:Rd)(d:U):Prop:=∃h,(a.set b (ha c h)).sub d
def bP.cell{a:Rd}(b:bP s e a f):∃c,f e=β (.cells [.J (a.b.map ah) c,.v (.int .i64 a.e)]):=by obtain⟨c,b⟩:=b;exact⟨c,b _ _ (μ _ _ _)⟩
def bP.mono{b:Rd}(a:bP f e b s)(c:s.sub e5):bP f e b e5:=by obtain⟨d,a⟩:=a;exact⟨d,ο a c⟩
theorem bP.base{b:Rd}(a:bP f e b e5)(c:s.sub f):bP s e b e5:=by obtain⟨d,a⟩:=a;exact⟨d,ο (U.lD c) a⟩
theorem bP.set{c d:U}{a:Nat}{o:Rd}(b:bP c a o d)(h:Rd)(k:Own):bP c a h (d.set a (ha h k)):=by obtain⟨p,b⟩:=b;exact⟨k,U.E4 b⟩
def bP.get{b:Rd}(a:bP f i b s)(c:e≠i)(d:f e=β Z):s e=β Z:=by obtain⟨h,a⟩:=a;exact a _ _ (by rw[ξ _ _ c];exact d)
def bP.new{c:Rd}{ob:bt}(a:bP f i c s)(d:s e=ε):e≠i/\f e=ε/\bP (f.set e ob) i c (s.set e ob):=by
 obtain⟨h,k⟩:=a.cell;have b:e≠i:=by rintro rfl;rw[d]at k;cases k
 obtain⟨h,a⟩:=a;have o:=Ι a d;rw[ξ _ _ b]at o;refine⟨b,o,h,?_⟩;rw[U.dL _ b];exact U.lD a
def bP.other{b:Rd}{ob:bt}(a:bP f e b s)(c:i≠e):bP (f.set i ob) e b (s.set i ob):=by obtain⟨d,a⟩:=a;refine⟨d,?_⟩;rw[U.dL _ c];exact U.lD a
def yt(a:Υ)(c:Own)(b:U)(p:c=.nil->a=[])(r:α a<=70368744177664):
  AC γ 84 [.J (a.map ah) c] b λx y=>∃d,b d=ε/\x=.ptr d 0/\bP b d ⟨a,0⟩ y:=by
 refine bg hm Np acr ?_;refine aF (c2 @aY @aZ) ?_;refine ag (yr a c b p r) ?_;rintro _ D⟨h,k,rfl⟩;have o:putAt [R.J [] Own.nil,R.v (Value.int IntKind.i64 0)] 0 [R.J (a.map ah) h]=[R.J (a.map ah) h,R.v (Value.int IntKind.i64 0)]:=rfl;refine aF (aD @o @aY @aZ) ?_;refine aN λz C=>?_;refine aF (aD @o @aY @aZ) ?_;exact⟨_,η,z,Ι k.sub C,rfl,h,U.lD k.sub⟩
def mG(a:Rd)(e:Int):Rd:=if a.e=0 then {a with e:=e}else a
variable{n b6:R}
def ZW{a:R}:putAt [n,a] 1 [b6]=[n,b6]:=rfl
def ZX{a:R}:putAt [a,n] 0 [b6]=[b6,n]:=rfl
def tm(k o:U)(c:Nat)(a:Rd)(e:Int)(d:bP k c a o):
  AC γ 157 [.ptr c 0,.v (.int .i64 e)] o λ_ p=>bP k c (mG a e) p:=by
 obtain⟨r,h⟩:=d.cell;refine bg hm Py acr ?_;by_cases b:a.e=0
 .refine aF (bx (ι h) (τ h) @b @ZW @aY @aZ) ?_;refine⟨_,η,?_⟩;rw[mG,if_pos b];exact d.set {a with e:=e} r
 .refine aF (aP (ι h) @b @aY @aZ) ?_;refine⟨_,η,?_⟩;rw[mG,if_neg b];exact d
def dr(a:Rd)(c:Nat):Option Υ×Rd:=
 if a.e=0 then(if α a.b<c then(ε,{a with e:=20})else(β (a.b.take c),{a with b:=a.b.drop c}))else(ε,a)
def Eb(p r:U)(k:Nat)(a:Rd)(c:Nat)(F:c<=100000000)(h:bP p k a r):
  AC γ 154 [.ptr k 0,.v (.int .i64 c)] r λC D=>bP p k (dr a c).2 D/\
   (∃x,(x=.nil->(dr a c).1.getD []=[])/\C=.aJ [.J (((dr a c).1.getD []).map ah) x,.v (.bool (dr a c).1.isSome)]):=by
 obtain⟨x,o⟩:=h.cell;refine bg hm Pt acr ?_;by_cases d:a.e=0
 .by_cases c2:α a.b<c
  .have y:(α a.b:Int)<c:=acq;have e:dr a c=(ε,{a with e:=20}):=by rw[dr,if_pos d,if_pos c2]
   rw[e];refine aF (bl (ι o) @d @y @aY @aZ) ?_;refine ag (tm p r k a 20 h) ?_;intro C G z;rw[mG,if_pos d]at z;obtain⟨L,E⟩:=z.cell;refine aF (aD (ι E) @aY @aZ) ?_;exact⟨_,η,z,.nil,λ_=>rfl,rfl⟩
  .have y:¬(α a.b:Int)<c:=acq;have e:dr a c=(β (a.b.take c),{a with b:=a.b.drop c}):=by rw[dr,if_pos d,if_neg c2]
   rw[e];refine aF (cb (ι o) (τ o) @d @y @ZX @aY @aZ) ?_;exact⟨_,η,h.set ⟨a.b.drop c,0⟩ .any,.any,(λh=>by cases h),rfl⟩
 .have e:dr a c=(ε,a):=by rw[dr,if_neg d]
  rw[e];refine aF (aP (ι o) @d @aY @aZ) ?_;exact⟨_,η,h,.nil,λ_=>rfl,rfl⟩
def vp(d h:U)(c:Nat)(b:Rd)(a:Nat)(o:a<=100000000)(p:bP d c b h):
  AC γ 154 [.ptr c 0,.v (.int .i64 a)] h λr x=>bP d c (dr b a).2 x/\
   (∃k,r=.aJ [.J (((dr b a).1.getD []).map ah) k,.v (.bool (dr b a).1.isSome)]):=
 (Eb d h c b a o p).mono λ_ _ ⟨y,k,_,z⟩=>⟨y,k,z⟩
def cP(a:Rd):UInt8×Rd:=((dr a 1).1.getD []|>.headD 0,(dr a 1).2)
theorem q8{a:Rd}(b:(dr a e).1=β w):α w=e:=by grind[dr,Option.some.injEq,List.length_take]
def nN(c d:U)(b:Nat)(a:Rd)(r:bP c b a d):
  AC γ 85 [.ptr b 0] d λk x=>bP c b (cP a).2 x/\k=.v (.int .u8 (cP a).1.toNat):=by
 refine bg hm Nr acr ?_;refine aF (c2 @aY @aZ) ?_;refine ag (vp c d b a 1 acq r) ?_;rintro k C⟨o,D,rfl⟩;unfold cP;have h:=λaO=>q8 (a:=a) (e:=1) (w:=aO);generalize dr a 1=y at*;obtain⟨aO,E⟩:=y;cases aO with
 |none=>simp only[aa5,abb]at*;refine aF (c2 @aY @aZ) ?_;exact⟨_,η,o,rfl⟩
 |some aO=>
  simp only[aau,a9W]at*;have h:=h aO rfl
  match aO,h with
  |[p],_=>have z:eG 1 (β (ah p))=β (.bZ [.v (.int .u8 p.toNat)]):=rfl;simp -dsimp -implicitDefEqProofs (disch:=first|omega|assumption|(simp only[aX,Nat.reduceAdd];try omega)) only[hX,z,go_sem,↓reduceIte,Nat.reduceEqDiff,Nat.reduceAdd,Nat.reduceSub,Nat.reduceMul,Nat.reduceLeDiff,Nat.reduceLT,Int.reduceNeg,Int.reduceToNat,Int.reduceAdd,Int.reduceSub,Int.reduceMul,Int.reduceLT,Int.reduceLE,Int.reduceEq,Int.reduceNe,aY,aZ,List.headD_cons];exact⟨_,η,o⟩
def fs(a:Υ):Nat:=a.foldl (λb c=>b*256+c.toNat) 0
def iN(a:Rd):Int×Rd:=
 match(dr a 8).1 with
 |none=>(0,(dr a 8).2)
 |some aO=>((BitVec.ofNat 64 (fs aO)^^^9223372036854775808#64).toInt,(dr a 8).2)
def Ec:∀(aO:Υ)(a:Nat),aO.foldl (λa b=>a*256+b.toNat) a+1<=(a+1)*256^α aO
 |[],a=>by simp
 |b::aO,a=>by
  have c:=Ec aO (a*256+b.toNat);have d:=b.toNat_lt;rw[a9e,a8m,abI];refine a8W c ?_;rw[acj (256^α aO) 256,<-Nat.mul_assoc];exact a8x _ acq
def Ed(a:Υ):fs a<256^α a:=by have:=Ec a 0;rw[fs];omega
def ZY(a:Υ)(b:Nat)(c:b<α a):fs (a.take (b+1))=fs (a.take b)*256+(a.getD b 0).toNat:=by rw[ac2,Μ c,fs,aaa];simp[fs,c]
theorem ZZ(a b:Nat)(c:a<18446744073709551616)(d:b<18446744073709551616):br .or (.int .u64 a) (.int .u64 b)=β (.int .u64 ((a|||b:Nat):Int)):=by have h:br .or (.int .u64 a) (.int .u64 b)=β (.int .u64 (IntKind.u64.wrap (π 64 (a)|||π 64 (b)).toNat)):=rfl;have k:=(π 64 (a)|||π 64 (b)).isLt;grind[wrap_u64,BitVec.toNat_or,BitVec.toNat_ofNat,Nat.mod_eq_of_lt]
def Ee(a b:Nat)(d:b<256):a*256|||b=a*256+b:=by have c:=aaK (i:=8) acq a;rw[aaq]at c;exact c.symm
def a0a(a:Nat)(c:a<72057594037927936):br .shl (.int .u64 a) (.int .u64 8)=β (.int .u64 ((a*256:Nat):Int)):=by have b:br .shl (.int .u64 a) (.int .u64 8)=β (.int .u64 (IntKind.u64.wrap ((a)*2^8))):=rfl;rw[b,wrap_u64 acq acq];simp
theorem a0b(a:Nat)(b:a<18446744073709551616):br .xor (.int .u64 a) (.int .u64 9223372036854775808)=β (.int .u64 ((BitVec.ofNat 64 a^^^9223372036854775808#64).toNat:Int)):=by have c:br .xor (.int .u64 a) (.int .u64 9223372036854775808)=β (.int .u64 (IntKind.u64.wrap (π 64 (a)^^^π 64 9223372036854775808).toNat)):=rfl;grind[BitVec.ofNat,π,wrap_u64]
def a0c(a:BitVec 64):IntKind.i64.wrap (a.toNat:Int)=a.toInt:=by have b:((2:Int)^IntKind.i64.bits)=18446744073709551616:=rfl;have c:((2:Int)^(IntKind.i64.bits - 1))=9223372036854775808:=rfl;have d:=a.isLt;simp only[IntKind.wrap,b,c,IntKind.signed,a9N,decide_eq_true_eq,BitVec.toInt_eq_toNat_cond];omega
theorem a0d(k o:U)(h:Nat)(c:Rd)(S:bP k h c o):
  AC γ 275 [.ptr h 0] o λy p=>bP k h (iN c).2 p/\y=.v (.int .i64 (iN c).1):=by
 refine bg hm SH acr ?_;refine aF (c2 @aY @aZ) ?_;refine ag (vp k o h c 8 acq S) ?_;rintro y T⟨z,V,rfl⟩;unfold iN;have C:=λaO=>q8 (a:=c) (e:=8) (w:=aO);generalize dr c 8=W at*;obtain⟨aO,n⟩:=W;cases aO with
 |none=>simp only[aa5,abb]at*;refine aF (c2 @aY @aZ) ?_;exact⟨_,η,z⟩
 |some aO=>
  simp only[aau,a9W]at*;have C:=C aO rfl;refine aF (c2 @aY @aZ) ?_;refine cv (λb p=>∃a:Nat,a<=8/\p=T/\b 15=.J (aO.map ah) V/\b 16=.v (.int .i64 (α aO))/\b 17=.v (.int .i64 a)/\b 5=.v (.int .u64 (fs (aO.take a))))
   (λb _=>match b 17 with|.v (.int _ e)=>(8 - e).toNat|_=>0) ⟨0,acq,rfl,?_⟩ ?_
  .refine aF (aD @a9Y.{0} @aY @aZ) ?_;rfl
  .rintro b q⟨a,s,rfl,D,E,F,r⟩;have x:=Ed (aO.take a);rw[a8l]at x;by_cases G:(a:Int)<α aO
   .have L:a<α aO:=acq;have t:fs (aO.take a)<72057594037927936:=by refine a9y x ?_;refine a8W (a9X (j:=7) acq acq) acv
    have f:=xY L;have g:=ZY aO a L;generalize u:aO.getD a 0=d at*;have v:=d.toNat_lt;have i:IntKind.u64.wrap (d.toNat)=d.toNat:=wrap_u64 acq acq;generalize fs (aO.take a)=P at*;have j:br .or (.int .u64 ((P*256:Nat))) (.int .u64 (d.toNat))=β (.int .u64 ((P*256+d.toNat:Nat))):=by rw[ZZ _ _ acq acq,Ee _ _ acq]
    have l:eG 1 (aO.map ah)[a]?=β (.bZ [.v (.int .u8 d.toNat)]):=by rw[f];rfl
    simp -dsimp -implicitDefEqProofs (disch:=first|omega|assumption|(simp only[aX,Nat.reduceAdd];try omega)) only[D,E,F,r,G,go_sem,↓reduceIte,Nat.reduceEqDiff,Nat.reduceAdd,Nat.reduceSub,Nat.reduceMul,Nat.reduceLeDiff,Nat.reduceLT,Int.reduceNeg,Int.reduceToNat,Int.reduceAdd,Int.reduceSub,Int.reduceMul,Int.reduceLT,Int.reduceLE,Int.reduceEq,Int.reduceNe,aY,aZ,hX,l,a0a,i,j];refine⟨⟨a+1,acq,acr,?_⟩,acq⟩;rw[g]
   .obtain rfl:a=8:=acq;have m:aO.take 8=aO:=Ο acq;rw[m]at r x;have w:fs aO<18446744073709551616:=by simp_all
    simp -dsimp -implicitDefEqProofs (disch:=first|omega|assumption|(simp only[aX,Nat.reduceAdd];try omega)) only[D,E,F,r,G,go_sem,↓reduceIte,Nat.reduceEqDiff,Nat.reduceAdd,Nat.reduceSub,Nat.reduceMul,Nat.reduceLeDiff,Nat.reduceLT,Int.reduceNeg,Int.reduceToNat,Int.reduceAdd,Int.reduceSub,Int.reduceMul,Int.reduceLT,Int.reduceLE,Int.reduceEq,Int.reduceNe,aY,aZ,a0b,a0c];exact⟨_,η,z⟩
def mH(a:Rd):Υ×Rd:=((dr a 32).1.getD vl,(dr a 32).2)
def vq(a:Rd):(mH a).1.length=32:=by
 unfold mH;have b:=λaO=>q8 (a:=a) (e:=32) (w:=aO);cases c:(dr a 32).1 with
 |none=>rfl
 |some aO=>exact b aO c
def yu(r D:U)(h:Nat)(b:Rd)(k:bP r h b D):
  AC γ 209 [.ptr h 0] D λc P=>bP r h (mH b).2 P/\c=bo (mH b).1:=by
 refine bg hm R5 acr ?_;have E:=vq b;refine aF (c2 @aY @aZ) ?_;refine aN λS T=>?_;obtain⟨F,V,k⟩:=k.new (ob:=eX) T;refine aF (c2 @aY @aZ) ?_;refine aN λW e=>?_;obtain⟨G,x,k⟩:=k.new (ob:=eX) e;obtain⟨d,x⟩:=U.gG x;refine aF (c2 @aY @aZ) ?_;refine ag (vp _ _ h b 32 acq k) ?_;rintro c f⟨y,i,rfl⟩;have o:=y.get F (by rw[ξ _ _ (Δ d)];exact μ _ _ _);have a:=y.get G (μ _ _ _);have L:∀(c z),bP r h (dr b 32).2 ((f.set W c).set S z):=λc z=>by
  have:=(y.other (ob:=c) G).other (ob:=z) F;rw[ς]at this;refine this.base ?_;rw[U.dL _ d,ς];exact κ (κ η V) x
 unfold mH at E|-;have p:=λaO=>q8 (a:=b) (e:=32) (w:=aO);generalize dr b 32=g at*;obtain⟨aO,j⟩:=g;unfold eX at o a;have l:(δ 32 (R.v (Value.int IntKind.u8 0))).length=32:=rfl;cases aO with
 |none=>
  simp only[aa5,abb]at*;simp -dsimp -implicitDefEqProofs (disch:=first|omega|assumption|(simp only[aX,Nat.reduceAdd];try omega)) only[go_sem,↓reduceIte,Nat.reduceEqDiff,Nat.reduceAdd,Nat.reduceSub,Nat.reduceMul,Nat.reduceLeDiff,Nat.reduceLT,Int.reduceNeg,Int.reduceToNat,Int.reduceAdd,Int.reduceSub,Int.reduceMul,Int.reduceLT,Int.reduceLE,Int.reduceEq,Int.reduceNe,aY,aZ,ι a,τ a,y2 (ι a)];refine Dt ?_ a ?_ ?_
  .simp[aW]
  .simp
  have C:putAt (δ 32 (R.v (Value.int IntKind.u8 0))) 0 (flat (List.take 32 []))=vl.map ah:=rfl;rw[C];refine aF (cb @E @d (Δ d) (ι o) (τ o) @aY @aZ) ?_;exact⟨_,η,L _ _⟩
 |some aO=>
  simp only[aau,a9W]at*;have p:=p aO rfl;simp -dsimp -implicitDefEqProofs (disch:=first|omega|assumption|(simp only[aX,Nat.reduceAdd];try omega)) only[go_sem,↓reduceIte,Nat.reduceEqDiff,Nat.reduceAdd,Nat.reduceSub,Nat.reduceMul,Nat.reduceLeDiff,Nat.reduceLT,Int.reduceNeg,Int.reduceToNat,Int.reduceAdd,Int.reduceSub,Int.reduceMul,Int.reduceLT,Int.reduceLE,Int.reduceEq,Int.reduceNe,aY,aZ,ι a,τ a,y2 (ι a)];refine Dt ?_ a ?_ ?_
  .rw[uQ];trivial
  .simp
  have C:putAt (δ 32 (R.v (Value.int IntKind.u8 0))) 0 (flat (List.take 32 (List.map ah aO)))=aO.map ah:=by rw[Ο (by simp[p]),su,rf (by simp[p])]
  rw[C];refine aF (cb @p @d (Δ d) (ι o) (τ o) @aY @aZ) ?_;exact⟨_,η,L _ _⟩
def mI(a:Rd):Rd:=if 0<α a.b then mG a 22 else a
def yv(c d:U)(b:Nat)(a:Rd)(h:bP c b a d):
  AC γ 87 [.ptr b 0] d λo y=>bP c b (mI a) y/\o=.v (.int .i64 (mI a).e):=by
 obtain⟨C,p⟩:=h.cell;refine bg hm Nu acr ?_;unfold mI;by_cases r:0<α a.b
 .have k:(0:Int)<α a.b:=acq;refine aF (aP (ι p) @k @aY @aZ) ?_;refine ag (tm c d b a 22 h) ?_;intro o D x;obtain⟨E,z⟩:=x.cell;rw[if_pos r];refine aF (aD (ι z) @aY @aZ) ?_;exact⟨_,η,x⟩
 .have k:¬(0:Int)<α a.b:=acq;rw[if_neg r];refine aF (aP (ι p) @k @aY @aZ) ?_;exact⟨_,η,h⟩
def ft(a:Nat):Υ:=[ν (a>>>16),ν (a>>>8),ν a]
def gJ(a:Υ):Υ:=ft (α a)++a
def dE(a:Τ):Υ:=ν (α a)::a.flatMap ij
theorem kL(a:Nat):(ft a).length=3:=rfl
theorem yw(a:Υ):(gJ a).length=3+α a:=by simp[gJ,ft];omega
theorem oY(a:Τ):(a.flatMap ij).length=8*α a:=by
 induction a with
 |nil=>rfl
 |cons b a ih=>rw[a8I,Ρ,ih,Ea,a8m];omega
def yx(a:Τ):(dE a).length=1+8*α a:=by rw[dE,a8m,oY];omega
theorem Ef(b a:Nat)(c:a<=64):br .shr (.int .i64 (b:Int)) (.int .u64 (a:Int))=β (.int .i64 ((b>>>a:Nat):Int)):=by
 have d:br .shr (.int .i64 (b)) (.int .u64 (a))=β (.int .i64 ((b:Int).fdiv (2^a))):=by have hm:min a IntKind.i64.bits=a:=a9T c;simp[br,fB,oA,hm]
 grind[Nat.shiftRight_eq_div_pow,Int.ofNat_fdiv]
def tn(d h:U)(b:Nat)(c:Υ)(a:Nat)(F:a<=1048576)(r:cz d b c h)(G:α c<=1000000000000):
  AC γ 99 [.ptr b 0,.v (.int .i64 a)] h λ_ x=>cz d b (c++ft a) x:=by
 refine bg hm NT acr ?_;have k:br .shr (.int .i64 (a)) (.int .u64 16)=β (.int .i64 ((a>>>16))):=Ef a 16 acq;have o:br .shr (.int .i64 (a)) (.int .u64 8)=β (.int .i64 ((a>>>8))):=Ef a 8 acq;have p:(0:Int)<=a:=acq;have c2:(a:Int)<=1048576:=acq;refine aF (bl @k @o @iH @p @c2) ?_;refine dD η (by simp[aW,ρ]) λy z C=>?_;refine aF (bl @k @o @iH @p @c2) ?_;refine ag (vo d z b c (ft a) y (r.mono C.sub) (by rw[kL];omega)) ?_;intro L D E;refine eH ?_;exact⟨D,η,E⟩
def Eg(c h:U)(b:Nat)(d a:Υ)(k:Own)(o:α a<=1048576)(p:cz c b d h)(r:α d<=1000000000000):
  AC γ 46 [.ptr b 0,.J (a.map ah) k] h λ_ x=>cz c b (d++gJ a) x:=by
 refine bg hm ME acr ?_;have c2:¬(1048576:Int)<α a:=acq;simp -dsimp -implicitDefEqProofs (disch:=first|omega|assumption|(simp only[aX,Nat.reduceAdd];try omega)) only[go_sem,simprocAttr,c2];refine ag (tn c h b d (α a) o p r) ?_;intro y z C;simp -dsimp -implicitDefEqProofs (disch:=first|omega|assumption|(simp only[aX,Nat.reduceAdd];try omega)) only[go_sem,simprocAttr];refine ag (vo c z b _ a k C (by rw[Ρ,kL];omega)) ?_;intro y D E;simp -dsimp -implicitDefEqProofs (disch:=first|omega|assumption|(simp only[aX,Nat.reduceAdd];try omega)) only[go_sem,simprocAttr];refine⟨D,η,?_⟩;rw[gJ,<-a8w];exact E
def af(a:Τ):Ψ:=a.map λb=>.v (.int .i64 b)
def dY{a:Τ}{b:Nat}(c:b<α a):(af a)[b]?=β (.v (.int .i64 (a.getD b 0))):=by simp[af,c]
variable{t b8:Τ}
theorem bM:(af t).length=α t:=by simp[af]
theorem tp(h o:U)(c:Nat)(k:Υ)(a:Τ)(D:Own)(W:α a<=255)(L:cz h c k o)(e:α k<=1000000000000):
  AC γ 101 [.ptr c 0,.J (af a) D] o λ_ p=>cz h c (k++dE a) p:=by
 refine bg hm NX acr ?_;have c2:¬(255:Int)<α a:=acq;have E:=bM (t:=a);refine aF (aD @E @c2 @iH) ?_;refine ag (nL h o c k _ L acq) ?_;intro P f g;refine aF @E ?_;refine cv (λd p=>∃b:Nat,b<=α a/\cz h c (k++(ν (α a)::(a.take b).flatMap ij)) p/\d 0=.ptr c 0/\d 17=.J (af a) D/\d 18=.v (.int .i64 (α a))/\d 19=.v (.int .i64 b))
  (λd _=>match d 19 with|.v (.int _ S)=>(α a - S).toNat|_=>0) ⟨0,acq,by trivial,?_⟩ ?_
 .exact rn
 .rintro d F⟨b,i,r,x,y,z,C⟩;by_cases G:(b:Int)<α a
  .have T:b<α a:=acq;have V:=dY T;refine aF (cb @x @y @z @C @G @hX @V) ?_;refine ag (ZR h F c _ _ r ?_) ?_;grind[oY,ω,List.length_cons,List.length_take];intro P j l;refine aF (aP @x @y @z @C) ?_;refine⟨⟨b+1,acq,?_,acr⟩,acq⟩;grind[ij,List.take_succ,List.getElem?_eq_getElem,List.getD]
  .obtain rfl:b=α a:=acq;refine aF (bl @x @y @z @C @G) ?_;refine⟨F,η,?_⟩;rw[a8F]at r;exact r
def Eh(h a:U)(b:Nat)(c:Υ)(k:cz h b c a):
  AC γ 49 [.ptr b 0] a λo p=>p=a/\o=.v (.int .i64 0):=by
 obtain⟨r,d⟩:=k.cell;refine bg hm MJ acr ?_;have x:aQ θ 1 ([R.J (c.map ah) r,.v (.int .i64 0)].drop 1)=.v (.int .i64 0):=rfl;unfold vn at d;refine aF (c2 (ι d) @x) ?_;exact⟨a,η,rfl⟩
def ez(b:Nat)(a:Rd):Nat×Rd:=
 match(dr a 3).1 with
 |none=>(0,(dr a 3).2)
 |some aO=>if min b 1048576<fs aO then(0,mG (dr a 3).2 10)else(fs aO,(dr a 3).2)
def fu(a:Nat)(b:Rd):Υ×Rd:=((dr (ez a b).2 (ez a b).1).1.getD [],(dr (ez a b).2 (ez a b).1).2)
theorem Ei(a b:Nat)(c:a<4611686018427387904)(d:b<4611686018427387904):br .or (.int .i64 a) (.int .i64 b)=β (.int .i64 ((a|||b:Nat):Int)):=by
 have h:br .or (.int .i64 a) (.int .i64 b)=β (.int .i64 (IntKind.i64.wrap (π 64 (a)|||π 64 (b)).toNat)):=rfl;have k:a|||b<4611686018427387904:=Nat.or_lt_two_pow (n:=62) c d
 grind[BitVec.toNat_or,BitVec.toNat_ofNat,Nat.mod_eq_of_lt,wrap_i64]
theorem xZ(b:UInt8)(a:Nat)(c:a<=16):br .shl (.int .i64 (b.toNat:Int)) (.int .u64 (a:Int))=β (.int .i64 ((b.toNat*2^a:Nat):Int)):=by
 have k:=b.toNat_lt;have o:br .shl (.int .i64 (b.toNat)) (.int .u64 (a))=β (.int .i64 (IntKind.i64.wrap ((b.toNat)*2^(min (a:Int).toNat 64)))):=by have d:¬(a)<0:=acq;simp only[br,fB,oA,d,if_false,if_true];rfl
 have hm:min (a:Int).toNat 64=a:=acq;have h:2^a<=65536:=a9X acq c;have p:b.toNat*2^a<=256*65536:=ab6 acq h;grind[wrap_i64]
theorem a0e(a b c:UInt8):a.toNat*65536|||b.toNat*256|||c.toNat=fs [a,b,c]:=by
 have h:=a.toNat_lt;have k:=b.toNat_lt;have d:=c.toNat_lt;have o:a.toNat*65536|||b.toNat*256=a.toNat*65536+b.toNat*256:=by have:=aaK (a:=a.toNat) (i:=16) (b:=b.toNat*256) acq;rw[aaq]at this;exact this.symm
 have p:(a.toNat*256+b.toNat)*256|||c.toNat=(a.toNat*256+b.toNat)*256+c.toNat:=Ee _ _ d
 grind[fs]
def a0f(a:α w=3):fs w<16777216:=by have:=Ed w;rw[a]at this;exact this
def q9(o r:U)(k:Nat)(d:Nat)(n:d<=1048576)(h:Rd)(E:bP o k h r):
  AC γ 208 [.ptr k 0,.v (.int .i64 d)] r λx F=>bP o k (ez d h).2 F/\x=.v (.int .i64 (ez d h).1):=by
 refine bg hm R3 acr ?_;refine eH ?_;refine ag (vp o r k h 3 acq E) ?_;rintro x G⟨y,q,rfl⟩;unfold ez;have p:=λaO=>q8 (a:=h) (e:=3) (w:=aO);generalize dr h 3=L at*;obtain⟨aO,P⟩:=L;cases aO with
 |none=>simp only[aa5,abb]at*;refine eH ?_;exact⟨_,η,y⟩
 |some aO=>
  simp only[aau,a9W]at*;have p:=p aO rfl;have s:=a0f p
  match aO,p with
  |[a,b,c],_=>
   have S:eG 1 (β (ah a))=β (.bZ [.v (.int .u8 a.toNat)]):=rfl;have T:eG 1 (β (ah b))=β (.bZ [.v (.int .u8 b.toNat)]):=rfl;have V:eG 1 (β (ah c))=β (.bZ [.v (.int .u8 c.toNat)]):=rfl;have t:=a.toNat_lt;have u:=b.toNat_lt;have v:=c.toNat_lt;have W:IntKind.i64.wrap (a.toNat)=a.toNat:=wrap_i64 acq acq;have e:IntKind.i64.wrap (b.toNat)=b.toNat:=wrap_i64 acq acq;have f:IntKind.i64.wrap (c.toNat)=c.toNat:=wrap_i64 acq acq;have g:br .shl (.int .i64 (a.toNat)) (.int .u64 16)=β (.int .i64 ((a.toNat*65536:Nat))):=xZ a 16 acq;have i:br .shl (.int .i64 (b.toNat)) (.int .u64 8)=β (.int .i64 ((b.toNat*256:Nat))):=xZ b 8 acq;have j:br .or (.int .i64 ((a.toNat*65536:Nat))) (.int .i64 ((b.toNat*256:Nat)))=β (.int .i64 ((a.toNat*65536|||b.toNat*256))):=Ei _ _ acq acq;have w:a.toNat*65536|||b.toNat*256<16777216:=Nat.or_lt_two_pow (n:=24) acq acq
   have l:br .or (.int .i64 ((a.toNat*65536|||b.toNat*256))) (.int .i64 (c.toNat))=β (.int .i64 ((fs [a,b,c]))):=by rw[Ei _ _ acq acq,a0e]
   simp -dsimp -implicitDefEqProofs (disch:=first|omega|assumption|(simp only[aX,Nat.reduceAdd];try omega)) only[hX,S,T,V,↓sW,sX,ak,ofConst,cV,simprocAttr,fl,a9A,↓sZ,ta,ne_eq,not_true_eq_false,not_false_eq_true,Int.reduceNe,a9V,aa8,↓Dy,Dz,W,e,f,g,i,j,l];have C:min (d:Int) 1048576=((min d 1048576)):=acq;by_cases D:min d 1048576<fs [a,b,c]
   .have z:((min d 1048576))<(fs [a,b,c]:Int):=acq;refine aF (c2 @C @z) ?_;refine ag (tm o G k P 10 y) ?_;intro x A m;refine eH ?_;rw[if_pos D];exact⟨_,η,m,rfl⟩
   .have z:¬((min d 1048576))<(fs [a,b,c]:Int):=acq;refine aF (c2 @C @z) ?_;rw[if_neg D];exact⟨_,η,y,rfl⟩
theorem yy(a:Nat)(b:Rd):(ez a b).1<=a/\(ez a b).1<=1048576:=by grind[ez]
theorem vr(d k:U)(c:Nat)(a:Nat)(r:a<=1048576)(b:Rd)(x:bP d c b k):
  AC γ 155 [.ptr c 0,.v (.int .i64 a)] k λo y=>bP d c (fu a b).2 y/\∃h,(h=.nil->(fu a b).1=[])/\o=.J ((fu a b).1.map ah) h:=by
 refine bg hm Pv acr ?_;simp -dsimp -implicitDefEqProofs (disch:=first|omega|assumption|(simp only[aX,Nat.reduceAdd];try omega)) only[go_sem,simprocAttr];refine ag (q9 d k c a r b x) ?_;rintro o z⟨C,rfl⟩;have P:=yy a b;simp -dsimp -implicitDefEqProofs (disch:=first|omega|assumption|(simp only[aX,Nat.reduceAdd];try omega)) only[go_sem,simprocAttr];refine ag (Eb d z c (ez a b).2 (ez a b).1 acq C) ?_;rintro o D⟨E,h,F,rfl⟩;simp -dsimp -implicitDefEqProofs (disch:=first|omega|assumption|(simp only[aX,Nat.reduceAdd];try omega)) only[go_sem,simprocAttr];have S:((dr (ez a b).2 (ez a b).1).1.getD []).length<=1048576:=by grind[dr,ez,q8]
 refine ag (yr _ h D F acq) ?_;rintro _ G⟨L,p,rfl⟩;simp -dsimp -implicitDefEqProofs (disch:=first|omega|assumption|(simp only[aX,Nat.reduceAdd];try omega)) only[go_sem,simprocAttr];refine⟨G,η,E.mono p.sub,L,?_,rfl⟩;rintro rfl;have:=p.2;simpa[fu] using this
def jZ:Nat->Rd->Τ->Τ×Rd
 |0,a,acc=>(acc,a)
 |b+1,a,acc=>jZ b (iN a).2 (if(iN a).2.e=0 then acc++[(iN a).1]else acc)
def gK(c:Nat)(d:Rd):Τ×Rd:=
 let a:=cP d
 let b:=jZ a.1.toNat (if c<a.1.toNat then mG a.2 10 else a.2) []
 if b.2.e=0 then b else([],b.2)
theorem Ej:∀(c:Nat)(a:Rd)(b:Τ),(jZ c a b).1.length<=α b+c
 |0,a,b=>by simp[jZ]
 |c+1,a,b=>by
  rw[jZ];have:=Ej c (iN a).2 (if(iN a).2.e=0 then b++[(iN a).1]else b);grind
theorem rA(b:Nat)(a:Rd):(gK b a).1.length<=255:=by unfold gK;have c:=Ej (cP a).1.toNat (if b<(cP a).1.toNat then mG (cP a).2 10 else(cP a).2) [];have d:=(cP a).1.toNat_lt;grind
def bP.full{c:Rd}(d:bP s e c f):bP (f.del e) e c f:=by
 obtain⟨h,k⟩:=d.cell;refine⟨h,λo p a=>?_⟩;by_cases b:o=e
 .subst b;rw[μ]at a;rw[k];exact a
 .rw[ξ _ _ b,U.eO _ b]at a;exact a
def Ek(d:(f.set e Z).sub s)(h:f e=ε):f.sub (s.del e):=λb k a=>by
 have c:b≠e:=by rintro rfl;rw[h]at a;cases a
 rw[U.eO _ c];exact d b k (by rw[ξ _ _ c];exact a)
def ct.step{d o p:U}{a r:Nat}{E x:Rd}{F:Own}{y:Ψ}{h:Own}(z:bf (d.set a (ha E F)) o r y h)(G:d a=ε)(L:bP (o.del a) a x p):∃k,bf (d.set a (ha x k)) p r y h:=by
 obtain⟨k,C⟩:=L;refine⟨k,?_,?_⟩
 .refine ο ?_ C;exact U.lD (Ek z.sub G)
 .have b:=z.2;cases h with
  |buf P S=>
   have c:P≠a:=by rintro rfl;have:=b.1;rw[μ]at this;cases this
   have D:=b.1;rw[ξ _ _ c]at D;exact⟨by rw[ξ _ _ c];exact D,C _ _ (by rw[ξ _ _ c,U.eO _ c];exact b.2)⟩
  |_=>exact b
variable{g B e1:Ψ}{M e7 j0:Own}
def ct.rs{a:Rd}(b:bf (f.set e (ha a M)) s i g e7):bP f e a s:=⟨M,b.sub⟩
theorem mJ(r j:U)(b:Nat)(x:Nat)(k5:x<=1048576)(P:Rd)(H:r b=ε)(I:bP r b P j):
  AC γ 210 [.ptr b 0,.v (.int .i64 x)] j λy S=>bP r b (gK x P).2 S/\∃F,y=.J (af (gK x P).1) F:=by
 refine bg hm R7 acr ?_;refine eH ?_;refine ag (nN r j b P I) ?_;rintro y K⟨l,rfl⟩;unfold gK;generalize cP P=M at*;obtain⟨o,m⟩:=M;simp only at l|-;have k6:=o.toNat_lt;have n:IntKind.i64.wrap (o.toNat)=o.toNat:=wrap_i64 acq acq;have N:∃G,G=(if x<o.toNat then mG m 10 else m):=⟨_,rfl⟩;obtain⟨G,T⟩:=N;rw[<-T];refine aF @n ?_;refine Dj (λp S=>p 0=.ptr b 0/\p 5=.v (.int .i64 o.toNat)/\bP r b G S) ?_ ?_ ?_
 .intro d;have q:x<o.toNat:=by have:=of_decide_eq_true d;omega
  rw[if_pos q]at T;refine eH ?_;refine ag (tm r K b m 10 l) ?_;intro y O V;refine aF @n ?_;rw[T];exact V
 .intro d;have q:¬x<o.toNat:=by have:=of_decide_eq_false d;omega
  rw[if_neg q]at T;refine aF @n ?_;rw[T];exact l
 rintro p O⟨v,w,V⟩;generalize o.toNat=h at*;refine aF (c2 @v @w) ?_;refine cv (λp S=>∃(c:Nat)(a:Rd)(k:Τ)(g F:Own),c<=h/\jZ (h - c) a k=jZ h G []/\α k<=c/\bf (r.set b (ha a F)) S 1 (af k) g/\p 0=.ptr b 0/\p 6=.J (af k) g/\p 16=.v (.int .i64 h)/\p 17=.v (.int .i64 c))
  (λp _=>match p 17 with|.v (.int _ o)=>(h - o).toNat|_=>0) ?_ ?_
 .obtain⟨F,V⟩:=V;refine⟨0,G,[],.nil,F,acq,rfl,acr,Ν V,?_⟩;refine aF (c2 @v @w) ?_;rfl
 .rintro k7 A⟨c,a,k,g,F,k8,L,k9,W,z,C,D,E⟩;by_cases s:(c:Int)<h
  .refine aF (bl @z @C @D @E @s) ?_;refine ag (a0d (A.del b) A b a (ct.rs W).full) ?_;rintro y l0⟨t,rfl⟩;have Q:jZ (h - c) a k=jZ (h -(c+1)) (iN a).2 (if(iN a).2.e=0 then k++[(iN a).1]else k):=by rw[show h - c=(h -(c+1))+1 by omega];rfl
   rw[Q]at L;obtain⟨l1,B⟩:=ct.step W H t;generalize iN a=X at*;obtain⟨y,i⟩:=X;simp only at t B L|-;obtain⟨u,e⟩:=t.cell;have f:aQ θ 1 ([R.J (i.b.map ah) u,.v (.int .i64 i.e)].drop 1)=.v (.int .i64 i.e):=rfl;by_cases d:i.e=0
   .rw[if_pos d]at L;refine aF (cb @z @C @D @E (ι e) @f @d) ?_;refine dD η (by simp[aW,ρ]) λl2 l3 Y=>?_;refine aF (aP @z @C @D @E) ?_;refine dW (B.mono Y.sub) (by simp[aW,af,ρ]) (by simp[aW,ρ]) (by simp[bM];omega) (by simp[bM];omega) λl4 l5 Z=>?_;refine aF (aP @z @C @D @E) ?_;have k3:af k++[R.v (.int .i64 y)]=af (k++[y]):=by simp[af]
    rw[k3]at Z|-;grind
   .rw[if_neg d]at L;refine aF (cb @z @C @D @E (ι e) @f @d) ?_;grind
  .obtain rfl:c=h:=acq;rw[aat]at L;have k4:jZ c G []=(k,a):=by rw[<-L];rfl
   rw[k4];obtain⟨u,e⟩:=(ct.rs W).cell;have f:aQ θ 1 ([R.J (a.b.map ah) u,.v (.int .i64 a.e)].drop 1)=.v (.int .i64 a.e):=rfl;by_cases d:a.e=0
   .refine aF (bz @z @C @D @E @s (ι e) @f @d) ?_;exact⟨_,η,ct.rs W,g,rfl⟩
   .refine aF (bz @z @C @D @E @s (ι e) @f @d) ?_;exact⟨_,η,ct.rs W,.nil,rfl⟩
def headD(b:List Υ)(a:Nat):Υ:=if a=0 then vl else b.getD (a - 1) vl
def FW(a:Int)(b c:Υ)(d:Int)(h:R):Ψ:=ys a b c++[.v (.int .i64 d),h]
structure yz where
 o:iM
 st:Int
 yA:Option (iM×iM)
def yz.ok(a:yz):Prop:=a.o.ok/\∀b c,a.yA=β (b,c)->b.ok/\c.ok
def El(a:iM)(b:Int)(c:R):Ψ:=FW a.n a.h a.d b c
def FS(c:U)(d:Nat)(a:yz)(h:U):Prop:=
 match a.yA with
 |none=>(c.set d (.cells (El a.o a.st (.v (.pointer ε))))).sub h
 |some (k,o)=>∃b,c b=ε/\b≠d/\((c.set d (.cells (El a.o a.st (.ptr b 0)))).set b (.cells (k.C++o.C))).sub h
def a0g(c d:U)(a:Nat)(b:Υ)(h:Bool)(o:cz c a b d)(p:α b+1<=70368744177664):
  AC γ 293 [.ptr a 0,.v (.bool h)] d λ_ r=>cz c a (b++[if h then 1 else 0]) r:=by
 refine bg hm T9 acr ?_;cases h
 .refine aF (c2 @aY @aZ) ?_;refine ag (nL c d a b 0 o p) ?_;intro x y k;refine aF (c2 @aY @aZ) ?_;exact⟨_,η,k⟩
 .refine aF (c2 @aY @aZ) ?_;refine ag (nL c d a b 1 o p) ?_;intro x y k;refine aF (c2 @aY @aZ) ?_;exact⟨_,η,k⟩
theorem yB(a c:Υ)(D E:Own)(h:U)(e:α a<=70368744177664):
  AC γ 88 [.J (a.map ah) D,.J (c.map ah) E] h λL z=>z=h/\L=.v (.bool (decide (a=c))):=by
 refine bg hm Nx acr ?_;by_cases f:α a=α c
 .have k:(α a:Int)=α c:=acq;refine aF (aD @k @aY @aZ) ?_;rw[<-k];refine cv (λd z=>∃b:Nat,b<=α a/\z=h/\d 0=.J (a.map ah) D/\d 1=.J (c.map ah) E/\d 12=.v (.int .i64 (α a))/\d 13=.v (.int .i64 b)/\a.take b=c.take b)
   (λd _=>match d 13 with|.v (.int _ P)=>(α a - P).toNat|_=>0) ⟨0,acq,rfl,?_⟩ ?_
  .exact gH (aD @a9Y.{0} @aY @aZ)
  .rintro d F⟨b,g,rfl,o,p,r,x,i⟩;by_cases y:(b:Int)<α a
   .have S:b<α a:=acq;have T:b<α c:=acq;have V:eG 1 (a.map ah)[b]?=β (.bZ [.v (.int .u8 (a.getD b 0).toNat)]):=by rw[xY S];rfl
    have W:eG 1 (c.map ah)[b]?=β (.bZ [.v (.int .u8 (c.getD b 0).toNat)]):=by rw[xY T];rfl
    simp -dsimp -implicitDefEqProofs (disch:=first|omega|assumption|(simp only[aX,Nat.reduceAdd];try omega)) only[o,p,r,x,y,hX,V,W,go_sem,simprocAttr,aY,aZ];by_cases G:a.getD b 0=c.getD b 0
    .have C:(((a.getD b 0).toNat:Int)=(c.getD b 0).toNat)=True:=by rw[G];simp
     simp -dsimp -implicitDefEqProofs (disch:=first|omega|assumption|(simp only[aX,Nat.reduceAdd];try omega)) only[o,p,r,x,y,C,go_sem,simprocAttr,aY,aZ];refine⟨⟨b+1,acq,acr,?_⟩,acq⟩;grind[List.take_succ,List.getElem?_eq_getElem,List.getD]
    .have C:(((a.getD b 0).toNat:Int)=(c.getD b 0).toNat)=False:=by simp only[eq_iff_iff,iff_false];grind[UInt8.toNat_inj]
     simp -dsimp -implicitDefEqProofs (disch:=first|omega|assumption|(simp only[aX,Nat.reduceAdd];try omega)) only[o,p,r,x,y,C,go_sem,simprocAttr,aY,aZ];refine⟨F,η,rfl,?_⟩;have:a≠c:=by rintro rfl;exact G rfl
     simp[this]
   .obtain rfl:b=α a:=acq;simp -dsimp -implicitDefEqProofs (disch:=first|omega|assumption|(simp only[aX,Nat.reduceAdd];try omega)) only[o,p,r,x,y,go_sem,simprocAttr,aY,aZ];refine⟨F,η,rfl,?_⟩;grind
 .have k:((α a:Int)=α c)=False:=by grind
  refine aF (aD @k @aY @aZ) ?_;refine⟨h,η,rfl,?_⟩;have:a≠c:=by rintro rfl;omega
  simp[this]
def nO(a:Rd):Bool×Rd:=(decide ((cP a).1=1),if 1<(cP a).1.toNat then mG (cP a).2 21 else(cP a).2)
theorem a0h(d h:U)(b:Nat)(c:Rd)(y:bP d b c h):
  AC γ 312 [.ptr b 0] h λk z=>bP d b (nO c).2 z/\k=.v (.bool (nO c).1):=by
 refine bg hm Tt acr ?_;refine aF (c2 @aY @aZ) ?_;refine ag (nN d h b c y) ?_;rintro k C⟨o,rfl⟩;unfold nO;generalize cP c=D at*;obtain⟨a,E⟩:=D;simp only at o|-;have r:decide ((a.toNat:Int)=1)=decide (a=1):=by
  have:((a.toNat:Int)=1)↔a=1:=by rw[<-a9f];grind
  simp only[this]
 by_cases x:1<a.toNat
 .have p:(1:Int)<a.toNat:=acq;refine aF (aD @p @aY @aZ) ?_;refine ag (tm d C b E 21 o) ?_;intro k G F;rw[if_pos x];refine aF (aD @r @aY @aZ) ?_;exact⟨_,η,F⟩
 .have p:¬(1:Int)<a.toNat:=acq;rw[if_neg x];refine aF (aP @p @r @aY @aZ) ?_;exact⟨_,η,o⟩
structure au where
 sum:Υ
 aV:Τ
 aU:Τ
 live:Int
 size:Int
 key:Τ
 deriving DecidableEq
def aw:au:=⟨δ 32 0,[],[],0,0,[]⟩
structure c4 where
 kind:UInt8
 rows:List (Τ×Bool)
 kids:List au
 deriving DecidableEq
def cS(b c:Τ)(a:Nat):Bool:=decide (1<=a)&&decide (a<=8)&&decide (α b=a)&&decide (α c=a)&&(χ a).all λd=>decide (b.getD d 0<=c.getD d 0)
def fb(b:Nat)(a:au):Bool:=
 decide (a=aw)||(!(decide (a.size<1)||decide (1048576<a.size)||decide (a.live<0)||decide (a.size<a.live))&&
  if a.live=0 then decide (α a.aV=0)&&decide (α a.aU=0)else cS a.aV a.aU b)
def dZ(c:Nat)(a:c4):Bool:=
  a.rows.all (λd=>decide (α d.1=c))&&a.kids.all (fb c)&&
  (if a.kind=1 then decide (α a.rows=1)&&decide (α a.kids=2)&&a.kids.all (λb=>decide (α b.key=0))
   else if a.kind=2 then decide (1<=α a.rows)&&decide (α a.rows<=4)&&decide (α a.kids=0)&&a.rows.all (λd=>d.2)
   else if a.kind=3 then decide (α a.rows=0)&&decide (2<=α a.kids)&&decide (α a.kids<=4)&&a.kids.all (λb=>decide (α b.key=c)&& !decide (b=aw))
   else θ)
def gL(a:Τ×Bool):Υ:=(if a.2=ζ then(1:UInt8)else 0)::dE a.1
def dN(a:au):Υ:=a.sum++(ft a.live.toNat++(ft a.size.toNat++(dE a.aV++(dE a.aU++dE a.key))))
def cY(a:c4):Υ:=a.kind::ν (α a.rows)::(a.rows.flatMap gL++ν (α a.kids)::a.kids.flatMap dN)
def tq(b:Nat)(a:c4):Option Υ:=if dZ b a=ζ then β (cY a)else ε
def cT(b a:Τ×Τ):Τ×Τ:=
 if cS b.1 b.2 (α b.1)=ζ then
  (if cS a.1 a.2 (α a.1)=ζ then(if α b.1=α a.1 then(φ min b.1 a.1,φ max b.2 a.2)else([],[]))else b)
 else if cS a.1 a.2 (α a.1)=ζ then a else([],[])
def gp(a:Τ):Τ×Τ:=if 1<=α a/\α a<=8 then(a,a)else([],[])
structure gM where
 live:Int
 size:Int
 aS:Τ×Τ
def ea(a:gM)(b:Τ×Bool):gM:=if b.2=ζ then {a with live:=a.live+1,aS:=cT a.aS (gp b.1)}else a
def eA(b:gM)(a:au):gM:=⟨b.live+a.live,b.size+a.size,cT b.aS (a.aV,a.aU)⟩
def eJ(a:c4):gM:=a.kids.foldl eA (a.rows.foldl ea ⟨0,α a.rows,([],[])⟩)
def keyOf(a:c4):Τ:=if a.kind=2 then(a.rows.headD ([],θ)).1 else if a.kind=3 then(a.kids.headD aw).key else []
def eb(a:Υ):Υ:=fo (preB 80 [a])
def dF(a:c4):au:=⟨eb (cY a),(eJ a).aS.1,(eJ a).aS.2,(eJ a).live,(eJ a).size,keyOf a⟩
def fL(b:Nat)(a:c4):Option au:=if dZ b a=ζ then(if 1048576<(eJ a).size then ε else β (dF a))else ε
def jq(b:Nat)(a:Rd):(Τ×Bool)×Rd:=(((gK b (nO a).2).1,(nO a).1),(gK b (nO a).2).2)
def fc(a:Nat)(p:Rd):au×Rd:=
 let b:=mH p
 let c:=ez 1048576 b.2
 let d:=ez 1048576 c.2
 let h:=gK a d.2
 let k:=gK a h.2
 let o:=gK a k.2
 (⟨b.1,h.1,k.1,(c.1:Int),(d.1:Int),o.1⟩,o.2)
def dv{b:Type}(c:Rd->b×Rd):Nat->Rd->List b->List b×Rd
 |0,a,acc=>(acc,a)
 |d+1,a,acc=>dv c d (c a).2 (acc++[(c a).1])
def qa(a:Nat)(o:Υ):c4×Rd:=
 let b:=cP ⟨o,0⟩
 let c:=cP b.2
 let d:=dv (jq a) c.1.toNat c.2 []
 let h:=cP d.2
 let k:=dv (fc a) h.1.toNat h.2 []
 (⟨b.1,d.1,k.1⟩,mI k.2)
def qb(a:Nat)(b:Υ):Option c4:=
 if(qa a b).2.e=0/\dZ a (qa a b).1=ζ/\cY (qa a b).1=b then β (qa a b).1 else ε
abbrev dm(b:Τ):Prop:=∀a∈b,-9223372036854775808<=a/\a<9223372036854775808
theorem rB(a b:Υ):dr ⟨a++b,0⟩ (α a)=(β a,⟨b,0⟩):=by unfold dr;simp
def oZ(a:UInt8)(b:Υ):cP ⟨a::b,0⟩=(a,⟨b,0⟩):=by have:=rB [a] b;rfl
def a0i(a:Nat)(b:a<18446744073709551616):fs (cD a)=a:=by simp only[fs,cD,a9e,aas,a9k,a9l];omega
theorem a0j(a:Int)(b: -9223372036854775808<=a)(c:a<9223372036854775808):(BitVec.ofNat 64 (cq a)^^^9223372036854775808#64).toInt=a:=by grind[π,cq,BitVec.setWidth_eq,BitVec.xor_assoc,BitVec.xor_self,BitVec.xor_zero,BitVec.toInt_ofInt]
def a0k(a:Int)(b:Υ)(d: -9223372036854775808<=a)(h:a<9223372036854775808):iN ⟨ij a++b,0⟩=(a,⟨b,0⟩):=by have c:=rB (ij a) b;rw[Ea]at c;unfold iN;rw[c];simp only;rw[ij,a0i _ (by exact(π 64 a^^^π 64 9223372036854775808).isLt),a0j a d h]
theorem Em(a b:Υ)(c:α a=32):mH ⟨a++b,0⟩=(a,⟨b,0⟩):=by grind[rB,mH]
def a0l(a:Bool)(b:Υ):nO ⟨(if a=ζ then(1:UInt8)else 0)::b,0⟩=(a,⟨b,0⟩):=by unfold nO;rw[oZ];cases a<;>rfl
theorem vs(a:Nat)(c:a<=1048576)(b:Υ):ez 1048576 ⟨ft a++b,0⟩=(a,⟨b,0⟩):=by have d:=rB (ft a) b;grind[kL,ez,fs,ft,UInt8.toNat_ofNat',Nat.shiftRight_eq_div_pow]
def En:∀(a c:Τ)(b:Υ),dm a->jZ (α a) ⟨a.flatMap ij++b,0⟩ c=(c++a,⟨b,0⟩)
 |[],c,b,_=>by simp[jZ]
 |d::a,c,b,h=>by
  have k:=h d acr;rw[a8m,jZ,a8I,a8w,a0k d _ k.1 k.2];simp only[if_true];rw[En a _ b (λo p=>h o (by simp[p]))];simp
def qc(a:Τ)(b:Nat)(c:Υ)(o:α a<=b)(p:α a<=255)(d:dm a):gK b ⟨dE a++c,0⟩=(a,⟨c,0⟩):=by
 have h:(ν (α a)).toNat=α a:=by rw[a9k];omega
 unfold gK;have k:¬b<α a:=acq;rw[dE,a9v,oZ];simp only[h,k,if_false,En a [] c d];simp
def a0m(a:Τ×Bool)(b:Nat)(c:Υ)(d:α a.1<=b)(h:α a.1<=255)(k:dm a.1):jq b ⟨gL a++c,0⟩=(a,⟨c,0⟩):=by unfold jq;rw[gL,a9v,a0l,qc _ _ _ d h k]
structure au.In(d:Nat)(k:au):Prop where
 sum:α k.sum=32
 aV:dm k.aV
 aU:dm k.aU
 key:dm k.key
 p0:α k.aV<=d
 p1:α k.aU<=d
 p2:α k.key<=d
 nP:0<=k.live
 live:k.live<=1048576
 nQ:0<=k.size
 size:k.size<=1048576
def yC(b:au)(c:Nat)(x:c<=255)(d:Υ)(a:b.In c):fc c ⟨dN b++d,0⟩=(b,⟨d,0⟩):=by have y:=a.live;have h:=a.nP;have z:=a.size;have k:=a.nQ;have o:=a.p0;have p:=a.p1;have r:=a.p2;unfold fc;simp only[dN,a8w];rw[Em _ _ a.sum];simp only[];rw[vs _ acq];simp only[];rw[vs _ acq];simp only[];rw[qc _ _ _ o acq a.aV];simp only[];rw[qc _ _ _ p acq a.aU];simp only[];rw[qc _ _ _ r acq a.key];rw[a9Q h,a9Q k]
def tr{d:Type}(k:Rd->d×Rd)(o:d->Υ)(p:d->Prop)(r:∀a b,p a->k ⟨o a++b,0⟩=(a,⟨b,0⟩)):∀(c h:List d)(b:Υ),(∀a∈c,p a)->dv k (α c) ⟨c.flatMap o++b,0⟩ h=(h++c,⟨b,0⟩)
 |[],h,b,_=>by simp[dv]
 |a::c,h,b,x=>by
  rw[a8m,dv,a8I,a8w,r a _ (x a acr)];rw[tr k o p r c _ b (λy z=>x y (by simp[z]))];simp
structure c4.In(d:Nat)(n:c4):Prop where
 ok:dZ d n=ζ
 rows:∀r∈n.rows,dm r.1
 kids:∀k∈n.kids,k.In d
variable{c0:c4}
theorem lG(a:dZ e c0=ζ):(∀b∈c0.rows,α b.1=e)/\α c0.rows<=4/\α c0.kids<=4:=by unfold dZ at a;grind
def Eo(k:e<=255)(b:c0.In e):qb e (cY c0)=β c0:=by
 obtain⟨o,z,C⟩:=lG b.ok;have p:(ν (α c0.rows)).toNat=α c0.rows:=by rw[a9k];omega
 have r:(ν (α c0.kids)).toNat=α c0.kids:=by rw[a9k];omega
 have x:qa e (cY c0)=(c0,⟨[],0⟩):=by unfold qa cY;simp only[oZ,p];rw[tr (jq e) gL (λa=>α a.1=e/\dm a.1) (λa d c=>a0m a e d acq acq c.2) c0.rows [] _ (λa c=>⟨o a c,b.rows a c⟩)];simp only[oZ,r];have:=tr (fc e) dN (λh=>h.In e) (λh d y=>yC h e k d y) c0.kids [] [] b.kids;rw[a9p]at this;rw[this];rfl
 unfold qb;rw[x];simp[b.ok]
def vt(a:List Υ)(b:Nat)(c:Υ):Φ:=(χ b).filter λd=>decide (fo (a.getD d [])=c)
def IL(a:Φ):Ψ:=a.map λb=>.v (.int .i64 ((b:Nat):Int))
abbrev qd:List (Nat×c6):=[(32,.int .u8)]
theorem p3(a:α w=32):di qd (w.map ah):=by
 refine⟨by simp[a],λc b=>?_,?_⟩
 .rw[Ο (by simp[a])]at b;obtain⟨d,_,rfl⟩:=a8D.1 b;rfl
 .show List.drop 32 _=[];simp_all
structure PB(k p:U)(r:Nat)(b:List Υ)(n:Nat)(h:R->Option R):Prop where
 sub:k.sub p
 new:k r=ε
 val:∀d,α d=32->(vt b n d=[]/\h (bo d)=ε)\/(vt b n d≠[]/\∃a c,h (bo d)=β (.J (IL (vt b n d)) (.buf a c))/\k a=ε/\a≠r/\p a=β (.buf 1 (vt b n d).length c))
 inj:∀d o x y a c z,α d=32->α o=32->h (bo d)=β (.J x (.buf a c))->h (bo o)=β (.J y (.buf a z))->d=o
theorem ts(a:Υ)(d:Own)(b:U)(C:α a<=70368744177664):
  AC γ 71 [.J (a.map ah) d] b λk o=>∃h,bf b o 1 (a.map ah) h/\k=.J (a.map ah) h:=by
 refine kJ λD=>?_;have p:d=.nil->a=[]:=λE=>by simp_all
 refine bg hm Ni acr ?_;simp -dsimp -implicitDefEqProofs (disch:=first|omega|assumption|(simp only[aX,Nat.reduceAdd];try omega)) only[go_sem,simprocAttr,-List.reduceReplicate,↓mE];refine mF (λc=>by rw[p c];rfl) (λc=>?_) ?_
 .have r:a=[]:=by simpa using c
  subst r;refine al @a8U ?_;exact⟨b,η,.nil,Ν η,rfl⟩
 .refine bX ?_;refine dD η (by simp[aW]) λF G x=>?_;refine bX ?_;refine nA (w:=[]) x acs λy z L=>?_;refine al @a8y.{0} ?_;exact⟨z,η,y,by trivial,rfl⟩
def a0n(a b:Υ)(d h:Own)(c:U):
  AC γ 105 [.J (a.map ah) d,.J (b.map ah) h] c λk o=>o=c/\k=.v (.bool (decide (a=b))):=by
 refine bg hm O5 acr ?_;have p:nB (.J (a.map ah) d)=β (bc a):=nE;have r:nB (.J (b.map ah) h)=β (bc b):=nE;refine al (aD @p @r @rl) ?_;exact⟨c,η,rfl⟩
def a0o(a:Υ)(b:Own)(c:U)(C:α a<=1000000000000):
  AC γ 104 [.J (a.map ah) b] c λh k=>∃d,bf c k 1 ((preB 80 [a]).map ah) d/\h=.J ((preB 80 [a]).map ah) d:=by
 refine bg hm O3 acr ?_;refine bX ?_;refine dD η (by simp[aW,ρ]) λo p r=>?_;refine bX ?_;refine ag (E1 80 [(a,b)] o (by simp[preB,chunk,cD];omega) p) ?_;rintro _ x⟨y,z,rfl⟩;refine bX ?_;exact⟨x,η,y,z.base r.sub,rfl⟩
def p4(a:Υ):(eb a).length=32:=iL _
def Ep(a:Υ)(d:Own)(c:U)(p:α a<=1000000000000):
  AC γ 52 [.J (a.map ah) d] c λr x=>x=c/\r=bo (eb a):=by
 refine bg hm MN acr ?_;refine bX ?_;refine aN λE h=>?_;refine bX ?_;refine ag (a0o a d _ p) ?_;rintro _ F⟨y,k,rfl⟩;have z:=k.sub _ _ (μ _ _ _);refine bX ?_;refine ag (E5 _ y (by simp[preB,chunk,cD];omega) _) ?_;rintro _ _⟨rfl,rfl⟩;have o:(fo (preB 80 [a])).length=32:=p4 a;have C:∀b,(bo b).cells=b.map ah:=λ_=>rfl;rw[show eb a=fo (preB 80 [a])from rfl];generalize fo (preB 80 [a])=b at*;have D:(b.map ah).length=32:=by simp[o]
 refine al (aP @C @D @o (τ z)) ?_;refine⟨c,κ (ο (κ η h) k.sub) h,rfl,?_⟩;rw[Ο acq];rfl
structure ai where
 m:Υ->Option Υ
 a:Υ
 b:Υ
 one:Bool
def ai.new:ai:=⟨λ_=>ε,[],[],θ⟩
def eS(c:ai)(b:Υ):ai:=
 match c.m (eb b)with
 |none=> {c with m:=λd=>if d=eb b then β b else c.m d}
 |some h=>if c.one=θ/\h≠b then {c with a:=h,b:=b,one:=ζ}else c
abbrev Er(b:Nat)(a:ai)(c d:Own):Ψ:=[.ey b,.J (a.a.map ah) c,.J (a.b.map ah) d,.v (.bool a.one)]
structure bs(h:U)(l k:Nat)(a:ai):Prop where
 at_:∃hz cx,h l=β (.cells (Er k a hz cx))
 mp:∃c,nD h k qd c/\∀d,α d=32->match a.m d with
  |none=>c (bo d)=ε
  |some b=>α b<=1000000000000/\∃o,c (bo d)=β (.J (b.map ah) o)
 rC:α a.a<=1000000000000
 rD:α a.b<=1000000000000
def Ext(c d:Nat)(h k:U):Prop:=∀a b,a≠c->a≠d->h a=β b->k a=β b
def Ext.refl:Ext e i f f:=λ_ _ _ _ a=>a
theorem Ext.of{l lM:Nat}{s:U}(a:s.sub f):Ext l lM s f:=λb c _ _ d=>a b c d
theorem Ext.trans(h:Ext e i f s)(k:Ext e i s e5):Ext e i f e5:=λa b c d o=>k a b c d (h a b c d o)
variable{H:ai}
def bs.ne(a:bs f e i H):e≠i:=by obtain⟨d,h,c⟩:=a.at_;obtain⟨k,⟨o,p,b,_⟩,_⟩:=a.mp;rintro rfl;rw[c]at b;cases b
def bs.mono(a:bs f e i H)(b:f.sub s):bs s e i H:=by obtain⟨c,d,h⟩:=a.at_;obtain⟨k,⟨o,p,r,x⟩,y⟩:=a.mp;exact⟨⟨c,d,b _ _ h⟩,⟨k,⟨o,p,b _ _ r,x⟩,y⟩,a.rC,a.rD⟩
def bs.other(a:bs f e i H)(b:s e=f e)(c:s i=f i):bs s e i H:=by obtain⟨d,h,k⟩:=a.at_;obtain⟨o,⟨p,r,x,y⟩,z⟩:=a.mp;exact⟨⟨d,h,by rw[b];exact k⟩,⟨o,⟨p,r,by rw[c];exact x,y⟩,z⟩,a.rC,a.rD⟩
def a0p:(R.ey e).cells=[.ey e]:=rfl
def qe(b:U):AC γ 13 [] b λE k=>∃a c,b a=ε/\b c=ε/\E=.ptr a 0/\bs k a c ai.new/\b.sub k:=by
 refine bg hm LX acr ?_;refine bX ?_;refine aN λc o=>?_;have F:∀G p r h x:R,putAt [G,p,r,h] 0 [x]=[x,p,r,h]:=λ_ _ _ _ _=>rfl;have y:∀z,(R.agg z).cells=z:=λ_=>rfl;refine al (aD @a0p @F @y) ?_;refine aN λa d=>?_;refine al @y ?_;have C:a≠c:=by rintro rfl;rw[μ]at d;cases d
 have D:b a=none:=by rw[ξ _ _ C]at d;exact d
 refine⟨_,η,a,c,D,o,rfl,⟨⟨.nil,.nil,by rw[μ];rfl⟩,⟨_,⟨[],0,by rw[ξ _ _ (Δ C),μ],kI.new⟩,λh _=>rfl⟩,by trivial,by trivial⟩,κ (κ η o) D⟩
def iO:(bo w).cells=w.map ah:=rfl
def a0q(d:U)(z C:Nat)(h:ai)(F:bs d z C h)(a:Υ)(k:α a=32):
  AC γ 50 [.ptr z 0,bo a] d λD G=>d.sub G/\match h.m a with
   |none=>D=.aJ [.J [] .nil,.v (.int .i64 9)]
   |some o=>∃p,D=.aJ [.J (o.map ah) p,.v (.int .i64 0)]:=by
 obtain⟨⟨s,t,L⟩,⟨c,P,b⟩,_,_⟩:=F;have b:=b a k;have r:(a.map ah).length=32:=by simp[k]
 refine bg hm ML acr ?_;refine al (c2 @iO @r) ?_;refine aN λS T=>?_;have x:=κ (Z:=.cells (a.map ah)) (η) T;have V:nD (d.set S (.cells (a.map ah))) C qd c:=by obtain⟨W,e,f,g⟩:=P;exact⟨W,e,x _ _ f,g⟩
 have i:=x _ _ L;have j:aQ ζ 32 (a.map ah)=bo a:=by rw[aQ,if_pos rfl,Ο acq];rfl
 refine al (bl @iO @r @k (ι i) @j) ?_;refine uW V (p3 k) (λv y=>?_) (λE=>?_)
 .cases hm:h.m a with
  |none=>rw[hm]at b;rw[show c (.agg (a.map ah))=c (bo a)from rfl,b]at y;cases y
  |some o=>rw[hm]at b;obtain⟨l,p,b⟩:=b;rw[show c (.agg (a.map ah))=c (bo a)from rfl,b]at y;obtain rfl:=Β y;refine al (c2 @iO @r) ?_;refine ag (ts o p _ acq) ?_;rintro _ m⟨n,q,rfl⟩;refine bX ?_;exact⟨m,η,ο x q.sub,n,rfl⟩
 .cases hm:h.m a with
  |none=>refine al (c2 @iO @r) ?_;exact⟨_,η,x⟩
  |some o=>rw[hm]at b;obtain⟨l,p,b⟩:=b;rw[show c (.agg (a.map ah))=c (bo a)from rfl,b]at E;cases E
def a0r(b:U)(k y:Nat)(a:ai)(c:bs b k y a):
  AC γ 31 [.ptr k 0] b λz C=>b.sub C/\∃d h,z=.aJ [.J (a.a.map ah) d,.J (a.b.map ah) h,.v (.bool a.one)]:=by
 have L:=c.rC;have P:=c.rD;obtain⟨d,h,o⟩:=c.at_;refine bg hm Mj acr ?_;refine al (ι o) ?_;refine ag (ts a.a d _ acq) ?_;rintro _ S⟨D,p,rfl⟩;have r:=p.sub _ _ o;refine al (ι r) ?_;refine ag (ts a.b h _ acq) ?_;rintro _ E⟨F,x,rfl⟩;have G:=x.sub _ _ r;refine al (ι G) ?_;exact⟨E,η,ο p.sub x.sub,D,F,rfl⟩
theorem a0s(C:U)(k d:Nat)(h:ai)(G:bs C k d h)(b:Υ)(V:Own)(Q:α b<=1000000000000):
  AC γ 53 [.ptr k 0,.J (b.map ah) V] C λn3 L=>n3=bo (eb b)/\bs L k d (eS h b)/\Ext k d C L:=by
 have l2:=G.ne;refine bg hm MP acr ?_;refine bX ?_;refine aN λD i=>?_;have u:=κ (Z:=.cells (δ 32 (.v (.int .u8 0)))) (η) i;have aP:(C.set D (.cells (δ 32 (.v (.int .u8 0))))) D= _:=μ _ _ _;refine bX ?_;generalize C.set D (.cells (δ 32 (.v (.int .u8 0))))=a13 at*;refine ag (Ep b V _ Q) ?_;rintro _ X⟨rfl,rfl⟩;refine bX ?_;refine aN λW e=>?_;have a14:D≠W:=by rintro rfl;rw[aP]at e;cases e
 have o:=p4 b;have n4:∀c,eS h b=eS h b->c=eb b->α c=32:=λc _ y=>by rw[y];exact o
 generalize Y:eb b=c at*;have x:(c.map ah).length=32:=by simp[o]
 have j:putAt (δ 32 (R.v (.int .u8 0))) 0 (c.map ah)=c.map ah:=by rw[putAt,a9Y,a8y,x,a8Z acr,a9p]
 refine al (bl @iO @x @o @j @ς) ?_;have Z:=κ (Z:=.cells (c.map ah)) (η) e;have bl:(X.set W (.cells (c.map ah))) W= _:=μ _ _ _;have l3:=Z _ _ aP;have l4:=G.mono (ο u Z);have l5:Ext k d C (X.set W (.cells (c.map ah))):=Ext.of (ο u Z);have n5:D≠k:=by rintro rfl;obtain⟨_,_,y⟩:=G.at_;rw[y]at i;cases i
 have n9:W≠k:=by rintro rfl;obtain⟨_,_,y⟩:=G.at_;rw[u _ _ y]at e;cases e
 have l6:D≠d:=by rintro rfl;obtain⟨_,⟨_,_,y,_⟩,_⟩:=G.mp;rw[y]at i;cases i
 have a00:W≠d:=by rintro rfl;obtain⟨_,⟨_,_,y,_⟩,_⟩:=G.mp;rw[u _ _ y]at e;cases e
 obtain⟨l7,l,n⟩:=l4.at_;obtain⟨P,w,k3⟩:=l4.mp;have E:=k3 c o;have F:aQ ζ 32 (c.map ah)=bo c:=by rw[aQ,if_pos rfl,Ο acq];rfl
 clear n4;have l8:∀L:U,bs L k d (eS h b)->Ext k d C L->bs (L.set D (.cells (c.map ah))) k d (eS h b)/\Ext k d C (L.set D (.cells (c.map ah))):=by
  intro L a01 a02;refine⟨a01.other (ξ _ _ (Δ n5)) (ξ _ _ (Δ l6)),λp V n r S=>?_⟩;have a03:p≠D:=by rintro rfl;rw[i]at S;cases S
  rw[ξ _ _ a03];exact a02 p V n r S
 have f:X k=β (.cells (Er d h l7 l)):=by rw[ξ _ _ (Δ n9)]at n;exact n
 refine al (bx @iO @x @o (ι f) (ι bl) @F) ?_;refine uW w (p3 o) (λv A=>?_) (λl9=>?_)
 .cases hm:h.m c with
  |none=>rw[hm]at E;rw[show P (.agg (c.map ah))=P (bo c)from rfl,E]at A;cases A
  |some q=>
   rw[hm]at E;obtain⟨n0,B,E⟩:=E;rw[show P (.agg (c.map ah))=P (bo c)from rfl,E]at A;obtain rfl:=Β A;have g:eS h b=if h.one=θ/\q≠b then {h with a:=q,b:=b,one:=ζ}else h:=by unfold eS;rw[Y,hm]
   refine al (bx @iO @x @o (ι f) (ι bl) @F) ?_;cases s:h.one with
   |true=>refine al (de @iO @x @o (ι f) (ι bl) (τ aP) @F @j @s) ?_;rw[s]at g;rw[if_neg acr]at g;grind[η]
   |false=>
    refine al (cb @iO @x @o (ι f) (ι bl) @F @s) ?_;refine ag (a0n q b B V _) ?_;rintro _ _⟨rfl,rfl⟩;by_cases H:q=b
    .refine al (cj @iO @x @o (ι f) (ι bl) (τ aP) @F @j @s @H) ?_;rw[if_neg (by simp[H])]at g;grind[η]
    .refine al (cj @iO @x @o (ι f) (ι bl) (τ aP) @F @j @s @H) ?_;rw[if_pos ⟨s,H⟩]at g;refine ag (ts b V _ acq) ?_;rintro _ T⟨I,r,rfl⟩;have K:=r.sub _ _ n;have M:=r.sub _ _ l3;have t:=r.sub _ _ bl;have n1:=w;have a04:∀a b z c p:R,putAt [a,b,z,c] 1 [p]=[a,p,z,c]:=λ_ _ _ _ _=>rfl;have a05:∀a b z c p:R,putAt [a,b,z,c] 2 [p]=[a,b,p,c]:=λ_ _ _ _ _=>rfl;have a06:∀a b z c p:R,putAt [a,b,z,c] 3 [p]=[a,b,z,p]:=λ_ _ _ _ _=>rfl;refine al (gV @iO @x @o (τ K) (ι t) (τ M) @F @j @a04 @a05 @a06 @ς) ?_;have a07:∀k4,k4=bt.cells [.ey d,.J (q.map ah) B,.J (b.map ah) I,.v (.bool ζ)]->bs (T.set k k4) k d (eS h b)/\Ext k d C (T.set k k4):=by rintro _ rfl;obtain⟨k5,z,k6,k7⟩:=w;rw[g];refine⟨⟨⟨B,I,μ _ _ _⟩,⟨P,⟨k5,z,by rw[ξ _ _ (Δ l2)];exact r.sub _ _ k6,k7⟩,k3⟩,n0,Q⟩,λp l S N k8=>?_⟩;rw[ξ _ _ S];exact r.sub _ _ (l5 p l S N k8)
     obtain⟨k9,l0⟩:=a07 _ rfl;exact⟨_,η,l8 _ k9 l0⟩
 .cases hm:h.m c with
  |some q=>rw[hm]at E;obtain⟨n0,B,E⟩:=E;rw[show P (.agg (c.map ah))=P (bo c)from rfl,E]at l9;cases l9
  |none=>
   have g:eS h b= {h with m:=λc=>if c=eb b then β b else h.m c}:=by unfold eS;rw[Y,hm]
   refine al (bx @iO @x @o (ι f) (ι bl) @F) ?_;refine ag (ts b V _ acq) ?_;rintro _ T⟨I,r,rfl⟩;have K:=r.sub _ _ n;have M:=r.sub _ _ l3;have t:=r.sub _ _ bl;have n1:nD T d qd P:=by obtain⟨k5,z,k6,k7⟩:=w;exact⟨k5,z,r.sub _ _ k6,k7⟩
   refine al (bx @iO @x @o (ι K) (ι t) @F) ?_;refine DD n1 (p3 o) λO a08=>?_;have a09:(T.set d O) W=β (.cells (c.map ah)):=by rw[ξ _ _ a00];exact t
   have a10:(T.set d O) D=β (.cells (δ 32 (.v (.int .u8 0)))):=by rw[ξ _ _ l6];exact M
   refine al (de @iO @x @o (ι t) (ι a09) (τ M) (τ a10) @F @j) ?_;have k9:bs (T.set d O) k d (eS h b):=by
    rw[g];refine⟨⟨l7,l,by rw[ξ _ _ l2];exact K⟩,⟨_,a08,λn2 a11=>?_⟩,G.rC,G.rD⟩;simp only[Y];by_cases l1:n2=c
    .subst l1;rw[if_pos rfl];exact⟨Q,I,tb⟩
    .rw[if_neg l1];rw[show(R.agg (c.map ah))=bo c from rfl,pY (λy=>l1 (vm y))];exact k3 n2 a11
   have l0:Ext k d C (T.set d O):=λp l S N k8=>by
    rw[ξ _ _ N];exact r.sub _ _ (l5 p l S N k8)
   exact⟨_,η,l8 _ k9 l0⟩
structure eB(a b:U)(h c:Nat)(l:List Υ):Prop where
 cx:∃o,b h=β (.cells [.J (l.map bo) o,.ey c])/\bf a b 32 (l.map bo) o
 new:a h=ε/\a c=ε
 mp:∃k,nD b c qd k/\∀d,α d=32->k (bo d)=if d∈l then β (.v (.bool ζ))else ε
 len:∀d∈l,α d=32
def Es:U.emp.sub f:=λ_ _ a=>by cases a
def jr(b c:Nat)(d:U):U:=λa=>if a=b\/a=c then ε else match d a with
 |some (.buf _ _ _)=>ε
 |h=>h
abbrev dC(a b:Nat)(c d:U):Prop:=(jr a b c).sub d
def vu:(jr e i f).sub f:=λb c a=>by
 unfold jr at a;split at a
 .cases a
 .split at a
  .cases a
  .exact a
def yD(a:f e=β Z)(o:e≠i)(p:e≠v)(b:∀c d h,Z≠.buf c d h):jr i v f e=β Z:=by
 unfold jr;rw[if_neg acq,a];split
 .rename_i k;exact absurd (Β k) (b _ _ _)
 .rfl
def tt(a:f e=β (.cells g))(b:e≠i)(c:e≠v):jr i v f e=β (.cells g):=yD a b c λ_ _ _ d=>by cases d
theorem dC.of{X:Nat}{s:U}(a:s.sub f):dC X e s f:=ο vu a
theorem dC.trans(d:dC e i s e5)(h:dC e i e5 f):dC e i s f:=λb c a=>by
 refine h b c (yD (d b c a) ?_ ?_ ?_)
 .rintro rfl;simp[jr]at a
 .rintro rfl;simp[jr]at a
 .rintro o p f rfl;unfold jr at a;split at a
  .cases a
  .split at a
   .cases a
   .rename_i k;exact k _ _ _ a
def eB.sub{b c:U}{d h:Nat}{k:List Υ}(a:eB b c d h k):b.sub c:=by obtain⟨o,_,a⟩:=a.cx;exact a.1
variable{h5:List Υ}
def eB.ne(a:eB f s e i h5):e≠i:=by obtain⟨d,c,_⟩:=a.cx;obtain⟨h,⟨k,o,b,_⟩,_⟩:=a.mp;rintro rfl;rw[c]at b;cases b
def eB.mono{c d h:U}{k o:Nat}{p:List Υ}(a:eB c d k o p)(b:d.sub h):eB c h k o p:=by obtain⟨r,x,y⟩:=a.cx;obtain⟨z,⟨C,D,E,F⟩,G⟩:=a.mp;exact⟨⟨r,b _ _ x,y.mono b⟩,a.new,⟨z,⟨C,D,b _ _ E,F⟩,G⟩,a.len⟩
theorem bs.fE(a:bs f v O H)(d:eB e5 f e i h5)(h:dC e i f s)(p:O≠i):bs s v O H:=by
 obtain⟨r,x,c⟩:=a.at_;obtain⟨y,⟨z,C,k,D⟩,E⟩:=a.mp;obtain⟨P,b,_⟩:=d.cx;obtain⟨_,⟨_,_,o,_⟩,_⟩:=d.mp;have F:v≠e:=by rintro rfl;rw[c]at b;cases b
 have G:v≠i:=by rintro rfl;rw[c]at o;cases o
 have a3:O≠e:=by rintro rfl;rw[k]at b;cases b
 exact⟨⟨r,x,h _ _ (tt c F G)⟩,⟨y,⟨z,C,h _ _ (yD k a3 p λ_ _ _ L=>by cases L),D⟩,E⟩,a.rC,a.rD⟩
def Et{h:bt}(b:bf f s i g M)(k:f e=ε)(c:s e=β Z)(o:∀p d,Z≠.buf i p d):bf f (s.set e h) i g M:=by
 refine⟨κ b.1 k,?_⟩;have a:=b.2;cases M with
 |buf r d=>
  have:r≠e:=by rintro rfl;rw[a.2]at c;exact o _ _ (Β c).symm
  exact⟨a.1,by rw[ξ _ _ this];exact a.2⟩
 |_=>exact a
def a0t(b:U):AC γ 72 [] b λy z=>∃a c,b a=ε/\b c=ε/\y=.ptr a 0/\eB b z a c []:=by
 have F:∀o:Nat,(R.ey o).cells=[.ey o]:=λ_=>rfl;have G:∀p C r:R,putAt [p,C] 1 [r]=[p,r]:=λ_ _ _=>rfl;refine aL hm Nk ?_;refine aN λc h=>?_;refine aa ?_;refine aN λa d=>?_;have x:a≠c:=by rintro rfl;rw[μ]at d;cases d
 have k:b a=none:=by rw[ξ _ _ x]at d;exact d
 refine aa ?_;refine⟨_,η,a,c,k,h,rfl,⟨.nil,μ _ _ _,Ν (κ (κ η h) k)⟩,⟨k,h⟩,⟨_,⟨[],0,by rw[ξ _ _ x.symm,μ],kI.new⟩,λD _=>rfl⟩,λD E=>by cases E⟩
def eK(a:List Υ)(b:Υ):List Υ:=if b∈a then a else a++[b]
def a0u(g C:U)(D b:Nat)(c:List Υ)(y:eB g C D b c)(a:Υ)(L:α a=32)(n4:α c<=1000000000):
  AC γ 147 [.ptr D 0,bo a] C λk4 t=>dC D b C t/\eB g t D b (eK c a)/\k4=.v (.bool (decide (a∉c))):=by
 have u:=y.ne;have k5:=y;obtain⟨⟨w,k6,k7⟩,⟨A,B⟩,⟨E,H,I⟩,K⟩:=y;have M:=I a L;have k8:(a.map ah).length=32:=by simp[L]
 have d:aQ ζ 32 (a.map ah)=bo a:=by rw[aQ,if_pos rfl,Ο acq];rfl
 have k9:(bo a).cells=a.map ah:=rfl;refine aL hm Pl ?_;refine aN λT i=>?_;rw[k9];have aD:=μ C T (.cells (a.map ah));have F:=κ (Z:=.cells (a.map ah)) (η (f:=C)) i;have l0:T≠b:=by obtain⟨P,k,p,_⟩:=H;rintro rfl;rw[p]at i;cases i
 generalize C.set T _=z at*;have N:=F _ _ k6;have fl:=ι N;have l1:=ι aD;have j:nD z b qd E:=by obtain⟨P,k,p,S⟩:=H;exact⟨P,k,F _ _ p,S⟩
 refine aa ?_;refine uW j (p3 L) (λv r=>?_) (λr=>?_)
 .rw[show E (.agg (a.map ah))=E (bo a)from rfl,M]at r;by_cases G:a∈c
  .rw[if_pos G]at r;obtain rfl:=Β r;refine aa ?_;exact⟨_,η,dC.of F,by rw[eK,if_pos G];exact k5.mono F⟩
  .rw[if_neg G]at r;cases r
 .rw[show E (.agg (a.map ah))=E (bo a)from rfl,M]at r;by_cases G:a∈c
  .rw[if_pos G]at r;cases r
  refine aa ?_;refine DD j (p3 L) λaA l2=>?_;have O:bf g (z.set b aA) 32 (c.map bo) w:=by obtain⟨P,k,p,_⟩:=j;exact Et (k7.mono F) B p λ_ _ d=>by cases d
  have Q:(z.set b aA) D=β (.cells [.J (c.map bo) w,.ey b]):=by rw[ξ _ _ u];exact N
  have c2:(z.set b aA) T=β (.cells (a.map ah)):=by rw[ξ _ _ l0];exact aD
  have l3:∀h o,h≠b->z h=β o->(z.set b aA) h=β o:=λh o l V=>by rw[ξ _ _ l];exact V
  generalize z.set b aA=l4 at*;have fl:=ι Q;have l1:=ι c2;obtain⟨l5,l6,n5,l7,l8⟩:=O.nJ;have m:∀h o,(∀W e k,o≠.buf W e k)->l4 h=β o->l5 h=β o:=λh o l V=>by
   rw[l8 h (λn9 k d=>by rintro rfl;subst d;have:=O.2.2;rw[V]at this;exact l _ _ _ (Β this))];exact V
  have a00:(bo a).cells.length=32:=k8;have a01:(c.map bo).length=α c:=a8o _;refine aa ?_;refine hx l6 (λX n=>by obtain⟨Y,l9,rfl⟩:=a8D.1 n;show(Y.map ah).length=32;simp[K Y l9]) λ_ n0 a02 f _=>?_;have q:=f.sub _ _ (m _ _ (λ_ _ _ d=>by cases d) Q);have fl:=ι q;have a03:=τ q;refine aa ?_;have Z:c.map bo++[bo a]=(c++[a]).map bo:=acr;refine⟨_,η,λh o x=>?_,?_⟩
  .have p:h≠D:=by rintro rfl;simp[jr]at x
   have S:h≠b:=by rintro rfl;simp[jr]at x
   have n1:∀W e k,o≠.buf W e k:=by
    rintro W e k rfl;unfold jr at x;split at x
    .cases x
    .split at x
     .cases x
     .rename_i n2;exact n2 _ _ _ x
   rw[ξ _ _ p];exact f.sub _ _ (m _ _ n1 (l3 _ _ S (F _ _ (vu _ _ x))))
  .rw[eK,if_neg G];refine⟨⟨n0,by rw[μ,<-Z],?_⟩,⟨A,B⟩,⟨jm E (bo a) (.v (.bool ζ)),?_,λk3 n3=>?_⟩,λX n=>?_⟩
   .rw[<-Z];exact Et (f.base l7) A q λ_ _ d=>by cases d
   .obtain⟨P,k,p,S⟩:=l2;exact⟨P,k,by rw[ξ _ _ u.symm];exact f.sub _ _ (m _ _ (λ_ _ _ d=>by cases d) p),S⟩
   .by_cases s:k3=a
    .subst s;rw[tb,if_pos acr]
    .rw[pY (λd=>s (vm d)),I k3 n3];simp[s]
   .rcases a8u.1 n with y|y
    .exact K X y
    .obtain rfl:=a8B.1 y;exact L
def yE:af (t++b8)=af t++af b8:=by simp[af]
def gq{v:Int}(a:t[e]?=β v):cO 1 (.J (af t) M) (.v (.int .i64 (e:Int)))=β (.bZ [.v (.int .i64 v)]):=by
 have b:(0)<=(e:Int):=acq;have c:(af t)[e]?=β (.v (.int .i64 v)):=by simp[af,a]
 simp only[cO,b,if_true,a8N,c];rw[lC (e:=1) rfl];rfl
def p5{v:Int}:du θ 1 f (.bZ [.v (.int .i64 v)])=β (.v (.int .i64 v)):=rfl
theorem a0v:bT f 1 (.J (af t) M)=β (α t,af t):=by
 have a:((af t).all λb=>decide (α b.cells=1))=true:=by simp[af,ρ]
 have c:flat (af t)=af t:=by induction t with
  |nil=>rfl
  |cons d t ih=>grind[af,flat,ρ]
 simp[bT,a,c,bM]
theorem yF(a:Τ)(h:Own)(c:U)(r:α a<=1000000000000):
  AC γ 291 [.J (af a) h] c λk d=>av c d 1 (af a) k:=by
 refine kJ λx=>?_;have o:h=.nil->a=[]:=λy=>by simp_all [af]
 refine bg hm T5 acr ?_;simp -dsimp -implicitDefEqProofs (disch:=first|omega|assumption|(simp only[aX,Nat.reduceAdd];try omega)) only[go_sem,simprocAttr,-List.reduceReplicate,↓mE];refine mF (λb=>by rw[o b];rfl) (λb=>?_) ?_
 .have p:a=[]:=by simpa[af] using b
  subst p;refine aa ?_;exact⟨c,η,av.nil η⟩
 .refine al @nC ?_;refine eZ (av.zero (η)) acq a0v (by rw[bM];omega) (by simp[bM];omega) (by simp[bM];omega) λk d b=>?_;refine aa ?_;exact⟨d,η,by trivial⟩
theorem tu(b:av f s 1 (af t) n):∃a,f.sub a/\View s n a (.J (af t) .any):=by grind[View.dA,jX,Γ]
theorem tv(a:Τ)(c:Own)(b:U)(k:α a<=1000000000000):
  AC γ 291 [.J (af a) c] b λd h=>b.sub h/\d=.J (af a) .any:=
 (yF a c b k).view λd h o=>by
  obtain⟨p,r,x⟩:=tu o;grind
theorem lH(a c:Τ)(G L:Own)(h:U)(l:α a<=1000000000000):
  AC γ 110 [.J (af a) G,.J (af c) L] h λp r=>r=h/\p=.v (.bool (decide (a=c))):=by
 refine bg hm Of acr ?_;have V:=bM (t:=a);have W:=bM (t:=c);by_cases m:α a=α c
 .have x:(α a:Int)=α c:=acq;refine aa ?_;rw[<-x];refine cv (λd r=>∃b:Nat,b<=α a/\r=h/\d 0=.J (af a) G/\d 1=.J (af c) L/\d 12=.v (.int .i64 (α a))/\d 13=.v (.int .i64 b)/\a.take b=c.take b)
   (λd _=>match d 13 with|.v (.int _ e)=>(α a - e).toNat|_=>0) ⟨0,acq,rfl,?_⟩ ?_
  .exact aR
  .rintro d n⟨b,q,rfl,y,z,C,D,f⟩;by_cases E:(b:Int)<α a
   .have k:a[b]?=β a[b]:=Μ acq;have o:c[b]?=β c[b]:=Μ acq;have P:a.take (b+1)=a.take b++[a[b]]:=by rw[a9x,k];rfl
    have S:c.take (b+1)=c.take b++[c[b]]:=by rw[a9x,o];rfl
    have T:a[b]'acq≠c[b]'acq->a≠c:=λg i=>g (by simp[i]);generalize a[b]'acq=p at k P T;generalize c[b]'acq=j at o S T;by_cases F:p=j
    .simp -dsimp -implicitDefEqProofs (disch:=first|omega|assumption|(simp only[aX,Nat.reduceAdd];try omega)) only[go_sem,simprocAttr,-List.reduceReplicate,y,z,C,D,E,gq k,gq o,p5,F];exact⟨⟨b+1,acq,acr,by rw[P,S,f,F]⟩,acq⟩
    .simp -dsimp -implicitDefEqProofs (disch:=first|omega|assumption|(simp only[aX,Nat.reduceAdd];try omega)) only[go_sem,simprocAttr,-List.reduceReplicate,y,z,C,D,E,gq k,gq o,p5,F];grind[η]
   .obtain rfl:b=α a:=acq;refine al (bl @y @z @C @D @E) ?_;grind[List.take_length,η]
 .have x:¬(α a:Int)=α c:=acq;refine al (aD @V @W @x) ?_;have:a≠c:=by rintro rfl;omega
  exact⟨h,η,by simp[this]⟩
abbrev eT(a b:Τ)(c d:Own):R:=.agg [.J (af a) c,.J (af b) d]
theorem yG(b:Nat)(k:FuncId)(p r:Ψ)(d:U)(o:Nat->Bool)(S:b<=1000000000000)(F:fH γ k=ζ)
  (G:∀a:Nat,a<b->AC γ k (p++[.v (.int .i64 (a:Int))]++r) d λx h=>h=d/\x=.v (.bool (o a))):
  AC γ 281 [.v (.int .i64 (b:Int)),.bL k p r] d λx h=>h=d/\x=.v (.bool ((χ b).all o)):=by
 refine bg hm SU acr ?_;refine aa ?_;refine cv (λc h=>∃a:Nat,a<=b/\h=d/\(χ a).all o=ζ/\c 0=.v (.int .i64 (b))/\c 1=.bL k p r/\c 6=.v (.int .i64 (b))/\c 7=.v (.int .i64 (a)))
  (λc _=>match c 7 with|.v (.int _ L)=>b - L.toNat|_=>0) ⟨0,acq,rfl,rfl,?_⟩ ?_
 .exact aR
 rintro c T⟨a,V,rfl,P,y,z,C,D⟩;by_cases E:(a:Int)<b
 .refine aa ?_;refine fm F (G a acq) ?_;rintro _ _⟨rfl,rfl⟩;cases W:o a with
  |true=>refine aa ?_;grind
  |false=>refine al (bx @y @z @C @D @E @a8U) ?_;refine⟨_,η,rfl,?_⟩;grind
 .obtain rfl:a=b:=acq;simp -dsimp -implicitDefEqProofs (disch:=first|omega|assumption|(simp only[aX,Nat.reduceAdd];try omega)) only[go_sem,simprocAttr,-List.reduceReplicate,y,z,C,D,E];exact⟨_,η,rfl,by rw[P]⟩
theorem a0w(d:U)(h:Nat)(b c:Τ)(p r:Own)(a:Nat)(x:d.read h=β [.J (af b) p,.J (af c) r])(C:a<α b)(D:a<α c):
  AC γ 282 [.v (.int .i64 (a:Int)),.ptr h 0] d λy z=>z=d/\y=.v (.bool (decide (b.getD a 0<=c.getD a 0))):=by
 refine bg hm SX acr ?_;have k:b[a]?=β (b.getD a 0):=by simp_all
 have o:c[a]?=β (c.getD a 0):=by simp_all
 generalize b.getD a 0=E at k;generalize c.getD a 0=F at o;simp -dsimp -implicitDefEqProofs (disch:=first|omega|assumption|(simp only[aX,Nat.reduceAdd];try omega)) only[go_sem,simprocAttr,-List.reduceReplicate,x,gq k,gq o,p5];exact⟨d,η,rfl⟩
theorem p6(d:U)(b c:Τ)(o p:Own)(a:Nat)(D:a<=1000000000000):
  AC γ 217 [eT b c o p,.v (.int .i64 (a:Int))] d λE F=>F=d/\E=.v (.bool (cS b c a)):=by
 refine bg hm Rm acr ?_;have r:=bM (t:=b);have G:=bM (t:=c);refine aa ?_;refine aN λL h=>?_;unfold cS;by_cases c1:(a:Int)<1
 .have x:¬1<=a:=acq;refine al (c2 @c1 @x) ?_;exact⟨d,κ η h,by rfl⟩
 have x:1<=a:=acq;by_cases c2:(8:Int)<a
 .have y:¬a<=8:=acq;simp -dsimp -implicitDefEqProofs (disch:=first|omega|assumption|(simp only[aX,Nat.reduceAdd];try omega)) only[go_sem,simprocAttr,-List.reduceReplicate,c1,c2];exact⟨d,κ η h,by simp[y]⟩
 have y:a<=8:=acq;by_cases aD:(α b:Int)=a
 .have z:α b=a:=acq;by_cases aP:(α c:Int)=a
  .have C:α c=a:=acq;refine aa ?_;refine ag (yG a _ _ _ _ (λk=>decide (b.getD k 0<=c.getD k 0)) D acx λk P=>a0w _ L b c o p k ?_ acq acq) ?_
   .simp[U.read,μ]
   rintro _ _⟨rfl,rfl⟩;refine bX ?_;exact⟨d,κ η h,rfl,by simp_all⟩
  .have C:¬α c=a:=acq;refine al (bx @c1 @c2 @aD @aP @r @G) ?_;exact⟨d,κ η h,by simp[C]⟩
 .have z:¬α b=a:=acq;refine al (aP @c1 @c2 @aD @r) ?_;exact⟨d,κ η h,by simp[z]⟩
def a0x(y:U)(a:Τ)(h:Own)(z:α a<=1000000000000):
  AC γ 290 [.J (af a) h] y λk L=>y.sub L/\∃P S,k=eT (gp a).1 (gp a).2 P S:=by
 refine bg hm T3 acr ?_;have C:=bM (t:=a);refine aa ?_;refine aN λf o=>?_;unfold gp;have p:∀b c d D:R,putAt [b,c] 0 [d,D]=[d,D]:=λ_ _ _ _=>rfl;have r:∀E,(R.agg E).cells=E:=λ_=>rfl;have x:∀b c,aQ ζ 2 [b,c]=.agg [b,c]:=λ_ _=>rfl;by_cases c1:(α a:Int)<1
 .refine al (bl @c1 @C @p @r @x) ?_;rw[if_neg acq];exact⟨_,η,κ η o,.nil,.nil,rfl⟩
 by_cases c2:(8:Int)<α a
 .refine al (bx @c1 @c2 @C @p @r @x) ?_;rw[if_neg acq];exact⟨_,η,κ η o,.nil,.nil,rfl⟩
 refine aa ?_;refine ag (tv a h _ z) ?_;rintro _ g⟨F,rfl⟩;refine aa ?_;refine ag (tv a h _ z) ?_;rintro _ i⟨G,rfl⟩;have T:=G _ _ (F _ _ (μ _ _ _));have V:∀b c d:R,putAt [b,c] 0 [d]=[d,c]:=λ_ _ _=>rfl;have W:∀b c d:R,putAt [b,c] 1 [d]=[b,d]:=λ_ _ _=>rfl;have e:∀k h,(R.J k h).cells=[.J k h]:=λ_ _=>rfl;refine al (cb (τ T) @p @V @W @r @e @x) ?_;rw[if_pos acq];exact⟨_,η,κ (ο (κ η o) (ο F G)) o,.any,.any,rfl⟩
theorem a0y(h:U)(a b c k:Τ)(o p r x:Own)(C:α a<=1000000000000)(D:α b<=1000000000000):
  AC γ 283 [eT a b o p,eT c k r x] h λE F=>F=h/\E=.v (.bool (decide (a=c)&&decide (b=k))):=by
 refine bg hm SZ acr ?_;refine aa ?_;refine aN λG S=>?_;refine aa ?_;refine aN λy d=>?_;have L:G≠y:=by rintro rfl;rw[μ]at d;cases d
 have P:=Δ L;have T:h y=none:=by rw[ξ _ _ P]at d;exact d
 refine aa ?_;refine ag (lH a c o r _ C) ?_;rintro _ _⟨rfl,rfl⟩;by_cases z:a=c
 .refine aa ?_;refine ag (lH b k p x _ D) ?_;rintro _ _⟨rfl,rfl⟩;refine al @z ?_;grind[κ,η]
 .refine al @z ?_;grind[κ,η]
def qf(b c:U)(d h:Τ)(k o:R):Prop:=∃a,av b a 1 (af d) k/\av a c 1 (af h) o
def fv(a:av f s e g n):n.cells=[n]:=by obtain⟨_,⟨_,rfl|rfl⟩|⟨_,_,_,_,rfl,_⟩⟩:=a<;>rfl
def ka{k:bt}(o:av f s i g n)(b:f e=β k):av (f.set e Z) (s.set e Z) i g n:=by
 obtain⟨p,a⟩:=o;refine⟨U.lD p,?_⟩;rcases a with a|⟨c,r,x,y,z,d,C,D⟩
 .exact .inl a
 .have h:c≠e:=by rintro rfl;rw[d]at b;cases b
  exact .inr ⟨c,r,x,y,z,by rw[ξ _ _ h];exact d,by rw[ξ _ _ h];exact C,D⟩
def vv(x:U)(h k:Τ)(y z:Own)(S:α h<=1000000000000)(T:α k<=1000000000000):
  AC γ 318 [eT h k y z] x λV W=>∃a b,V=.agg [a,b]/\qf x W h k a b:=by
 refine bg hm TD acr ?_;refine bX ?_;refine aN λe D=>?_;refine bX ?_;refine aN λC o=>?_;have d:e≠C:=by rintro rfl;rw[μ]at o;cases o
 have E:=Δ d;have F:x C=none:=by rw[ξ _ _ E]at o;exact o
 have G:∀L,(R.agg L).cells=L:=λ_=>rfl;have q:=κ (Z:=.cells [.J [] .nil,.J [] .nil]) (κ (Z:=.cells [.J (af h) y,.J (af k) z]) (η) D) F;refine al (aP @G @ξ @d @E) ?_;refine ag (yF h y _ S) ?_;intro a f p;have P:=p.1 _ _ (by rw[ξ _ _ d,μ]);have c2:=p.1 _ _ (μ _ _ _);refine al (ι P) ?_;refine ag (yF k z _ T) ?_;intro b s r;have g:=r.1 _ _ P;have i:=r.1 _ _ c2;have j:∀a b c:R,putAt [a,b] 0 [c]=[c,b]:=λ_ _ _=>rfl;have l:∀a b c:R,putAt [a,b] 1 [c]=[a,c]:=λ_ _ _=>rfl;have m:∀a b c d:R,putAt [a,b] 0 [c,d]=[c,d]:=λ_ _ _ _=>rfl;have n:∀a b,aQ ζ 2 [a,b]=.agg [a,b]:=λ_ _=>rfl;refine al (de (ι g) (τ i) (fv p) (fv r) @j @l @m @G @n) ?_;refine⟨_,η,a,b,rfl,f.set C (.cells [a,b]),?_,ka r c2⟩;have:=ka (Z:=.cells [a,b]) p (μ _ _ _);rw[ς]at this;exact this.base (κ (κ η D) F)
def mix(c:Int->Int->Int)(a d:Τ)(b:Nat):Τ:=(φ c a d).take b++a.drop b
def vw{a:Int->Int->Int}(b:α t=α b8)(c:e<=α t):(mix a t b8 e).length=α t:=by simp[mix,b];omega
theorem vx{a:Int->Int->Int}(d:α t=α b8)(h:e<α t)(b:Ψ){v:Int}(x:v=a (t.getD e 0) (b8.getD e 0)):
  putAt (af (mix a t b8 e)++b) e [.v (.int .i64 v)]=af (mix a t b8 (e+1))++b:=by
 have c:(af ((φ a t b8).take e)).length=e:=by simp[af,d];omega
 have k:(φ a t b8)[e]?=β v:=by simp_all
 have o:=a8G h;have p:af (mix a t b8 e)++b=af ((φ a t b8).take e)++(.v (.int .i64 t[e])::(af (t.drop (e+1))++b)):=by unfold mix;rw[yE,o];simp only[af,a8C,a8w,a9v]
 have r:af (mix a t b8 (e+1))++b=af ((φ a t b8).take e)++(.v (.int .i64 v)::(af (t.drop (e+1))++b)):=by unfold mix;rw[a9x,k,yE,yE];simp[af]
 rw[p,r];generalize af ((φ a t b8).take e)=y at c;subst c;simp[putAt]
theorem a0z(D:U)(a d b h:Τ)(L P W e:Own)(l8:α a<=1000000000000)(a11:α d<=1000000000000)(a13:α b<=1000000000000)(a73:α h<=1000000000000):
  AC γ 289 [eT a d L P,eT b h W e] D λa74 E=>∃o y,a74=.agg [o,y]/\qf D E (cT (a,d) (b,h)).1 (cT (a,d) (b,h)).2 o y:=by
 refine bg hm T1 acr ?_;have i:∀a14,(R.agg a14).cells=a14:=λ_=>rfl;have n:∀k p,aQ ζ 2 [k,p]=.agg [k,p]:=λ_ _=>rfl;have Z:∀k p S:R,putAt [k,p] 0 [S]=[S,p]:=λ_ _ _=>rfl;have k3:∀k p S:R,putAt [k,p] 1 [S]=[k,S]:=λ_ _ _=>rfl;have M:∀k p S N:R,putAt [k,p] 0 [S,N]=[S,N]:=λ_ _ _ _=>rfl;have q:=bM (t:=a);have u:=bM (t:=b);refine al @i ?_;refine aN λF a81=>?_;refine al @i ?_;refine aN λz k4=>?_;have k5:F≠z:=by rintro rfl;rw[μ]at k4;cases k4
 have a83:D z=none:=by rw[ξ _ _ (Δ k5)]at k4;exact k4
 have b21:=Δ k5;refine al @i ?_;refine aN λr k6=>?_;have a84:z≠r:=by rintro rfl;rw[μ]at k6;cases k6
 have a86:F≠r:=by rintro rfl;rw[ξ _ _ k5,μ]at k6;cases k6
 have l9:D r=none:=by simp_all [ξ,Δ]
 have k7:=κ (Z:=.cells [.J [] .nil,.J [] .nil]) (κ (Z:=.cells [.J (af b) W,.J (af h) e]) (κ (Z:=.cells [.J (af a) L,.J (af d) P]) (η) a81) a83) l9;have f:(((D.set F (.cells [.J (af a) L,.J (af d) P])).set z (.cells [.J (af b) W,.J (af h) e])).set r (.cells [.J [] .nil,.J [] .nil])) F=β (.cells [.J (af a) L,.J (af d) P]):=by rw[ξ _ _ a86,ξ _ _ k5,μ]
 have g:(((D.set F (.cells [.J (af a) L,.J (af d) P])).set z (.cells [.J (af b) W,.J (af h) e])).set r (.cells [.J [] .nil,.J [] .nil])) z=β (.cells [.J (af b) W,.J (af h) e]):=by rw[ξ _ _ a84,μ]
 have aP:(((D.set F (.cells [.J (af a) L,.J (af d) P])).set z (.cells [.J (af b) W,.J (af h) e])).set r (.cells [.J [] .nil,.J [] .nil])) r=β (.cells [.J [] .nil,.J [] .nil]):=μ _ _ _;refine al @i ?_;generalize ((D.set F (.cells [.J (af a) L,.J (af d) P])).set z (.cells [.J (af b) W,.J (af h) e])).set r (.cells [.J [] .nil,.J [] .nil])=j at*;have s:∀k p:R,List.take 2 [k,p]=[k,p]:=λ_ _=>rfl;refine al (aD @q @u @s) ?_;refine ag (p6 j a d L P (α a) l8) ?_;rintro _ j⟨rfl,rfl⟩;refine al (bx @q @u @s (ι f) (ι g) @n) ?_;refine ag (p6 j b h W e (α b) a13) ?_;rintro _ j⟨rfl,rfl⟩;have O:∀(w)(o y)(n0 n1),qf j w n0 n1 o y->qf D (w.set r (.cells [o,y])) n0 n1 o y:=by
  rintro w o y n0 n1⟨A,C,G⟩;refine⟨A.set r (.cells [o,y]),?_,ka G (C.1 _ _ aP)⟩;refine(ka C aP).base λa15 k8 n2=>?_;have Q:a15≠r:=by rintro rfl;rw[l9]at n2;cases n2
  rw[ξ _ _ Q];exact k7 a15 k8 n2
 unfold cT;cases a88:cS a d (α a) with
 |true=>
  cases a16:cS b h (α b) with
  |false=>refine al (cb @q @u @s (ι f) (ι g) @n @a8U) ?_;refine ag (vv _ a d L P l8 a11) ?_;rintro _ w⟨o,y,rfl,X⟩;obtain⟨A,C,G⟩:=X;have B:=G.1 _ _ (C.1 _ _ aP);refine al (bx (τ B) @i @Z @k3 @M @n) ?_;exact⟨_,η,o,y,rfl,O _ _ _ _ _ ⟨A,C,G⟩⟩
  |true=>
   by_cases a18:(α a:Int)=α b
   .have H:α a=α b:=acq;refine al (bz @q @u @s (ι f) (ι g) @n @a9d @a18) ?_;rw[if_pos H];have k9:=a88;have a19:=a16;simp only[cS,Ξ,decide_eq_true_eq]at k9 a19;have b22:=k9.1.2;have b23:α h=α a:=by rw[H];omega
    have b24:=k9.1.1.1.1;clear k9 a19;refine ag (vv _ a d L P l8 a11) ?_;rintro _ w⟨o,y,rfl,A,C,G⟩;have kK:=G.1 _ _ (C.1 _ _ f);have a27:=G.1 _ _ (C.1 _ _ g);have B:=G.1 _ _ (C.1 _ _ aP);obtain⟨I,⟨l0,_⟩|⟨T,a89,n3,a29,rfl,l1,a30,a90,n4,l2,a34,cu⟩⟩:=C
    .exfalso;grind
    obtain⟨n5,⟨l0,_⟩|⟨x,a92,n9,a36,rfl,l,a38,a94,a00,l3,a42,cp⟩⟩:=G
    .exfalso;have:=congrArg α l0;rw[bM,a8s]at this;omega
    have a95:a89=α a:=by rw[q]at l2;omega
    have Y:a92=α a:=by rw[bM]at l3;omega
    subst a95;subst Y;have a01:T≠x:=by rintro rfl;rw[a30]at l;cases l
    have a43:=n5 _ _ a30;simp only[a8Y]at a90 a94 n4 a00 a34 a42;obtain⟨a02,rfl⟩:∃a03,a29=af a++a03:=⟨a29.drop (α a),by rw[<-n4,a8K]⟩;obtain⟨a04,rfl⟩:∃a03,a36=af d++a03:=⟨a36.drop (α a),by rw[<-a00,a8K]⟩;have a47:T≠r:=by rintro rfl;rw[l1]at aP;cases aP
    have a96:T≠F:=by rintro rfl;rw[l1]at f;cases f
    have a97:T≠z:=by rintro rfl;rw[l1]at g;cases g
    have a48:x≠r:=by rintro rfl;rw[I _ _ aP]at l;cases l
    have a98:x≠F:=by rintro rfl;rw[I _ _ f]at l;cases l
    have a99:x≠z:=by rintro rfl;rw[I _ _ g]at l;cases l
    have b00:=Ι k7 l1;have b01:=Ι (ο k7 I) l;have a52:=ο k7 (ο I n5);clear n4 a00 I n5 l2 l3 O;refine bX ?_;refine aN λv V=>?_;have a56:v≠r:=by rintro rfl;rw[B]at V;cases V
    have a57:v≠F:=by rintro rfl;rw[kK]at V;cases V
    have a61:v≠z:=by rintro rfl;rw[a27]at V;cases V
    have l4:v≠T:=by rintro rfl;rw[a43]at V;cases V
    have l5:v≠x:=by rintro rfl;rw[a38]at V;cases V
    have b02:=Ι a52 V;have b25:∀k p S N:Nat,(R.aq k p S N).cells=[.aq k p S N]:=λ_ _ _ _=>rfl;refine al (c2 @i @M) ?_;refine cv (λm E=>∃c:Nat,c<=α a/\D.sub E/\E F=β (.cells [.J (af a) L,.J (af d) P])/\E z=β (.cells [.J (af b) W,.J (af h) e])/\E r=β (.cells [.J [] .nil,.J [] .nil])/\
      E v=β (.cells [.aq T (α a) n3 1,.aq x (α a) n9 1])/\E T=β (.cells (af (mix min a b c)++a02))/\E x=β (.cells (af (mix max d h c)++a04))/\
      m 2=.ptr F 0/\m 3=.ptr z 0/\m 4=.ptr r 0/\m 7=.ptr v 0/\m 52=.v (.int .i64 (α a))/\m 53=.v (.int .i64 c))
     (λm _=>match m 53 with|.v (.int _ X)=>α a - X.toNat|_=>0) ⟨0,acq,?_⟩ ?_
    .have a62:∀(a63)(k p),mix a63 k p 0=k:=λa63 k p=>by rfl
     rw[a62,a62];refine al (oS @ξ @a57 @a61 @a56 @l4 @l5 (Δ a57) (Δ a61) (Δ a56) (Δ l4) (Δ l5) @kK @a27 @B @a43 @a38 @μ) ?_;exact κ a52 b02
    rintro m E⟨c,b26,b03,c2,aD,aP,cb,l6,l7,Y,a05,a06,a07,a08,a09⟩;by_cases a10:(c:Int)<α a
    .have b04:c<α a:=acq;have a65:a[c]?=β (a.getD c 0):=by simp_all
     have a68:b[c]?=β (b.getD c 0):=by simp_all
     have a69:d[c]?=β (d.getD c 0):=by simp_all
     have a71:h[c]?=β (h.getD c 0):=by simp_all
     have b05:=vx H b04 a02 (v:=min (a.getD c 0) (b.getD c 0)) rfl;have b06:=vx acq acq a04 (v:=max (d.getD c 0) (h.getD c 0)) rfl;generalize a.getD c 0=b27 at*;generalize b.getD c 0=b28 at*;generalize d.getD c 0=a3 at*;generalize h.getD c 0=a4 at*;simp -dsimp -implicitDefEqProofs (disch:=first|omega|assumption|(simp only[aX,Nat.reduceAdd];try omega)) only[go_sem,simprocAttr,-List.reduceReplicate,Y,a05,a06,a07,a08,a09,a10,ι c2,ι aD,ι cb,τ l6,τ l7,gq a65,gq a68,gq a69,gq a71,p5];have b07:c+1<=(af (mix min a b c)++a02).length:=by rw[Ρ,bM,vw H acq];omega
     have b08:c+1<=(af (mix max d h c)++a04).length:=by rw[Ρ,bM,vw acq acq];omega
     have b09:=Δ a96;have b10:=Δ a97;have b11:=Δ a01;have b12:=Δ a47;have b13:=Δ a98;have b14:=Δ a99;have b15:=Δ a48;have b16:=Δ l4;have b17:=Δ l5;simp -dsimp -implicitDefEqProofs (disch:=first|omega|assumption|(simp only[aX,Nat.reduceAdd];try omega)) only[go_sem,simprocAttr,-List.reduceReplicate,Y,a05,a06,a07,a08,a09,a10,ι c2,ι aD,ι cb,τ l6,τ l7,gq a65,gq a68,gq a69,gq a71,p5,b07,b08,b05,b06,ξ,μ,a01,b11,b09,b10,b12,b13,b14,b15,b16,b17,l4,l5,c2,aD,aP,cb];grind[κ]
    .obtain rfl:c=α a:=acq;refine al (cj @Y @a05 @a06 @a07 @a08 @a09 @a10 (ι cb) (τ aP) @s) ?_;have l2:mix min a b (α a)=φ min a b:=by unfold mix;grind
     have l3:mix max d h (α a)=φ max d h:=by unfold mix;grind
     rw[l2]at l6;rw[l3]at l7;have b29:(af (φ min a b)).length=α a:=by rw[bM,aa0];omega
     have b30:(af (φ max d h)).length=α a:=by rw[bM,aa0];omega
     have b18:∀K:U,K T=E T->K x=E x->D.sub K->qf D K (φ min a b) (φ max d h) (.aq T (α a) n3 1) (.aq x (α a) n9 1):=by
      intro K l0 b19 b20;refine⟨K.del x,⟨λo k8 t=>?_,.inr ⟨T,α a,n3,_,rfl,b00,by rw[U.eO _ a01,l0];exact l6,?_,?_,?_,a34,cu⟩⟩,⟨λo k8 t=>?_,.inr ⟨x,α a,n9,_,rfl,U.iD _ _,by rw[b19];exact l7,?_,?_,?_,a42,cp⟩⟩⟩
      .have Q:o≠x:=by rintro rfl;rw[b01]at t;cases t
       rw[U.eO _ Q];exact b20 o k8 t
      simp_all;simp_all
      .omega
      .have Q:o≠x:=by rintro rfl;rw[U.iD]at t;cases t
       rw[U.eO _ Q]at t;exact t
      grind[ω,bM];simp_all
      .omega
     exact⟨_,η,_,_,rfl,b18 _ (ξ _ _ a47) (ξ _ _ a48) (κ b03 l9)⟩
   .have H:¬α a=α b:=acq;refine al (lE @q @u @s (ι f) (ι g) (τ aP) @n @a9d @a18 @i @Z @k3 @M) ?_;rw[if_neg H];exact⟨_,η,_,_,rfl,O j _ _ _ _ ⟨j,av.nil η,av.nil η⟩⟩
 |false=>
  cases a16:cS b h (α b) with
  |false=>refine al (gV @q @u @s (ι f) (ι g) (τ aP) @n @a8U @i @Z @k3 @M) ?_;exact⟨_,η,_,_,rfl,O j _ _ _ _ ⟨j,av.nil η,av.nil η⟩⟩
  |true=>refine al (cb @q @u @s (ι f) (ι g) @n @a8U) ?_;refine ag (vv _ b h W e a13 a73) ?_;rintro _ w⟨o,y,rfl,X⟩;obtain⟨A,C,G⟩:=X;have B:=G.1 _ _ (C.1 _ _ aP);refine al (bx (τ B) @i @Z @k3 @M @n) ?_;exact⟨_,η,o,y,rfl,O _ _ _ _ _ ⟨A,C,G⟩⟩
def Eu(h:U)(a b c d:Τ)(k o p r:Own)(z:α a<=1000000000000)(C:α b<=1000000000000)(D:α c<=1000000000000)(E:α d<=1000000000000):
  AC γ 289 [eT a b k o,eT c d p r] h λx y=>h.sub y/\x=eT (cT (a,b) (c,d)).1 (cT (a,b) (c,d)).2 .any .any:=
 (a0z h a b c d k o p r z C D E).view λx y F=>by
  obtain⟨G,g,rfl,i,L,P⟩:=F;obtain⟨j,S,T⟩:=tu P;have V:=L.mono S;obtain⟨W,e,f⟩:=tu V;exact⟨_,W,(View.agg (a:=[G]) rfl T).trans (View.agg (a:=[]) rfl f),e,rfl⟩
theorem p7(b c:Τ×Τ)(a:Nat)(d:α b.1<=a)(h:α b.2<=a)(k:α c.1<=a)(o:α c.2<=a):(cT b c).1.length<=a/\(cT b c).2.length<=a:=by grind[cT]
def aB{a:Type}(b:a->R->Prop):List a->Ψ->Prop
 |[],[]=>True
 |c::xs,d::h=>b c d/\aB b xs h
 |_,_=>False
def aB.len{b:Type}{h:b->R->Prop}:∀ {c:List b}{d:Ψ},aB h c d->α d=α c
 |[],[],_=>rfl
 |_:: _,_:: _,a=>by rw[a8m,a8m,a.2.len]
 |[],_:: _,a=>a.elim
 |_:: _,[],a=>a.elim
def aB.get{k:Type}{o:k->R->Prop}:∀ {d:List k}{h:Ψ}{i:Nat}{x:k},aB o d h->d[i]?=β x->∃b,h[i]?=β b/\o x b
 |[],_,_,_,_,a=>by simp at a
 |x::d,b::h,0,p,a,c=>by simp only[a9V,a8t]at c|-;subst c;exact⟨b,rfl,a.1⟩
 |x::d,b::h,i+1,p,a,c=>by simp only[aa8]at c|-;exact a.2.get c
 |_:: _,[],_,_,a,_=>a.elim
def aB.append{c:Type}{b:c->R->Prop}:∀ {d h:List c}{k o:Ψ},aB b d k->aB b h o->aB b (d++h) (k++o)
 |[],_,[],_,_,a=>a
 |_:: _,_,_:: _,_,a,p=>⟨a.1,a.2.append p⟩
 |[],_,_:: _,_,a,_=>a.elim
 |_:: _,_,[],_,a,_=>a.elim
variable{b2:Type}
def aB.snoc{a:b2->R->Prop}{b:List b2}{c:b2}(d:aB a b g)(h:a c n):aB a (b++[c]) (g++[n]):=d.append ⟨h,trivial⟩
def aB.take{c:Type}{d:c->R->Prop}:∀ {h:List c}{k:Ψ} (b:Nat),aB d h k->aB d (h.take b) (k.take b)
 |[],[],b,_=>by simp[aB]
 |_:: _,_:: _,0,_=>by simp[aB]
 |_:: _,_:: _,b+1,a=>⟨a.1,a.2.take b⟩
 |[],_:: _,_,a=>a.elim
 |_:: _,[],_,a=>a.elim
def aB.drop{c:Type}{d:c->R->Prop}:∀ {h:List c}{k:Ψ} (b:Nat),aB d h k->aB d (h.drop b) (k.drop b)
 |[],[],b,_=>by simp[aB]
 |_:: _,_:: _,0,a=>a
 |_:: _,_:: _,b+1,a=>a.2.drop b
 |[],_:: _,_,a=>a.elim
 |_:: _,[],_,a=>a.elim
def aB.mono{b:Type}{c d:b->R->Prop}(h:∀k o,c k o->d k o):∀ {p:List b}{r:Ψ},aB c p r->aB d p r
 |[],[],a=>a
 |_:: _,_:: _,a=>⟨h _ _ a.1,a.2.mono h⟩
 |[],_:: _,a=>a.elim
 |_:: _,[],a=>a.elim
theorem aB.cells{b:Type}{c:b->R->Prop}{d:Nat}(h:∀p k,c p k->α k.cells=d):∀ {r:List b}{o:Ψ},aB c r o->aW d o
 |[],[],_=>by simp[aW]
 |_:: _,_:: _,a=>by rw[Df];exact⟨h _ _ a.1,a.2.cells h⟩
 |[],_:: _,a=>a.elim
 |_:: _,[],a=>a.elim
def isRow(a:Τ)(b:R):Prop:=∃c,b=.J (af a) c
def cZ(a:Τ×Bool)(b:R):Prop:=∃c,b=.agg [.J (af a.1) c,.v (.bool a.2)]
def ab(a:au)(b c d:Own):Ψ:=a.sum.map ah++[.J (af a.aV) b,.J (af a.aU) c,.v (.int .i64 a.live),.v (.int .i64 a.size),.J (af a.key) d]
structure rE(k:au)(gN ev b:Own)(a:Ψ):Prop where
 len:α a=37
 t37:a.take 37=a
 t32:a.take 32=k.sum.map ah
 d32:a.drop 32=[.J (af k.aV) gN,.J (af k.aU) ev,.v (.int .i64 k.live),.v (.int .i64 k.size),.J (af k.key) b]
 d33:a.drop 33=[.J (af k.aU) ev,.v (.int .i64 k.live),.v (.int .i64 k.size),.J (af k.key) b]
 d34:a.drop 34=[.v (.int .i64 k.live),.v (.int .i64 k.size),.J (af k.key) b]
 d35:a.drop 35=[.v (.int .i64 k.size),.J (af k.key) b]
 d36:a.drop 36=[.J (af k.key) b]
variable{A j9:au}
theorem aT(b:α A.sum=32):rE A M e7 j0 (ab A M e7 j0):=by
 have d:(A.sum.map ah).length=32:=by simp[b]
 have a:∀c,(ab A M e7 j0).drop (32+c)=[R.J (af A.aV) M,.J (af A.aU) e7,.v (.int .i64 A.live),.v (.int .i64 A.size),.J (af A.key) j0].drop c:=λc=>by
  unfold ab;rw[a9J,a8Z acq,d];simp
 exact⟨by simp[ab,b],Ο (by simp[ab,b]),by unfold ab;simp_all,a 0,a 1,a 2,a 3,a 4⟩
theorem rE.all(a:rE A M e7 j0 g):α g=37/\g.take 37=g/\g.take 32=A.sum.map ah/\(g.drop 32).take 2=[.J (af A.aV) M,.J (af A.aU) e7]/\
  aQ θ 1 (g.drop 32)=.J (af A.aV) M/\aQ θ 1 (g.drop 33)=.J (af A.aU) e7/\aQ θ 1 (g.drop 34)=.v (.int .i64 A.live)/\aQ θ 1 (g.drop 35)=.v (.int .i64 A.size)/\aQ θ 1 (g.drop 36)=.J (af A.key) j0:=
 ⟨a.len,a.t37,a.t32,by rw[a.d32];rfl,by rw[a.d32];rfl,by rw[a.d33];rfl,by rw[a.d34];rfl,by rw[a.d35];rfl,by rw[a.d36];rfl⟩
structure au.cE(k:au):Prop where
 aV:α k.aV<=1000000000000
 aU:α k.aU<=1000000000000
 key:α k.key<=1000000000000
def qg:aw.cE:=⟨by simp[aw],by simp[aw],by simp[aw]⟩
def bC(a:au)(b:R):Prop:=α a.sum=32/\a.cE/\∃c d h,b=.agg (ab a c d h)
theorem cZ.cells{b:Τ×Bool}{a:R}(c:cZ b a):α a.cells=2:=by obtain⟨d,rfl⟩:=c;rfl
theorem bC.cells{b:au}{a:R}(c:bC b a):α a.cells=37:=by obtain⟨d,_,h,k,o,rfl⟩:=c;exact(aT d).len
theorem isRow.cells{b:Τ}{a:R}(c:isRow b a):α a.cells=1:=by obtain⟨d,rfl⟩:=c;rfl
structure mK(c:U)(p:R)(cells:Ψ):Prop where
 ld:∀(a:U),c.sub a->∀agg n,0<n->n<=α cells->du agg n a p=β (aQ agg n cells)
 lq:∀(a:U),c.sub a->∀b agg n,0<n->b+n<=α cells->∃d,sN b p=β d/\du agg n a d=β (aQ agg n (cells.drop b))
structure bS(b:U)(k:Nat)(x:R)(a:Ψ):Prop where
 one:x.cells=[x]
 len:fk x=β (.v (.int .i64 (α a)))
 get:∀(i:Nat) e,a[i]?=β e->∃p,cO k x (.v (.int .i64 (i:Int)))=β p/\mK b p e.cells
def mK.mono(c:mK f n g)(d:f.sub s):mK s n g:=⟨λa b=>c.ld a (ο d b),λa b=>c.lq a (ο d b)⟩
def bS.mono{b c:U}{d:Nat}{h:R}{k:Ψ}(a:bS b d h k)(o:b.sub c):bS c d h k:=⟨a.one,a.len,λp r x=>by
 obtain⟨y,z,C⟩:=a.get p r x;exact⟨y,z,C.mono o⟩⟩
theorem bS.J{s:U}{c:Nat}{a:Ψ}{o:Own}(p:aW c a):bS s c (.J a o) a:=⟨rfl,rfl,λr b d=>by
 have x:(0)<=(r:Int):=acq;refine⟨.bZ b.cells,?_,⟨λy _ z h _ k=>by simp[du,k],λy _ C z h _ k=>⟨_,rfl,?_⟩⟩⟩
 .simp only[cO,x,if_true,a8N,d];exact lC (p b (a8r d))
 .have:h<=(b.cells.drop C).length:=by rw[a8z];omega
  simp only[du];rw[if_pos this]⟩
theorem Ev(a:aW e g)(c:g[i]?=β n):((flat g).drop (i*e)).take e=n.cells:=by obtain⟨b,rfl⟩:=a8p.1 c;rw[(ga i a).1,a8G b];have d:=a _ (a8L b);simp only[flat,a8I];simp_all
theorem bS.aq{F:U}{p n cap k:Nat}{c o:Ψ}(x:aW k o)(G:F p=β (.cells c))(L:α o=n)(S:c.take (n*k)=flat o):bS F k (.aq p n cap k) o:=by
 refine⟨rfl,by rw[L];rfl,λd r y=>?_⟩;obtain⟨e,_⟩:=a8p.1 y;have f:(flat o).length=n*k:=by rw[cW x,L]
 have g:n*k<=α c:=by grind
 have T:(d+1)*k<=n*k:=a8x _ acq;rw[a9s,aaW]at T;have i:=x r (a8r y);have P:∀a b,a+b<=k->((c.drop (d*k+a)).take b)=(r.cells.drop a).take b:=by intro a b hm;rw[<-Ev x y,<-S];grind[List.drop_take,Nat.min_eq_left,List.drop_drop]
 have V:∀h a b,a+b<=k->0<b->aQ h b (c.drop (d*k+a))=aQ h b (r.cells.drop a):=by
  intro h a b hm z;cases h with
  |true=>simp only[aQ,if_true];rw[P a b hm]
  |false=>
   have j:=P a 1 acq;simp only[aQ,a9m,if_false];cases c3:c.drop (d*k+a)with
   |nil=>simp_all
   |cons l m=>
    cases cm:r.cells.drop a with
    |nil=>simp_all
    |cons q s=>grind
 refine⟨.ptr p (d*k),?_,⟨λW C h b z hm=>?_,λW C a h b z hm=>⟨.ptr p (d*k+a),rfl,?_⟩⟩⟩;grind[jj,Int.toNat_natCast]
 .have D:=ι (C _ _ G);have E:d*k+b<=α c:=acq;simp only[du,D,if_pos E];have:=V h 0 b acq z;simp_all
 .have D:=ι (C _ _ G);have E:d*k+a+b<=α c:=acq;simp only[du,D,if_pos E];grind
theorem bS.dA(a:av s f e B n)(d:0<e)(b:B=flat g)(c:aW e g):bS f e n g:=by subst b;have h:=cW c;obtain⟨k,⟨o,rfl|rfl⟩|⟨p,r,x,y,rfl,z,C,D,E,F,G,L⟩⟩:=a;grind[List.eq_nil_of_length_eq_zero,List.length_nil,Nat.mul_eq_zero,bS.J];grind[List.eq_nil_of_length_eq_zero,List.length_nil,Nat.mul_eq_zero,bS.J];grind[bS.aq,Nat.eq_of_mul_eq_mul_right]
def hb(h:b2->R->Prop)(k:U)(b:FuncId)(o p:Ψ)(r:b2->Bool):Prop:=
 fH γ b=ζ/\∀c d (a:U),h c d->k.sub a->AC γ b (o++[d]++p) a λx y=>y=a/\x=.v (.bool (r c))
variable{b5:FuncId}
theorem a0A(a:List (Τ×Bool))(L:Ψ)(y:R)(d:U)(P:aB cZ a L)(S:bS d 2 y L)(w:α a<=1000000000000){h:(Τ×Bool)->Bool}(T:hb cZ d b5 g B h):
  AC γ 375 [y,.bL b5 g B] d λf z=>z=d/\∃V:Int,f=.v (.int .i64 V)/\decide (0<=V)=a.any h:=by
 refine bg hm UJ acr ?_;have i:=P.len;have C:=S.len;rw[i]at C;refine al @C ?_;refine cv (λc z=>∃b:Nat,b<=α a/\z=d/\c 0=y/\c 1=.bL b5 g B/\c 7=.v (.int .i64 (α a))/\c 8=.v (.int .i64 b)/\(a.take b).any h=θ)
  (λc _=>match c 8 with|.v (.int _ j)=>α a - j.toNat|_=>0) ⟨0,acq,rfl,?_⟩ ?_
 .refine al @C ?_;simp
 rintro c D⟨b,A,rfl,k,o,p,r,W⟩;by_cases x:(b)<(α a:Int)
 .have E:a[b]?=β a[b]:=Μ acq;have l:a.take (b+1)=a.take b++[a[b]]:=by rw[a9x,E];rfl
  have m:a[b]'acq∈a:=a8L _;generalize a[b]'acq=e at E l m;obtain⟨F,n,G⟩:=P.get E;obtain⟨q,s,t⟩:=S.get b F n;have u:du ζ 2 D q=β F:=by have v:=t.ld D η ζ 2 acq (by rw[cZ.cells G];omega);rw[v];obtain⟨H,rfl⟩:=G;rfl
  refine al (cb @k @o @p @r @x @s @u) ?_;refine fm T.1 (T.2 e F _ G η) ?_;rintro _ D⟨rfl,rfl⟩;cases I:h e with
  |true=>refine al (bl @k @o @p @r @x) ?_;refine⟨_,η,rfl,_,rfl,?_⟩;grind
  |false=>refine al (bl @k @o @p @r @x) ?_;grind
 .obtain rfl:b=α a:=acq;refine al (bl @k @o @p @r @x) ?_;rw[a8F]at W;exact⟨_,η,rfl,_,rfl,by rw[W];simp⟩
def a0B(b:List (Τ×Bool))(c:Ψ)(d:R)(a:U)(k:aB cZ b c)(o:bS a 2 d c)(p:α b<=1000000000000){h:(Τ×Bool)->Bool}(r:hb cZ a b5 g B h):
  AC γ 361 [d,.bL b5 g B] a λx y=>y=a/\x=.v (.bool (b.any h)):=by
 refine bg hm Uv acr ?_;refine bX ?_;refine ag (a0A b c d a k o p r) ?_;rintro _ C⟨rfl,D,rfl,z⟩;refine bX ?_;exact⟨_,η,rfl,by rw[z]⟩
theorem Ew(h:List (Τ×Bool))(p:Ψ)(r:R)(b:U)(P:aB cZ h p)(S:bS b 2 r p)(T:α h<=1000000000000){x:(Τ×Bool)->Bool}(z:hb cZ b b5 g B x):
  AC γ 333 [r,.bL b5 g B] b λV c=>c=b/\V=.v (.bool (h.all x)):=by
 refine bg hm TV acr ?_;refine bX ?_;refine aN λd W=>?_;have C:=κ (Z:=.cells [.bL b5 g B]) (η) W;have aD:(b.set d (.cells [.bL b5 g B])) d=β (.cells [.bL b5 g B]):=μ _ _ _;have e:(R.bL b5 g B).cells=[.bL b5 g B]:=rfl;refine al @e ?_;generalize b.set d (.cells [.bL b5 g B])=D at*;refine ag (a0B h p r D P (S.mono C) T (b5:=362) (g:=[]) (B:=[.ptr d 0]) (h:=λy=> !x y) ⟨acw,λy a c k E=>?_⟩) ?_
 .change AC γ _ [a,.ptr d 0] c _;refine bg hm Ux acr ?_;have f:=E _ _ aD;refine al (cZ.cells k) ?_;refine aN λo i=>?_;have F:=κ (Z:=.cells a.cells) (η) i;have c2:(c.set o (.cells a.cells)) o=β (.cells a.cells):=μ _ _ _;have aP:=F _ _ f;have G:aQ ζ 2 (a.cells.drop 0)=a:=by obtain⟨n,rfl⟩:=k;rfl
  have j:aQ ζ 2 a.cells=a:=G;have L:=cZ.cells k;refine al @L ?_;have l:=z.2 y a (c.set o (.cells a.cells)) k (ο C (ο E F));generalize c.set o (.cells a.cells)=m at*;refine al (bl (ι aP) (ι c2) @L @G @j) ?_;refine fm z.1 l ?_;rintro _ m⟨rfl,rfl⟩;refine bX ?_;simp_all
 rintro _ D⟨rfl,rfl⟩;refine bX ?_;grind
theorem a0C(a:List au)(L:Ψ)(y:R)(d:U)(P:aB bC a L)(S:bS d 37 y L)(A:α a<=1000000000000){h:au->Bool}(T:hb bC d b5 g B h):
  AC γ 376 [y,.bL b5 g B] d λf z=>z=d/\∃V:Int,f=.v (.int .i64 V)/\decide (0<=V)=a.any h:=by
 refine bg hm UL acr ?_;have i:=P.len;have C:=S.len;rw[i]at C;refine al @C ?_;refine cv (λc z=>∃b:Nat,b<=α a/\z=d/\c 0=y/\c 1=.bL b5 g B/\c 7=.v (.int .i64 (α a))/\c 8=.v (.int .i64 b)/\(a.take b).any h=θ)
  (λc _=>match c 8 with|.v (.int _ j)=>α a - j.toNat|_=>0) ⟨0,acq,rfl,?_⟩ ?_
 .refine al @C ?_;simp
 rintro c D⟨b,H,rfl,k,o,p,r,W⟩;by_cases x:(b)<(α a:Int)
 .have E:a[b]?=β a[b]:=Μ acq;have l:a.take (b+1)=a.take b++[a[b]]:=by rw[a9x,E];rfl
  have m:a[b]'acq∈a:=a8L _;generalize a[b]'acq=e at E l m;obtain⟨F,n,G⟩:=P.get E;obtain⟨q,s,t⟩:=S.get b F n;have u:du ζ 37 D q=β F:=by have v:=t.ld D η ζ 37 acq (by rw[bC.cells G];omega);rw[v];obtain⟨w,_,I,K,M,rfl⟩:=G;simp[ρ,aQ,(aT w).t37]
  refine al (cb @k @o @p @r @x @s @u) ?_;refine fm T.1 (T.2 e F _ G η) ?_;rintro _ D⟨rfl,rfl⟩;cases N:h e with
  |true=>refine al (bl @k @o @p @r @x) ?_;refine⟨_,η,rfl,_,rfl,?_⟩;grind
  |false=>refine al (bl @k @o @p @r @x) ?_;grind
 .obtain rfl:b=α a:=acq;refine al (bl @k @o @p @r @x) ?_;rw[a8F]at W;exact⟨_,η,rfl,_,rfl,by rw[W];simp⟩
def a0D(b:List au)(c:Ψ)(d:R)(a:U)(k:aB bC b c)(o:bS a 37 d c)(p:α b<=1000000000000){h:au->Bool}(r:hb bC a b5 g B h):
  AC γ 363 [d,.bL b5 g B] a λx y=>y=a/\x=.v (.bool (b.any h)):=by
 refine bg hm Uz acr ?_;refine bX ?_;refine ag (a0C b c d a k o p r) ?_;rintro _ C⟨rfl,D,rfl,z⟩;refine bX ?_;exact⟨_,η,rfl,by rw[z]⟩
theorem yH(h:List au)(r:Ψ)(x:R)(b:U)(P:aB bC h r)(S:bS b 37 x r)(T:α h<=1000000000000){y:au->Bool}(z:hb bC b b5 g B y):
  AC γ 335 [x,.bL b5 g B] b λV c=>c=b/\V=.v (.bool (h.all y)):=by
 refine bg hm TZ acr ?_;refine bX ?_;refine aN λd W=>?_;have C:=κ (Z:=.cells [.bL b5 g B]) (η) W;have aD:(b.set d (.cells [.bL b5 g B])) d=β (.cells [.bL b5 g B]):=μ _ _ _;have e:(R.bL b5 g B).cells=[.bL b5 g B]:=rfl;refine al @e ?_;generalize b.set d (.cells [.bL b5 g B])=D at*;refine ag (a0D h r x D P (S.mono C) T (b5:=364) (g:=[]) (B:=[.ptr d 0]) (h:=λk=> !y k) ⟨acw,λk a c o E=>?_⟩) ?_
 .change AC γ _ [a,.ptr d 0] c _;refine bg hm UB acr ?_;have f:=E _ _ aD;refine al (bC.cells o) ?_;refine aN λp i=>?_;have F:=κ (Z:=.cells a.cells) (η) i;have c2:(c.set p (.cells a.cells)) p=β (.cells a.cells):=μ _ _ _;have aP:=F _ _ f;have G:aQ ζ 37 (a.cells.drop 0)=a:=by obtain⟨j,_,l,m,n,rfl⟩:=o;show aQ ζ 37 (ab k l m n)= _;rw[aQ,if_pos rfl,(aT j).t37]
  have q:aQ ζ 37 a.cells=a:=G;have L:=bC.cells o;refine al @L ?_;have s:=z.2 k a (c.set p (.cells a.cells)) o (ο C (ο E F));generalize c.set p (.cells a.cells)=t at*;refine al (bl (ι aP) (ι c2) @L @G @q) ?_;refine fm z.1 s ?_;rintro _ t⟨rfl,rfl⟩;refine bX ?_;simp_all
 rintro _ D⟨rfl,rfl⟩;refine bX ?_;grind
end Go.Proofs.YtkafjfkjahgihaaGreat
