import Derived.Test.YtcfpcblgmmeioaaGreatMH
import Derived.Test.YtcfpcblgmmeioaaGreatMF
import Derived.Test.YtcfpcblgmmeioaaGreatMG
import Derived.Test.YtcfpcblgmmeioaaGreatME
set_option linter.all false
open Option renaming some->β,none->ζ
open Go.Proofs.Tryz renaming prog->γ
open List renaming replicate->ε,zipWith->ψ,range->ω,length_append->Β,take_of_length_le->Ε,length->α
open Bool renaming true->η,false->ι
open Go.bD.U renaming a6->θ,ae->κ,ag->μ,ai->ξ,an->ο,au->π,set_set->τ,aI->χ,bK->Ο
open Go.bD.R renaming cells->σ
open Go.Proofs.YtcfpcblgmmeioaaGreat.isRow renaming cells->φ
open Prod renaming fst->Γ
open Go.Proofs.YtcfpcblgmmeioaaGreat.aC renaming size->Κ
open Go.Proofs.YtcfpcblgmmeioaaGreat.bB renaming cells->Ξ
open Go.bD.bj renaming nil->Τ
set_option maxRecDepth 100000
namespace Go.Proofs.YtcfpcblgmmeioaaGreat
open Go Go.bD
def a4n(c:U)(p x y:Nat)(z:af)(a:List aU)(C:dI c p x y z a)(D:∀h∈a,h.Fit)(k:cJ a=η)(E:∀h∈a,h.In):
  AC γ 11 [.ptr p 0] c λo F=>∃b d,bj c F 76 b d/\o=.J b d/\aB ed a b:=by
 obtain⟨b,d,G,L⟩:=C.x;have g:=κ G;have i:=(p5 k).2;refine aK hm Ln ?_;refine ah (GX a b d L D δ c) ?_;rintro o P⟨S,r⟩;rw[if_pos k]at r;obtain⟨T,rfl⟩:=r;refine aa ?_;refine ah (a4i a T P k E) ?_;rintro o j⟨V,W,e,f,rfl⟩;refine aa ?_;exact⟨_,θ,V,W,e.base S,rfl,f⟩
def H2(b:U)(d o p:Nat)(r:af)(a:List aU)(x:dI b d o p r a)(y:∀h∈a,h.Fit)(z:cJ a=η)(C:∀h∈a,h.In):
  AC γ 11 [.ptr d 0] b λD E=>b.sub E/\∃c k,D=.J c k/\aB ed a c:=
 (a4n b d o p r a x y z C).mono λ_ _ ⟨c,k,F,G⟩=>⟨F.sub,c,k,G⟩
variable{A j2:ao}{g H c0:ύ}{N e6 h6:Own}{e9:aU}
theorem eL.a4o(b:eL e9 g)(a:α A.sum=32)(c:A.cC):eL ⟨e9.name,e9.aD,A,e9.bm⟩ (putAt g 2 (ab A N e6 h6)):=by obtain⟨⟨d,h,k,o,p,r,x,rfl⟩,⟨y,D⟩,z,C⟩:=b;have E:=(aP (N:=h) (e6:=k) (h6:=o) y).len;have F:=(aP (N:=N) (e6:=e6) (h6:=h6) a).len;refine⟨⟨d,N,e6,h6,p,r,x,?_⟩,⟨a,c⟩,z,C⟩;grind[putAt,ab,List.drop_left']
theorem eL.a4p(k:eL e9 g)(a:α A.sum=32)(o:A.cC):eL ⟨e9.name,e9.aD,e9.bf,A⟩ (putAt g 39 (ab A N e6 h6)):=by obtain⟨⟨p,b,c,d,r,x,y,rfl⟩,⟨h,z⟩,⟨C,E⟩,D⟩:=k;have F:=(aP (N:=b) (e6:=c) (h6:=d) h).len;have G:=(aP (N:=N) (e6:=e6) (h6:=h6) a).len;have L:=(aP (N:=r) (e6:=x) (h6:=y) C).len;refine⟨⟨p,b,c,d,N,e6,h6,?_⟩,⟨h,z⟩,⟨a,o⟩,D⟩;grind[putAt,ab,List.take_left',List.drop_eq_nil_of_le,Β]
def gK(p r:af->Except Int ao×af)(x:af)(a:List aU)(b:aU):Int×List aU×af:=match p x with
 |(.error c,d)=>(c,a,d)
 |(.ok k,d)=>match r d with
  |(.error c,h)=>(c,a,h)
  |(.ok o,h)=>((jc (kl a ⟨b.name,b.aD,k,o⟩) a).1,(jc (kl a ⟨b.name,b.aD,k,o⟩) a).2,h)
def jG(a c:Nat)(h:FuncId)(k:af->Except Int ao×af)(o:ao)(p:Ω)(r:Nat):Prop:=
 ∀(b:U)(d:af)(x y z C:Own),bq b a c d->AC γ h [.ptr a 0,.agg (ab o x y z),.J (ad p) C,.v (.int .i64 (r:Int))] b λD E=>zL b E a c (k d) D
theorem H3(G:U)(h T V:Nat)(y:af)(b:List aU)(d:dI G h T V y b)(a01:∀a∈b,a.Fit)(a02:α b<=1000)(a:aU)(e:ύ)(Q:eL a e)(X:a.Fit)(Y:Ω)(Z:Own)(j9 k0:FuncId)(L P:af->Except Int ao×af)
  (a03:fA γ j9=η) (a04:fA γ k0=η) (k1:jG T V j9 L a.bf Y (α a.aD+1)) (k2:jG T V k0 P a.bm Y (α a.aD+1)):
  AC γ 104 [.ptr h 0,.agg e,.J (ad Y) Z,.bG j9 [] [],.bG k0 [] []] G λu l2=>u=.v (.int .i64 (gK L P y b a).1)/\dI l2 h T V (gK L P y b a).2.2 (gK L P y b a).2.1/\cB h T V G l2:=by
 obtain⟨v,S,k3,w⟩:=d.x;have a86:=κ k3;obtain⟨a88,a89,a90,a92,a05,a06,a07,a08,a09,a10,a94,a95,a96⟩:=Q.all;have a11:=λG=>tC a e Q G;have c:(match L y with
  |(.error f,g)=>(f,b,g)
  |(.ok A,g)=>match P g with
   |(.error f,j)=>(f,b,j)
   |(.ok B,j)=>((jc (kl b ⟨a.name,a.aD,A,B⟩) b).1,(jc (kl b ⟨a.name,a.aD,A,B⟩) b).2,j))=gK L P y b a:=rfl
 generalize gK L P y b a=a97 at*;refine aK hm Oj ?_;refine bs λz l=>?_;have l3:h≠z:=by rintro rfl;rw[k3]at l;cases l
 have a98:=l3.symm;have k4:=μ (Y:=.cells e) (θ) l;have bz:=ξ G z (.cells e);refine bp (a11 _) ?_;have m:=d.fV.cA l;generalize G.set z _=a13 at*;have a14:=d.fV.mono k4;have a15:=k4 _ _ k3;refine eR a03 (k1 a13 y a05 a06 a07 Z a14) ?_;rintro u l4⟨n,k5,l5⟩;have H:=k5 _ _ d.nX d.nY a15;have k6:=k5 _ _ m.1 m.2 bz;have l6:=cB.trans (cB.of (X:=h) k4) (cB.ext k5);generalize L y=a16 at*;obtain⟨a18,g⟩:=a16;cases a18 with
 |error f=>
  obtain⟨l7,a19,C,D,E,q,rfl⟩:=l5
  dsimp only at c n
  have a27:=(aP (N:=C) (e6:=D) (h6:=E) q).all;have I:=lP (N:=C) (e6:=D) (h6:=E) q;refine aa ?_;refine aN λi k=>?_;refine aa ?_;refine⟨_,θ,by rw[<-c],?_,l6.trans (cB.of (μ θ k))⟩;rw[<-c];exact⟨n.mono (μ θ k),⟨v,S,μ θ k _ _ H,w⟩,d.nX,d.nY⟩
 |ok s=>
  obtain⟨k7,a29,C,D,E,rfl⟩:=l5
  dsimp only at c n
  have a99:=(aP (N:=C) (e6:=D) (h6:=E) k7).all;have I:=lP (N:=C) (e6:=D) (h6:=E) k7;refine aa ?_;refine aN λi k=>?_;have a30:h≠i:=by rintro rfl;rw[H]at k;cases k
  have b00:=a30.symm;have a34:z≠i:=by rintro rfl;rw[k6]at k;cases k
  have b01:=a34.symm;have eP:=κ H;have a36:=κ k6;refine aa ?_;have K:=μ (Y:=.cells (ab s C D E)) (θ) k;have gq:=ξ l4 i (.cells (ab s C D E));have a38:=K _ _ H;have a42:=K _ _ k6;have a43:=n.mono K;have l8:=n.cA k;have a47:=l6.trans (cB.of K);generalize l4.set i _=a48 at*;clear eP a36 I;refine eR a04 (k2 a48 g a08 a09 a10 Z a43) ?_;rintro u t⟨M,N,l9⟩;have k8:=N _ _ d.nX d.nY a38;have n0:=N _ _ m.1 m.2 a42;have a52:=N _ _ l8.1 l8.2 gq;have n1:=a47.trans (cB.ext N);generalize P g=a56 at*;obtain⟨cE,j⟩:=a56;cases cE with
  |error f=>
   obtain⟨l7,a19,o,p,r,q,rfl⟩:=l9
   dsimp only at c M
   have a27:=(aP (N:=o) (e6:=p) (h6:=r) q).all;have I:=lP (N:=o) (e6:=p) (h6:=r) q;refine aa ?_;refine aN λF x=>?_;refine aa ?_;refine⟨_,θ,by rw[<-c],?_,n1.trans (cB.of (μ θ x))⟩;rw[<-c];exact⟨M.mono (μ θ x),⟨v,S,μ θ x _ _ k8,w⟩,d.nX,d.nY⟩
  |ok cj=>
   obtain⟨k9,a57,o,p,r,rfl⟩:=l9
   dsimp only at c M
   have b02:=(aP (N:=o) (e6:=p) (h6:=r) k9).all;have I:=lP (N:=o) (e6:=p) (h6:=r) k9;refine aa ?_;refine aN λF x=>?_;have a61:z≠F:=by rintro rfl;rw[n0]at x;cases x
   have b03:=a61.symm;have a62:i≠F:=by grind
   have b04:=a62.symm;have a63:h≠F:=by rintro rfl;rw[k8]at x;cases x
   have b05:=a63.symm;have b06:=κ a52;have b07:=χ n0;have n2:=Q.a4o (N:=C) (e6:=D) (h6:=E) k7 a29;have l0:=n2.a4p (N:=o) (e6:=p) (h6:=r) k9 a57;have b08:=n2.all.1;have b09:=l0.all.1;have b10:=l0.all.2.1;have n3:=a4c b v S ⟨a.name,a.aD,s,cj⟩ _ l0 ⟨X.n,X.c,X.cs⟩ w a01 a02;have eP:=κ k8;have b11:∀W S,W≠F->t W=β S->(t.set F (.cells (ab cj o p r))) W=β S:=λW S a65 k2=>by rw[ο _ _ a65];exact k2
   refine aa ?_;generalize putAt (putAt e 2 (ab s C D E)) 39 (ab cj o p r)=n4 at*;have a68:dI ((t.set F (.cells (ab cj o p r))).set z (.cells n4)) h T V j b:=⟨(M.mono (μ θ x)).set m,⟨v,S,by rw[ο _ _ l3];simp_all,w⟩,d.nX,d.nY⟩;have a69:cB h T V G ((t.set F (.cells (ab cj o p r))).set z (.cells n4)):=λW a71 A B a73 l1=>by
    have k1:W≠z:=by rintro rfl;rw[l]at l1;cases l1
    rw[ο _ _ k1];exact μ θ x _ _ (n1 W a71 A B a73 l1)
   generalize (t.set F _).set z _=a74 at*;refine ah (n3 a74) ?_;clear n3;rintro u b12⟨n5,O⟩;have n9:=a68.sub n5;obtain⟨b13,b14,a81,b15⟩:=n9.x;have b16:=χ a81;have a83:=a69.trans (cB.of n5);cases a00:kl b ⟨a.name,a.aD,s,cj⟩with
   |error f=>
    rw[a00]at O c;obtain⟨l7,rfl⟩:=O
    dsimp only[jc]at c
    refine aa ?_;grind
   |ok b17=>
    rw[a00]at O c;obtain⟨b18,a84,rfl⟩:=O
    dsimp only[jc]at c
    refine aa ?_;exact⟨_,θ,by rw[<-c],by rw[<-c];exact n9.put a84,a83.A9⟩
variable{e3:List aU}{w j4:ϊ}
def Ab(a:e3.find? (λe9=>decide (e9.name=w))=β e9):e9∈e3:=List.mem_of_find?_eq_some a
variable{q b7:Ω}{e i v M b9 j1:Nat}
def jG.a4q(c:α A.sum=32)(d:A.cC)(h:A.size<=2000000)(k:1<=e)(o:e<=8)(p:α q=e):jG i v 105 (λa=>rI e q a A) A q e:=
 λr a x y z C D=>(a3L r i v a D A x y z c d h q C e k o p).mono λE F b=>⟨b.1,b.2.1,b.2.2.x⟩
def jG.a4r(b:α A.sum=32)(c:A.cC)(d:A.size<=2000000)(h:1<=e)(k:e<=8)(o:α q=e):jG i v 107 (λa=>jz e q a A) A q e:=
 λp a r x y z C=>a3O p i v a C A r x y b c d q z e h k o
def jG.a4s(c:α A.sum=32)(d:A.cC)(h:1<=e)(k:e<=8)(o:α q=e):jG i v 106 (λa=>lG e q a A) A q e:=
 λp a r x y z C=>(a0I p i v a C A r x y c d q z e h k o).mono λD E b=>⟨b.1,b.2.1,b.2.2.x⟩
def jG.a4t(c:α A.sum=32)(d:A.cC)(h:1<=e)(k:e<=8)(o:α q=e):jG i v 108 (λa=>lH e q a A) A q e:=
 λp a r x y z C=>(a0Q p i v a C A r x y c d q z e h k o).mono λD E b=>⟨b.1,b.2.1,b.2.2.x⟩
def lb(a:af)(c:List aU)(d:dt):Int×List aU×af:=match p6 c d with
 |(_,ζ)=>(3,c,a)
 |(h,β b)=>if h=0 then gK (λa=>jz (α b.aD+1) d.row a b.bf) (λa=>lH (α b.aD+1) d.row a b.bm) a c b else(h,c,a)
theorem a4u(x:U)(p y z:Nat)(c:af)(d:List aU)(e:dI x p y z c d)(f:∀b∈d,b.Fit)(s:cJ d=η)(a:du)(t:a.d.Fit):
  AC γ 58 [.ptr p 0,a.V] x λE C=>E=.v (.int .i64 (lb c d a.d).1)/\dI C p y z (lb c d a.d).2.2 (lb c d a.d).2.1/\cB p y z x C:=by
 obtain⟨u,k3⟩:=p5 s;have h:(match p6 d a.d with
  |(_,ζ)=>(3,d,c)
  |(g,β b)=>if g=0 then gK (λc=>jz (α b.aD+1) a.d.row c b.bf) (λc=>lH (α b.aD+1) a.d.row c b.bm) c d b else(g,d,c))=lb c d a.d:=rfl
 generalize lb c d a.d=k4 at*;have i:=λC F=>H0 C p y z c d F δ a t;have j:a.V=.agg [aj a.d.kind,bo a.d.table,.J (bM a.d.aD) a.gD,.J (ad a.d.row) a.dv]:=rfl;obtain⟨k5,k6,v,k7⟩:=e.x;rw[j]at i|-;clear j;have k8:=κ v;have k9:=ht.all.1;refine aK hm MP ?_;refine bs λG w=>?_;have l:=μ (Y:=.cells [aj a.d.kind,bo a.d.table,.J (bM a.d.aD) a.gD,.J (ad a.d.row) a.dv]) (θ) w;have aE:=ξ x G (.cells [aj a.d.kind,bo a.d.table,.J (bM a.d.aD) a.gD,.J (ad a.d.row) a.dv]);generalize x.set G _=A at*;have m:=e.sub l;refine ah (i A m) ?_;rintro E l0⟨L,k⟩;have n:=L _ _ aE;have l1:=κ n;have B:=m.sub L;have H:=π l L;have P:∀b T,eL b T->putAt fJ 0 T=T:=λb T F=>(p2 F).2.2.1;have l2:=ht.all.2.1;have l3:=P _ _ ht;have S:=kY;generalize fJ=l4 at*;unfold p6 at k h;cases V:d.find? (λb=>decide (b.name=a.d.table))with
 |none=>
  rw[V]at k h
  dsimp only at k h
  obtain rfl:=k;refine aa ?_;refine aN λW r=>?_;rw[S];refine aa ?_;grind[θ,μ,cB.of,π]
 |some b=>
  rw[V]at k h;have hm:=Ab V
  dsimp only at k h
  by_cases D:α a.d.row=α b.aD+1
  .rw[if_pos D]at k h;obtain⟨T,o,rfl⟩:=k;obtain⟨I,K,M,_⟩:=o.all;have N:=P _ _ o;refine aa ?_;refine aN λW r=>?_;rw[S]
   dsimp only at h
   rw[if_pos rfl]at h;have O:G≠W:=by rintro rfl;rw[n]at r;cases r
   have l5:=O.symm;obtain⟨Q,X⟩:=o.k;obtain⟨Y,Z⟩:=o.z;have q:=u b hm;have l6:=q.c;have l7:=q.k.size;have j9:=B.sub (μ (Y:=.cells T) θ r);have k0:=H3 _ p y z c d j9 f δ b T o (f b hm) a.d.row a.dv 107 108 _ _ Χ Χ (jG.a4r Q X δ δ δ D) (jG.a4t Y Z δ δ D);refine aa ?_;refine ah k0 ?_;rintro E l8⟨rfl,k1,k2⟩;refine aa ?_;exact⟨_,θ,by rw[<-h];exact k1,(cB.of (π H (μ θ r))).trans k2⟩
  .rw[if_neg D]at k h;obtain⟨T,o,rfl⟩:=k;obtain⟨I,K,M,_⟩:=o.all;have N:=P _ _ o;refine aa ?_;refine aN λW r=>?_;rw[S];refine aa ?_
   dsimp only at h
   rw[if_neg Θ]at h;grind[θ,μ,cB.of,π]
structure w3(c:af)(d:Nat)(aT aS:Ω)(a:ao)(rows:List Ω):Prop where
 one:α rows<=1
 sound:∀b∈rows,nS c d aT aS a b
 full:rows=[]->eF aT aS a=η->∀b,¬nS c d aT aS a b
def w4(a:af)(b:Nat)(c d:Ω)(h:ao):Prop:=∃k,mK a b c d h k/\eF c d h=η/\de a b k=ζ
structure Ac where
 rows:List Ω
 us:ύ
 L:R
 bF:List ao
 es:ύ
 oZ:R
structure w5(c:af)(d:Nat)(aT aS:Ω)(b:ao)(A:iA)(B:U)(h:Nat)(x:Ac)(o:U):Prop where
 at_:dR A B o h x.us x.L x.es x.oZ
 w6:aB isRow x.rows x.us
 rd:∀a∈x.rows,α a=d
 Ad:α x.rows<=1
 qk:aB rC x.bF x.es
 r1:∀a∈x.rows,nS c d aT aS b a
 or:∀k∈x.bF,mK c d aT aS b k/\eF aT aS b=η/\1<=bJ k
 co:x.rows=[]->eF aT aS b=η->∀a,nS c d aT aS b a->∃k∈x.bF,nS c d aT aS k a
 r0:(x.bF.map bJ).sum<=2097152
variable{b3:bY}{B:af}
def mK.snoc{a:ao}(c:mK B e q b7 j2 a)(b:de B e a=β b3)(d:A∈b3.kids)(h:eF q b7 A=η):mK B e q b7 j2 A:=by
 induction c with
 |refl p=>exact .step b d h (.refl _)
 |step h1 k o _ ih=>exact .step h1 k o (ih b)
theorem Ae:∀ {ks:List ao},(∀a∈ks,1<=bJ a)->α ks<=(ks.map bJ).sum
 |[],_=>a7T _
 |a::ks,b=>by
  have:=Ae (ks:=ks) λa c=>b a (by simp[c]);grind
def w5.len{c:af}{d:Nat}{h k:Ω}{o:ao}{p:iA}{r:U}{x:Nat}{b:Ac}{y:U}(a:w5 c d h k o p r x b y):α b.es<=2097152:=by rw[a.qk.len];exact a8m (Ae λz C=>(a.or z C).2.2) a.r0
theorem a4v(Z:U)(k5 b00:Nat)(m:af)(b50:bq Z k5 b00 m)(D:ao)(n1 n2 n3:Own)(b01:α D.sum=32)(b51:D.cC)(p x:Ω)(n4 n5 n9:Own)(F:Nat)(t:cQ p x F=η)(c28:D.size<=1048576)(b02:eF p x D=η->1<=D.size):
  AC γ 165 [.ptr k5 0,.agg (ab D n1 n2 n3),.agg (oY p x n4 n5 n9),.v (.int .i64 (F:Int))] Z λa30 E=>Z.sub E/\
   ((w4 m F p x D/\∃c f,a30=.aJ [.agg [c,f],.v (.int .i64 0),.v (.int .i64 21)])\/
   ∃rows I y u v,w3 m F p x D rows/\av Z E 1 I y/\aB isRow rows I/\(∀h∈rows,α h=F)/\a30=.aJ [.agg [y,.v (.int .i64 u)],.v (.int .i64 v),.v (.int .i64 0)]):=by
 obtain⟨b03,c29,b04,a34⟩:=lD t;have b52:=(aP (N:=n1) (e6:=n2) (h6:=n3) b01).all;refine aK hm Q1 ?_;refine bs λa36 c30=>?_;refine dd λb05 c31 c32 c33=>?_;refine hd λa00 a38 c34 c2 aE aL=>?_;generalize k6:((Z.set a36 _).set b05 _).set a00 _=g;have a01:Z.sub g:=by subst k6;exact aO
 have bh:g a36=β (.cells (ab D n1 n2 n3)):=by subst k6;exact aO
 have bz:g b05=β (.cells (oY p x n4 n5 n9)):=by subst k6;exact aO
 have bw:g a00=β (.cells [.J [] .nil,.v (.int .i64 0)]):=by subst k6;exact aO
 clear k6;have b53:=b50.mono a01;refine bp (a2V p x _ _ _ F δ g) ?_;rw[t];have b54:=κ bh;have b55:=κ bz;refine aa ?_;refine aN λd j9=>?_;have b06:a36≠d:=by rintro rfl;rw[j9]at bh;cases bh
 have b56:=b06.symm;have b57:a00≠d:=by rintro rfl;rw[j9]at bw;cases bw
 have c35:=b57.symm;refine aa ?_
 let a:iA:=⟨k5,p,x,n4,n5,n9,F⟩;have b07:dR a g (g.set d (.cells (lO k5 p x n4 n5 n9 F (.J [] .nil) 0 0 0 (.J [] .nil)))) d [] (.J [] .nil) [] (.J [] .nil):=
  ⟨j9,⟨0,0,0,ξ _ _ _⟩,av.nil (μ θ j9),⟨μ θ j9,(λ_ b=>by cases b),.inl ⟨rfl,.inl rfl⟩⟩,(λb=>by cases b),(λb=>by cases b),λ_ b=>by cases b⟩
 refine ah (G0 a g _ d [] _ [] _ b07 D n1 n2 n3 b01 b51 (by show α p<=8;omega) ς) ?_;rintro _ b58⟨b59,b60,a42,k0⟩;have a02:∃b08,w5 m F p x D a g d ⟨[],[],.J [] .nil,b08,b60,b59⟩ b58:=by
  have c36:bJ D<=2097152:=by unfold bJ;omega
  split at k0
  .rename_i w;obtain⟨b61,a43,rfl⟩:=k0;exact⟨[D],a42,trivial,(λ_ b=>by cases b),a7N _,⟨a43,trivial⟩,(λ_ b=>by cases b),(λz a47=>by
    obtain rfl:=a7I.1 a47;have:=b02 w;exact⟨.refl _,w,by unfold bJ;omega⟩),(λ_ _ h r=>⟨D,ς,r⟩),by trivial⟩
  .rename_i w;subst k0;exact⟨[],a42,trivial,(λ_ b=>by cases b),a7N _,trivial,(λ_ b=>by cases b),(λ_ b=>by cases b),(λ_ b=>absurd b w),a7N _⟩
 obtain⟨b08,a02⟩:=a02;refine aa ?_;refine cc [0,3,8,11] (λ_:Ac=>[]) (λc E=>w5 m F p x D a g d c E) (λc=>(c.bF.map bJ).sum) _ ⟨a02,aO⟩ ?_;clear a02 a42 k0 b07 b54 b55 b06 b56 bh bz b52 j9;rintro⟨rows,I,y,b09,a48,c37⟩ E o c38;have i:=o.at_
 dsimp only at i
 have c39:=i;obtain⟨u,v,k7,b10⟩:=i.x;obtain⟨c40,c41⟩:=i.w.len;have eP:=κ b10;refine aa ?_;refine aF (λa03=>?_) λa03=>?_;rotate_left;have a52:=o.qk.len
 .have c42:=a03;have b11:a48=[]:=a7t δ;have b62:b09=[]:=a7t (by rw[b11]at a52;exact a52.symm);subst b11;subst b62;have b63:=χ (i.l.1 _ _ bw);have c43:=fQ i.l;refine aa ?_;refine⟨_,θ,μ (π a01 i.l.1) a38,.inr ⟨rows,I,y,u,v,⟨o.Ad,o.r1,λT A h r=>?_⟩,av.other (i.l.base a01) a38 (λG=>?_),o.w6,o.rd,rfl⟩⟩
  .obtain⟨z,a47,_⟩:=o.co T A h r;cases a47
  .have:=av.fresh i.l G;rw[bw]at this;cases this
 have a52:=o.qk.len;have b64:a48≠[]:=by grind
 obtain⟨b12,b13,post,b14,b15,c44,b16⟩:=i.sort b64;obtain⟨c45,b17⟩:=oX.of (s:=E) (l:=b12) (g:=b13) (H:=post) (c0:=a48) (b4:=216) (ds:=[]) abH λa04 a56 a57 t=>by
  obtain⟨z,_,T⟩:=o.qk.mem a56;obtain⟨B,_,A⟩:=o.qk.mem t;obtain⟨a03,b65⟩:=a2U T A;exact⟨a03,λa61 _=>b65 _⟩
 rw[b14];clear eP b14;refine ah (FX a2O a2I a2E a2G a2C a2A δ rfl b15 (a8m o.len δ) b17 λG K=>?_) ?_
 .obtain⟨z,_,T,_,L,P,S,c,f,id,b66,rfl⟩:=o.qk.mem K;obtain⟨M,N,_⟩:=vK (N:=L) (e6:=P) (h6:=S) (e:=c) (i:=f) (id:=id) (b1:=b66) T;exact⟨M,by rw[hY,aM,if_pos rfl,N]⟩
 rintro _ _⟨a61,k1,rfl⟩;have k8:=b16 a61 k1;obtain⟨b67,k9,b68⟩:=o.qk.perm k1
 match a61,b67,b68,k1,k9,k8 with
 |[],_,_,k1,_,_=>exact absurd k1.length_eq (by simp_all)
 |G::k2,z::O,⟨b69,b18⟩,k1,k9,k8=>
 obtain⟨u,v,k7,a62⟩:=k8.x;obtain⟨C,c46,c47,a63,c48,c49,b70,b19⟩:=k8.tail;generalize W E b12 b13 post (G::k2)=a05 at*;have eP:=κ a62;have a65:=χ a62;clear b16 b17 b15 b10;obtain⟨l0,b71,L,P,S,b72,b73,b74,b75,rfl⟩:=b69;have b20:=(vK (N:=L) (e6:=P) (h6:=S) (e:=b72) (i:=b73) (id:=b74) (b1:=b75) l0).2.2.1;rw[hY,b20]at b19;have c50:=(aP (N:=L) (e6:=P) (h6:=S) l0).all;have b21:=lP (N:=L) (e6:=P) (h6:=S) l0;refine aa ?_;refine aN λk3 a68=>?_;have b22:d≠k3:=by rintro rfl;rw[a62]at a68;cases a68
 have b23:=b22.symm;refine aa ?_;have a69:(a05.set d (.cells (lO a.gG a.aT a.aS a.gT a.eK a.hK a.d y u v k7 C))) k3=none:=(ο _ _ b23).trans a68;have b24:=(a63 u v k7).fresh a69;have b25:=(a63 u v k7).mono (μ (Y:=.cells (ab z L P S)) θ a69);rw[U.ef a05 b22]at b25;have gq:((a05.set k3 (.cells (ab z L P S))).set d (.cells (lO a.gG a.aT a.aS a.gT a.eK a.hK a.d y u v k7 C))) k3=β (.cells (ab z L P S)):=(ο _ _ b23).trans (ξ _ _ _);generalize (a05.set k3 (.cells (ab z L P S))).set d _=a71 at*;clear a69 a63 b70 b19 b20 a65 eP k8 b21;obtain⟨b76,l1⟩:=b25.wide;have b77:res (kh d y C) a71 k3=β (.cells (ab z L P S)):=by
  rw[p0];exact gq;rintro(b|b|b)
  .omega
  .exact b24.l b
  .exact b24.w b
 generalize res (kh d y C) a71=b78 at*;have c51:(b09.map bJ).sum=bJ z+(O.map bJ).sum:=by rw[<-(k9.map bJ).sum_nat];simp
 have Q:=λB j=>o.or B (k9.mem_iff.1 j);have b79:=o.r0
 dsimp only at b79
 refine ah (a2Y a b78 a71 d I rows y k2 C b76 o.w6 o.rd a34 b03 z L P S l0) ?_;rintro _ b26⟨n,a57,rfl,b80⟩;have b81:=κ (n.l.1 _ _ b77);refine aa ?_;refine aF (λt=>?_) λt=>?_
 .have b02:=b80 t;refine⟨⟨rows,I,y,O,k2,C⟩,⟨n.base l1,o.w6,o.rd,o.Ad,b18,o.r1,λB j=>Q B (by simp[j]),λb=>?_,?_⟩,?_⟩;simp_all
  .show(O.map bJ).sum<= _;omega
  grind
 have b27:=(b53.mono l1).mono n.l.1;refine ah (vg b26 k5 b00 m b27 z L P S l0 (λ_=>b71) F b04 a34) ?_;rintro a30 X⟨a73,a06⟩;cases H:de m F z with
 |none=>
  rw[H]at a06;obtain rfl:=a06;have b28:=a73 _ _ (n.l.1 _ _ (l1 _ _ bw));refine aa ?_;refine aN λl q=>?_;have b82:a00≠l:=by rintro rfl;rw[b28]at q;cases q
  have c52:=b82.symm;have b63:=χ b28;refine aa ?_;have b29:=π a01 (π l1 (π n.l.1 a73));refine⟨_,θ,μ (μ b29 (Ο b29 q)) a38,.inl ⟨⟨z,(Q z ς).1,(Q z ς).2.1,H⟩,_,_,rfl⟩⟩
 |some k=>
  rw[H]at a06;obtain⟨c,f,rfl,c53,c54,c55,k4,l2,a07,a74,_,_⟩:=a06;have a08:=n.mono a73;obtain⟨l3,Y,l4,a09⟩:=a08.x;have c56:=fQ k4;have c57:=fQ l2;refine aa ?_;refine aN λl q=>?_;have b30:d≠l:=by rintro rfl;rw[a09]at q;cases q
  have b31:=b30.symm;have eP:=κ a09;have a65:=χ a09;have a56:bt .add (.int .i64 Y) (.int .i64 1)=β (.int .i64 (IntKind.i64.wrap (Y+1))):=rfl;have b32:=bO.dK k4 δ rfl (a07.cells λ_ _=>cY.cells);have b83:=b32.len;rw[a07.len]at b83;have a81:(X.set d (.cells (lO a.gG a.aT a.aS a.gT a.eK a.hK a.d y l3 (IntKind.i64.wrap (Y+1)) l4 C))) l=none:=(ο _ _ b31).trans q;have a83:=(a08.set l3 (IntKind.i64.wrap (Y+1)) l4).mono (μ (Y:=.cells [.v (.int .u8 (k.kind.toNat)),c,f]) θ a81);rw[U.ef X b30]at a83;refine aa ?_;have lB:((X.set l (.cells [.v (.int .u8 (k.kind.toNat)),c,f])).set d (.cells (lO a.gG a.aT a.aS a.gT a.eK a.hK a.d y l3 (IntKind.i64.wrap (Y+1)) l4 C))) l=β (.cells [.v (.int .u8 (k.kind.toNat)),c,f]):=(ο _ _ b31).trans (ξ _ _ _);have b33:=(a08.set l3 (IntKind.i64.wrap (Y+1)) l4).fresh a81;have b84:∀h a10,X h=β a10->¬kh d y C h->((X.set l (.cells [.v (.int .u8 (k.kind.toNat)),c,f])).set d (.cells (lO a.gG a.aT a.aS a.gT a.eK a.hK a.d y l3 (IntKind.i64.wrap (Y+1)) l4 C))) h=β a10:=λh a10 r hm=>by
   have L:h≠d:=λG=>hm (.inl G);have P:h≠l:=by rintro rfl;rw[q]at r;cases r
   rw[ο _ _ L,ο _ _ P];exact r
  generalize (X.set l (.cells [.v (.int .u8 (k.kind.toNat)),c,f])).set d _=a84 at*;have a86:∀ {a04:R}{h:Nat},cN a04=β h->b26 h=ζ->¬kh d y C h:=λt r hm=>by
   rcases hm with rfl|G|G
   .obtain⟨_,_,_,b⟩:=n.x;rw[r]at b;cases b
   .exact av.has n.l G r
   .exact n.w.has G r
  have a88:(res (kh d y C) X).sub (res (kh d y C) a84):=λh a10 r=>by
   grind[hm,kh,rE,p0]
  have b85:=(bO.dK (av.res k4 λl5 V=>a86 V (av.fresh k4 V)) δ rfl (a07.cells λ_ _=>cY.cells)).mono (π (G4 l2.1) a88);have b34:=(bO.dK (av.res l2 λl5 V=>a86 V (Ο k4.1 (av.fresh l2 V))) δ rfl (a74.cells λ_ _=>Ξ)).mono a88;obtain⟨b86,b87⟩:=a83.wide;have b88:res (kh d y C) a84 l=β (.cells [.v (.int .u8 (k.kind.toNat:Int)),c,f]):=by
   rw[p0];exact lB;rintro(b|b|b)
   .trivial
   .exact b33.l b
   .exact b33.w b
  generalize res (kh d y C) a84=l6 at*;have b89:=π l1 b87;clear b84 a86 a88 b32 k4 l2 eP a65 a09 a08 a83 lB a56 q a81 b27 b81;have b35:=(rj H).ok;obtain⟨b90,_,_⟩:=kG b35;refine cc [0,3,8,11,13,79,80] (λc:Nat×(List Ω)×ύ×R=>[(81,.v (.int .i64 (c.1)))]) (λc E=>c.1<=α k.rows/\dR a l6 E d c.2.2.1 c.2.2.2 k2 C/\aB isRow c.2.1 c.2.2.1/\(∀h∈c.2.1,α h=F)/\α c.2.1<=1/\(∀h∈c.2.1,nS m F p x D h)/\(c.2.1=[]->rows=[]/\∀h,(h,η)∈k.rows.take c.1->jv p x h=ι)) (λc=>α k.rows - c.1) (0,rows,I,y) ⟨⟨a7N _,b86,o.w6,o.rd,o.Ad,o.r1,λb=>⟨b,λh r=>by simp at r⟩⟩,aO⟩ ?_;rintro⟨e,b36,a11,a13⟩ b91 ⟨b92,l7,a89,l8,a14,a15,a16⟩ c58
  dsimp only at b92 l7 a89 l8 a14 a15 a16
  refine aa ?_;refine aF (λc2=>?_) λc2=>?_
  .have a90:e<α k.rows:=δ;obtain⟨_,K,a92,rfl⟩:=a07.get (i:=e) (x:=k.rows.getD e ([],ι)) (by simp_all);obtain⟨l5,b93,V⟩:=b85.get e _ K;have b37:∀E,l6.sub E->cW η 2 E l5=β (.agg [.J (ad (k.rows.getD e ([],ι)).1) a92,.v (.bool (k.rows.getD e ([],ι)).2)]):=λE b=>V.ld E b η 2 δ (by simp[hY]);have b94:=b37 b91 l7.l.1;have hm:k.rows.getD e ([],ι)∈k.rows:=by simp_all
   have G:=eX (b:=([],ι)) a90;generalize k.rows.getD e ([],ι)=b95 at*;obtain⟨a18,a94⟩:=b95
   dsimp only at b94 G hm
   have b38:=b90 _ hm;clear b37 V K;refine aa ?_;refine aN λc59 b96=>?_;have b97:=l7.mono (μ (Y:=.cells [.J (ad a18) a92,.v (.bool a94)]) θ b96);refine aa ?_;refine ah (a2X a l6 _ d a11 b36 a13 k2 C b97 a89 l8 b04 a34 b03 a14 a18 a94 a92 b38) ?_;rintro _ c60⟨b39,b98,b40,b41,b42,a95⟩;refine aa ?_;have b99:a94=η->jv p x a18=η->nS m F p x D a18:=λT A=>by subst T;exact⟨z,k,(Q z ς).1,H,hm,A⟩
   split at a95
   .rename_i a19;rw[Υ]at a19;obtain⟨h,rfl,r⟩:=a95;refine⟨(e+1,[h],b39,b40),⟨a90,b41,b42,λc00 b=>?_,ς,λc00 b=>?_,λb=>by cases b⟩,rfl,δ⟩
    all_goals
     obtain rfl:=a7I.1 b;rcases r with rfl|r
    .exact b38
    .exact l8 _ r
    .exact b99 a19.1 a19.2
    .exact a15 _ r
   .rename_i a19;subst a95;refine⟨(e+1,b98,b39,b40),⟨a90,b41,b42,l8,a14,a15,λb=>⟨(a16 b).1,λh r=>?_⟩⟩,rfl,δ⟩;grind
  obtain rfl:e=α k.rows:=δ;rw[a7K]at a16;have c61:=κ (l7.l.1 _ _ b88);have c01:=b34.len;rw[a74.len]at c01;refine aa ?_;refine cc [0,3,8,11,90,91] (λc:Nat×ύ×R=>[(92,.v (.int .i64 (c.1)))]) (λc E=>c.1<=α k.kids/\dR a l6 E d a11 a13 c.2.1 c.2.2/\aB rC (O++(k.kids.take c.1).filter (eF p x)) c.2.1) (λc=>α k.kids - c.1) (0,k2,C) ⟨⟨a7N _,l7,by simpa using b18⟩,aO⟩ ?_;rintro⟨s,a96,b43⟩ b44 ⟨c02,a27,l9⟩ c62
  dsimp only at c02 a27 l9
  refine aa ?_;refine aF (λaE=>?_) λaE=>?_
  .have b45:s<α k.kids:=δ;obtain⟨_,K,a97,c03,M,N,n0,rfl⟩:=a74.get (i:=s) (x:=k.kids.getD s az) (by simp_all);obtain⟨l5,b93,V⟩:=b34.get s _ K;have c04:=(aP (N:=M) (e6:=N) (h6:=n0) a97).all;have c63:cW η 37 b44 l5=β (.agg (ab (k.kids.getD s az) M N n0)):=by have:=V.ld b44 a27.l.1 η 37 δ (by rw[hY];omega);rw[this,aM,if_pos rfl,hY,c04.2.1]
   have G:=eX (b:=az) b45;have b21:=lP (N:=M) (e6:=N) (h6:=n0) a97;generalize k.kids.getD s az=a98 at*;have c05:α a96<=100000000:=by have T:=l9.len;rw[Ψ]at T;have A:=Ae (ks:=O) λB j=>(Q B (by simp[j])).2.2;grind
   clear V K;refine aa ?_;refine aN λc64 c06=>?_;have c07:=a27.mono (μ (Y:=.cells (ab a98 M N n0)) θ c06);refine aa ?_;refine ah (G0 a l6 _ d a11 a13 a96 b43 c07 a98 M N n0 a97 c03 (by show α p<=8;omega) c05) ?_;rintro _ c65⟨c08,b46,k0,b47⟩;refine aa ?_;refine⟨(s+1,b46,c08),⟨b45,k0,?_⟩,rfl,δ⟩;show aB rC (O++(k.kids.take (s+1)).filter (eF p x)) b46;rw[G,aai,<-a7B];split at b47
   .rename_i w;obtain⟨b61,a43,rfl⟩:=b47;have w:eF p x a98=true:=w;rw[ab1 w];exact l9.snoc a43
   grind
  .obtain rfl:s=α k.kids:=δ;rw[a7K]at l9;obtain⟨c66,c67⟩:=G5 (q:=p) (b7:=x) H;have c09:=tA b35;refine⟨⟨b36,a11,a13,O++k.kids.filter (eF p x),a96,b43⟩,⟨a27.base b89,a89,l8,a14,l9,a15,λB j=>?_,λT A h r=>?_,?_⟩,?_⟩
   .rcases a7z.1 j with j|j
    .simp_all
    .obtain⟨a29,a99⟩:=aae.1 j;obtain⟨_,a04,a57⟩:=kX (c09 B a29);have:=a04 (a57 (zv a99));exact⟨(Q z ς).1.snoc H a29 a99,(Q z ς).2.1,by unfold bJ;omega⟩
   .obtain⟨a29,a99⟩:=a16 T;obtain⟨c68,b48,c19⟩:=o.co a29 A h r;rcases a7J.1 (k9.mem_iff.2 b48)with rfl|b48
    .obtain⟨c69,c70,c21,c22,c23,c24⟩:=c19;cases c21 with
     |refl=>simp_all
     |step b49 c25 c26 c27=>rw[H]at b49;obtain rfl:=Δ b49;exact⟨_,a9w _ (aae.2 ⟨c25,c26⟩),_,_,c27,c22,c23,c24⟩
    grind
   grind;grind
def Af(d:af)(h:List aU)(k:ϊ)(id:Int)(b:R):Prop:=match h.find? (λa=>decide (a.name=k))with
 |none=>b=.aJ [.J [] .nil,.v (.bool ι),.v (.int .i64 3)]
 |some a=>
  (w4 d (α a.aD+1) (id::ε (α a.aD) ja) (id::ε (α a.aD) jw) a.bf/\b=.aJ [.J [] .nil,.v (.bool ι),.v (.int .i64 21)])\/
  ∃rows,w3 d (α a.aD+1) (id::ε (α a.aD) ja) (id::ε (α a.aD) jw) a.bf rows/\(∀c∈rows,α c=α a.aD+1)/\
   ((rows=[]/\b=.aJ [.J [] .nil,.v (.bool ι),.v (.int .i64 0)])\/∃c o p,rows=c::o/\b=.aJ [.J (ad c) p,.v (.bool η),.v (.int .i64 0)])
theorem a4w(a:cJ e3=η)(b:e9∈e3):fq (α e9.aD+1) e9.bf=true:=by simp only[cJ,Υ,a7E,a8C,decide_eq_true_eq]at a;obtain⟨c,d,rfl⟩:=a8a b;simp_all [gd]
theorem H4(id:Int)(a:e<=7):cQ (id::ε e ja) (id::ε e jw) (e+1)=true:=by have hm:ja<=jw:=Θ;simp only[cQ,a7s,a9j,Υ,decide_eq_true_eq,a7E,a8C];grind
theorem a4x(x:U)(y n j9:Nat)(q:af)(E:List aU)(s:dI x y n j9 q E)(k0:cJ E=η)(W:ϊ)(id:Int):
  AC γ 103 [.ptr y 0,bo W,.v (.int .i64 id)] x λt a03=>x.sub a03/\Af q E W id t:=by
 obtain⟨a04,a88⟩:=p5 k0;obtain⟨a05,a06,F,a07⟩:=s.x;have a89:=κ F;have a90:=ht.all.1;have u:∀a T,eL a T->putAt fJ 0 T=T:=λa T v=>(p2 v).2.2.1;have a08:=u _ _ ht;have w:=kY;have k:=find_spec E a05 a06 W a07 δ x;unfold Found at k;unfold Af;generalize fJ=a92 at*;refine aK hm Oh ?_;refine ah k ?_;clear k;rintro t k1⟨rfl,k⟩;cases A:E.find? (λa=>decide (a.name=W))with
 |none=>rw[A]at k;obtain rfl:=k;refine aa ?_;refine aN λa94 a95=>?_;rw[w];exact aO
 |some a=>
  rw[A]at k;obtain⟨T,e,rfl⟩:=k;obtain⟨a96,a97,a98,a99,k2,k3,k4,k5,a09,a10,b00,b01,b02⟩:=e.all;have b03:=u _ _ e;have k6:=λx=>tC a T e x;have hm:=Ab A;have k7:=a04 a hm;have a11:=k7.c;have a13:=k7.k.size;obtain⟨a14,a15⟩:=e.k;clear u a08;refine aa ?_;refine aN λz B=>?_;rw[w];clear w;have a16:y≠z:=by rintro rfl;rw[F]at B;cases B
  have b04:=a16.symm;have C:=μ (Y:=.cells T) (θ) B;have cO:=ξ k1 z (.cells T);refine aa ?_;refine bp (k6 _) ?_;generalize k1.set z _=H at*;refine ah (a2z (α a.aD+1) δ δ H) ?_;rintro _ k8⟨b05,b06,rfl,b07,f,g⟩;have k9:(ad (ε (α a.aD+1) ja)).length=α a.aD+1:=by rw[bN,a9j]
  have l0:(ad (ε (α a.aD+1) jw)).length=α a.aD+1:=by rw[bN,a9j]
  obtain⟨aR,d,G,o,rfl,L,l1,a18,I,l2,b08,_⟩:=f.aq (λK=>by rw[K]at k9;simp at k9);obtain⟨b,c,D,p,rfl,M,l3,a19,N,l4,b09,_⟩:=g.aq (λK=>by rw[K]at l0;simp at l0);rw[a8g]at a18 I l2 a19 N l4;have l5:=g.1 _ _ l1;have l6:aR≠b:=by rintro rfl;rw[l1]at M;cases M
  have a27:=l6.symm;have i:=π f.1 g.1;have l7:=i _ _ cO;have l8:=i _ _ (C _ _ F);have b10:=(s.sub C).sub i;have P:=Ο f.1 M;have b11:z≠aR:=by rintro rfl;rw[cO]at L;cases L
  have b12:z≠b:=by rintro rfl;rw[cO]at P;cases P
  have b13:y≠aR:=by rintro rfl;rw[C _ _ F]at L;cases L
  have b14:y≠b:=by rintro rfl;rw[C _ _ F]at P;cases P
  refine aa ?_;refine aN λr h=>?_;have a29:aR≠r:=by rintro rfl;rw[l5]at h;cases h
  have a30:b≠r:=by rintro rfl;rw[l3]at h;cases h
  have a34:z≠r:=by rintro rfl;rw[l7]at h;cases h
  have a36:y≠r:=by rintro rfl;rw[l8]at h;cases h
  have b15:=a29.symm;have b16:=a30.symm;have b17:=a34.symm;have b18:=a36.symm;have b19:cz 1 (.aq aR d G 1) (.v (.int .i64 0))=β (.ptr aR 0):=by grind[jQ]
  have b20:cz 1 (.aq b c D 1) (.v (.int .i64 0))=β (.ptr b 0):=by grind[jQ]
  have b21:=χ l5;have b22:=χ l3;have b23:=κ l7;have eP:=κ l8;have b24:1<=α o:=δ;have b25:1<=α p:=δ;have a38:(putAt o 0 [R.v (.int .i64 id)]).take d=ad (id::ε (α a.aD) ja):=by
   have O:d=α a.aD+1:=δ;have S:(o.drop 1).take (d - 1)=ad (ε (α a.aD) ja):=by rw[<-a8H,I];rfl
   have Q:d - 1=α a.aD:=δ;rw[Q]at S;show([]++[R.v (.int .i64 id)]++o.drop 1).take d= _;rw[a7H,O,abj,aaa,S];rfl
  have a42:(putAt p 0 [R.v (.int .i64 id)]).take c=ad (id::ε (α a.aD) jw):=by
   have O:c=α a.aD+1:=δ;have S:(p.drop 1).take (c - 1)=ad (ε (α a.aD) jw):=by rw[<-a8H,N];rfl
   have Q:c - 1=α a.aD:=δ;rw[Q]at S;show([]++[R.v (.int .i64 id)]++p.drop 1).take c= _;rw[a7H,O,abj,aaa,S];rfl
  have b26:(putAt o 0 [R.v (.int .i64 id)]).length=α o:=eO _ _ _ Μ;have b27:(putAt p 0 [R.v (.int .i64 id)]).length=α p:=eO _ _ _ Μ;have b28:(k8.set r (.cells [.aq aR d G 1,.aq b c D 1])) r=β (.cells [.aq aR d G 1,.aq b c D 1]):=ξ _ _ _;clear f g I N l2 l4;refine aa ?_;generalize putAt o 0 [R.v (.int .i64 id)]=j at*;generalize putAt p 0 [R.v (.int .i64 id)]=l at*;refine bp (k6 _) ?_;generalize X:((k8.set r (.cells [.aq aR d G 1,.aq b c D 1])).set aR (.cells j)).set b (.cells l)=V;have a43:V aR=β (.cells j):=by subst X;rw[ο _ _ l6,ξ]
  have a47:V b=β (.cells l):=by subst X;rw[ξ]
  have b29:=Ο i h;have a48:H.sub V:=by grind[μ]
  clear X;have l9:=View.aq (n:=d) (cap:=G) (k:=1) a43 δ;rw[mr,a38]at l9;have a52:(V.set aR (.ro j)) b=β (.cells l):=by rw[ο _ _ a27];exact a47
  have n0:=View.aq (n:=c) (cap:=D) (k:=1) a52 δ;rw[mr,a42]at n0;have n1:H.sub ((V.set aR (.ro j)).set b (.ro l)):=μ (μ a48 L) P;have a56:=View.agg (a:=[]) (k:=[.aq b c D 1,.v (.int .u8 0),.v (.int .i64 0),.J [] .nil,.v (.int .i64 1),.v (.bool ι)]) rfl l9;have a57:=View.agg (a:=[.J (ad (id::ε (α a.aD) ja)) .any]) (k:=[.v (.int .u8 0),.v (.int .i64 0),.J [] .nil,.v (.int .i64 1),.v (.bool ι)]) rfl n0;have a61:=a56.trans a57;have a62:=H4 id a11;have a63:eF (id::ε (α a.aD) ja) (id::ε (α a.aD) jw) a.bf=η->1<=a.bf.size:=λv=>by
   simp only[eF,Υ,decide_eq_true_eq]at v;have b30:=kX (a4w k0 hm);simp_all
  have a65:=AC.nI (m:=γ) (g:=[.ptr n 0,.agg (ab a.bf k2 k3 k4)]) a61 (a4v _ n j9 q (s.fV.mono (π C n1)) a.bf k2 k3 k4 a14 a15 _ _ .any .any .nil (α a.aD+1) a62 a13 a63);refine ah a65 ?_;rintro t a68⟨a69,a71⟩;have b31:=π C (π n1 a69);rcases a71 with⟨b32,b33,b34,rfl⟩|⟨rows,b35,Y,n2,b36,b37,Z,m,b38,rfl⟩
  .refine aa ?_;refine aN λn3 n4=>?_;refine aa ?_;simp
  .have b39:=fQ Z;refine aa ?_;refine aN λn3 n4=>?_;have a73:=Z.src;obtain⟨n5,k5,a09,a10⟩:=a73;rw[a8g]at k5;have n9:=m.len;refine aa ?_;cases rows with
   |nil=>
    have a00:n5=0:=by rw[a7x]at n9;omega
    subst a00;refine aa ?_;grind
   |cons a74 rest=>
    have a00:¬(n5:Int)=0:=by rw[a7s]at n9;omega
    obtain⟨_,a81,a83,rfl⟩:=m.get (i:=0) rfl;have a84:=bO.dK (Z.mono (μ (Y:=.cells [Y,.v (.int .i64 n2)]) (θ) n4)) δ m.flat.symm (m.cells λ_ _=>φ);obtain⟨a01,a02,a86⟩:=a84.get 0 _ a81;have a02:cz 1 Y (.v (.int .i64 0))=β a01:=a02;have b40:cW ι 1 (a68.set n3 (.cells [Y,.v (.int .i64 n2)])) a01=β (.J (ad a74) a83):=a86.ld _ θ ι 1 δ (by simp[σ]);refine aa ?_;grind
def jH(d:Nat)(b:Ω×Ω)(c:Ω):Prop:=∀a,a<d->b.1.getD a 0<=c.getD a 0/\c.getD a 0<=b.2.getD a 0
def H5{a b:Ω×Ω}(h:hr e a)(k:hr e b)(c:jH e a q\/jH e b q):jH e (cR a b) q:=by
 have o:=lI.1 h.ok;have p:=lI.1 k.ok;unfold cR;rw[o.2.2.1,p.2.2.1,if_pos h.ok,if_pos k.ok,if_pos rfl];intro d r;have x:=Fs (a:=min) (q:=a.1) (b7:=b.1) (e:=d) δ δ;have y:=Fs (a:=max) (q:=a.2) (b7:=b.2) (e:=d) δ δ
 dsimp only
 rw[x,y];rcases c with c|c<;>have:=c d r<;>omega
variable{a8:aC}
theorem H6{a:gS}(k:mF e i a)(r:0<i)(o:jE e a8 A)(d:jH e a.aR q):jH e (eD a A).aR q:=by
 have h:hr e a.aR:=by
  rcases k.aR with⟨b,_⟩|⟨_,b⟩
  .omega
  .exact b
 show jH e (cR a.aR (A.aT,A.aS)) q;rcases o.aR with⟨b,c,p⟩|⟨b,c⟩
 .rw[c,p,GQ h];exact d
 .exact H5 h c (.inl d)
def H7{a:gS}(h:mF e i a)(k:jE e a8 A)(o:q∈a8.all)(d:jH e (A.aT,A.aS) q):jH e (eD a A).aR q:=by
 have x:=aal o;show jH e (cR a.aR (A.aT,A.aS)) q;rcases k.aR with⟨p,b,y⟩|⟨p,b⟩
 .omega
 rcases h.aR with⟨r,c⟩|⟨r,c⟩
 .rw[c,q4 b];exact d
 .exact H5 c b (.inr d)
theorem Ag{b:Nat}(h:1<=b)(k:b<=8){c:Ω}:∀ {o:aC},o.c9 b->o.size<=1048576->c∈o.all->jH b ((bg o).aT,(bg o).aS) c
 |.nil,_,_,d=>by cases d
 |.node p live D E,d,F,a=>by
  simp only[Κ]at F;have x:=eG h k d.a δ;have y:=eG h k d.b δ;have r:=yM h k d.r;have z:mF b (if live=η then 1 else 0) (dW ⟨0,1,([],[])⟩ (p,live)):=by
   cases live with
   |false=>exact⟨rfl,.inl ⟨rfl,rfl⟩⟩
   |true=>refine⟨rfl,.inr ⟨Θ,?_⟩⟩;show hr b (cR ([],[]) (gy p));rw[q4 r];exact r
  have C:=zM z x;show jH b (eD (eD (dW ⟨0,1,([],[])⟩ (p,live)) (bg D)) (bg E)).aR c;simp only[aC.all,a7z]at a;rcases a with (a|a)|a
  .have:=aal a;exact H6 C δ y (H7 z x a (Ag h k d.a δ a))
  .exact H7 C y a (Ag h k d.b δ a)
  .have G:live=η/\c=p:=by simp_all
   obtain⟨rfl,rfl⟩:=G;have L:jH b (dW ⟨0,1,([],[])⟩ (c,η)).aR c:=by show jH b (cR ([],[]) (gy c)) c;rw[q4 r];unfold gy;rw[if_pos (by have:=d.r.len;omega)];exact λP _=>⟨ab6 _,ab6 _⟩
   grind[H6]
def H8{a:Ω}(b:α a=e):jv q b7 a=η↔cQ q b7 e=η/\jH e (q,b7) a:=by unfold jv;simp only[b,Υ,a7E,a8C,decide_eq_true_eq];rfl
def Ah(c:1<=e)(d:e<=8){h:Ω}(a:a8.c9 e)(k:a8.size<=1048576)(b:b7∈a8.all)(y:jv h q b7=η):eF h q (bg a8)=true:=by
 have o:=eG c d a k;have G:=aal b;have z:=(a b7 (aC.gI b)).len;obtain⟨p,C⟩:=(H8 z).1 y;have D:=Ag c d a k b;have E:=lI.1 p;have F:cQ (bg a8).aT (bg a8).aS e=true:=by
  rcases o.aR with⟨r,_⟩|⟨_,r⟩
  .omega
  .exact r.ok
 have L:=o.live;unfold eF ke oT;simp only[E.2.2.1,Υ,a7E,a8C,decide_eq_true_eq];refine⟨δ,⟨p,F⟩,λx q=>?_⟩;have:=C x q;have:=D x q
 dsimp only at*
 unfold hR;omega
def H9:de B e az=none:=by
 cases a:de B e az with
 |none=>rfl
 |some b=>have:=(G5 (q:=[]) (b7:=[]) a).2;have c:(az).size=0:=rfl;omega
theorem Ha(r:1<=e)(x:e<=8)(y:mK B e q b7 A j2):∀ {a:aC},A=bg a->a.c9 e->a.size<=1048576->dn B a->∃b,j2=bg b/\b.c9 e/\b.size<=1048576/\dn B b/\(∀z∈b.all,z∈a.all)/\(eF q b7 A=η->eF q b7 j2=η):=by
 induction y with
 |refl C=>grind
 |@step C k W f c hk g i ih=>
  intro a o d p h;cases a with
  |nil=>rw[o,show bg .nil=az from rfl,H9]at c;cases c
  |node j live D E=>
   rw[o,qi r x d p h]at c;obtain rfl:=Δ c;simp only[Κ]at p;have F:k=bg D\/k=bg E:=by simpa[ck] using hk
   rcases F with rfl|rfl
   .obtain⟨b,G,L,P,S,T,V⟩:=ih rfl d.a δ h.2.1;grind[aC.all]
   .obtain⟨b,G,L,P,S,T,V⟩:=ih rfl d.b δ h.2.2;grind[aC.all]
def a4y(a:1<=e)(b:e<=8)(d:a8.c9 e)(h:a8.size<=1048576)(k:dn B a8):¬w4 B e q b7 (bg a8):=by
 rintro⟨D,o,p,c⟩;obtain⟨r,rfl,x,y,z,_,C⟩:=Ha a b o rfl d h k;cases r with
 |nil=>exact zv (C p) rfl
 |node E live F G=>rw[qi a b x y z]at c;cases c
def a4z(b:1<=e)(c:e<=8){d:Ω}(h:a8.c9 e)(k:a8.size<=1048576)(o:dn B a8)(p:nS B e b7 d (bg a8) q):q∈a8.all/\jv b7 d q=true:=by
 obtain⟨G,L,r,a,hm,x⟩:=p;obtain⟨y,rfl,z,C,D,E,_⟩:=Ha b c r rfl h k o;refine⟨E q ?_,x⟩;cases y with
 |nil=>rw[show bg .nil=az from rfl,H9]at a;cases a
 |node F live P S=>
  rw[qi b c z C D]at a;obtain rfl:=Δ a;have:q=F/\live=true:=by simpa[ck] using hm
  obtain⟨rfl,rfl⟩:=this;simp[aC.all]
theorem Ai{E:af}{o:Nat}(c:1<=o)(d:o<=8){F G p:Ω}:∀ {h:aC},h.c9 o->h.size<=1048576->dn E h->p∈h.all->jv F G p=η->nS E o F G (bg h) p
 |.nil,_,_,_,b,_=>by cases b
 |.node P live T V,b,L,r,a,k=>by
  have x:=qi c d b L r;simp only[Κ]at L;simp only[aC.all,a7z]at a;rcases a with (a|a)|a
  .obtain⟨y,z,C,D⟩:=Ai c d b.a δ r.2.1 a k;exact⟨y,z,.step x (by simp[ck]) (Ah c d b.a δ a k) C,D⟩
  .obtain⟨y,z,C,D⟩:=Ai c d b.b δ r.2.2 a k;exact⟨y,z,.step x (by simp[ck]) (Ah c d b.b δ a k) C,D⟩
  .have S:live=η/\p=P:=by simp_all
   obtain⟨rfl,rfl⟩:=S;exact⟨_,_,.refl _,x,by simp[ck],k⟩
variable{O:List Ω}
theorem a4A(b:1<=e)(c:e<=8)(d:a8.c9 e)(h:a8.size<=1048576)(k:dn B a8)(o:w3 B e q b7 (bg a8) O):(O=[]↔ ∀a∈a8.all,¬jv q b7 a=η):=by
 constructor
 .intro x a p r;exact o.full x (Ah b c d h p r) a (Ai b c d h k p r)
 .intro y;cases O with
  |nil=>rfl
  |cons a rest=>obtain⟨z,C⟩:=a4z b c d h k (o.sound a ς);simp_all
theorem Hb{id:Int}(d:e<=7)(b:bQ (e+1) q):jv (id::ε e ja) (id::ε e jw) q=η↔q.getD 0 0=id:=by
 rw[H8 b.len];constructor
 .rintro⟨_,c⟩;have:=c 0 δ;grind
 .intro h;refine⟨H4 id d,λa k=>?_⟩;cases a with
  |zero=>simp only[a7W];omega
  |succ a=>have c:a<e:=δ;have o:=b.len;have hm:=b.kP (q.getD (a+1) 0) (by simp_all);simp only[a7Z];simp only[a8n,List.getElem?_replicate,if_pos c,a9l];simp only[a8n]at hm;unfold ja jw;omega
def p7(b:af)(d:List aU)(c:dt)(h:Int×List aU×af):Prop:=match d.find? (λa=>decide (a.name=c.table))with
 |none=>h=(3,d,b)
 |some a=>if α c.row=α a.aD+1 then
   (w4 b (α a.aD+1) (c.row.getD 0 0::ε (α a.aD) ja) (c.row.getD 0 0::ε (α a.aD) jw) a.bf/\h=(21,d,b))\/
   ∃rows,w3 b (α a.aD+1) (c.row.getD 0 0::ε (α a.aD) ja) (c.row.getD 0 0::ε (α a.aD) jw) a.bf rows/\(∀k∈rows,α k=α a.aD+1)/\
    ((rows=[]/\h=gK (λb=>rI (α a.aD+1) c.row b a.bf) (λb=>lG (α a.aD+1) c.row b a.bm) b d a)\/(rows≠[]/\h=(8,d,b)))
  else h=(6,d,b)
def a4B(z:U)(p r x:Nat)(k:af)(c:List aU)(l:dI z p r x k c)(m:∀d∈c,d.Fit)(n:cJ c=η)(a:du)(H:a.d.Fit):
  AC γ 57 [.ptr p 0,a.V] z λD E=>∃res,p7 k c a.d res/\D=.v (.int .i64 res.1)/\dI E p r x res.2.2 res.2.1/\cB p r x z E:=by
 obtain⟨I,l5⟩:=p5 n;have q:=λE C=>H0 E p r x k c C δ a H;have s:a.V=.agg [aj a.d.kind,bo a.d.table,.J (bM a.d.aD) a.gD,.J (ad a.d.row) a.dv]:=rfl;obtain⟨l6,l7,K,l8⟩:=l.x;rw[s]at q|-;clear s;have l9:=κ K;have n0:=ht.all.1;refine aK hm MN ?_;refine bs λP M=>?_;have t:=μ (Y:=.cells [aj a.d.kind,bo a.d.table,.J (bM a.d.aD) a.gD,.J (ad a.d.row) a.dv]) (θ) M;have aE:=ξ z P (.cells [aj a.d.kind,bo a.d.table,.J (bM a.d.aD) a.gD,.J (ad a.d.row) a.dv]);generalize z.set P _=N at*;have u:=l.sub t;refine ah (q N u) ?_;rintro D O⟨S,b⟩;have V:=S _ _ aE;have n1:=κ V;have W:=u.sub S;have e:=π t S;have f:∀d T,eL d T->putAt fJ 0 T=T:=λd T C=>(p2 C).2.2.1;have n2:=ht.all.2.1;have n3:=f _ _ ht;have g:=kY;generalize fJ=n4 at*;unfold p6 at b;unfold p7;cases F:c.find? (λd=>decide (d.name=a.d.table))with
 |none=>
  rw[F]at b
  dsimp only at b
  obtain rfl:=b;refine aa ?_;refine aN λG h=>?_;rw[g];refine aa ?_;refine⟨_,θ,(3,c,k),rfl,rfl,W.sub (μ θ h),cB.of (π e (μ θ h))⟩
 |some d=>
  rw[F]at b;have hm:=Ab F
  dsimp only at b
  by_cases y:α a.d.row=α d.aD+1
  .rw[if_pos y]at b;obtain⟨T,o,rfl⟩:=b;obtain⟨Q,X,Y,_⟩:=o.all;have Z:=f _ _ o;have j9:=@dU a.d.row;have n5:=bN (q:=a.d.row);refine aa ?_;refine aN λG h=>?_;rw[g];have k0:P≠G:=by rintro rfl;rw[V]at h;cases h
   have n9:=k0.symm;obtain⟨k1,k2⟩:=o.k;obtain⟨k3,k4⟩:=o.z;have v:=I d hm;have a00:=v.c;have a01:=v.k.size;have w:=W.sub (μ (Y:=.cells T) θ h);have k5:=μ (Y:=.cells T) (θ) h _ _ V;have k6:=ξ O G (.cells T);have k7:=π e (μ (Y:=.cells T) (θ) h);have a02:cz 1 (.J (ad a.d.row) a.dv) (.v (.int .i64 0))=β (.bS [.v (.int .i64 (a.d.row.getD 0 0))]):=by have C:=j9 (b:=0) δ;have k8:(0:Int)<=0:=δ;rw[gp k8];show eo 1 (ad a.d.row)[0]?= _;rw[C];rfl
   dsimp only
   simp only[if_pos y];refine aa ?_;refine ah (a4x _ p r x k c w n a.d.table (a.d.row.getD 0 0)) ?_;rintro D k9⟨L,b⟩;unfold Af at b;rw[F]at b
   dsimp only at b
   have i:=w.sub L;have j:=π k7 L;have a03:=κ (L _ _ k5);have a04:=κ (L _ _ k6);rcases b with⟨a05,rfl⟩|⟨rows,A,B,⟨rfl,rfl⟩|⟨l0,l1,a06,rfl,rfl⟩⟩
   .refine aa ?_;exact⟨_,θ,(21,c,k),.inl rfl,rfl,i,cB.of j⟩
   .have l2:=H3 k9 p r x k c i m δ d T o (m d hm) a.d.row a.dv 105 106 _ _ Χ Χ (jG.a4q k1 k2 δ δ δ y) (jG.a4s k3 k4 δ δ y);refine aa ?_;refine ah l2 ?_;rintro D a07⟨rfl,l3,l4⟩;refine aa ?_;exact⟨_,θ,_,.inr ⟨[],A,B,.inl ⟨rfl,rfl⟩⟩,rfl,l3,(cB.of j).trans l4⟩
   .refine aa ?_;exact⟨_,θ,(8,c,k),.inr ⟨l0::l1,A,B,.inr ⟨ς,rfl⟩⟩,rfl,i,cB.of j⟩
  .rw[if_neg y]at b;obtain⟨T,o,rfl⟩:=b;obtain⟨Q,X,Y,_⟩:=o.all;have Z:=f _ _ o;refine aa ?_;refine aN λG h=>?_;rw[g]
   dsimp only
   simp only[if_neg y];refine aa ?_;refine⟨_,θ,(6,c,k),rfl,rfl,W.sub (μ θ h),cB.of (π e (μ θ h))⟩
def iC(c:af)(b:List aU)(a:dt)(d:Int×List aU×af):Prop:=
 if fb a=ι then d=(1,b,c)
 else if a.kind=1 then d=((jc (kk b ⟨a.table,a.aD,az,az⟩) b).1,(jc (kk b ⟨a.table,a.aD,az,az⟩) b).2,c)
 else if a.kind=2 then d=((jc (cK b a.table) b).1,(jc (cK b a.table) b).2,c)
 else if a.kind=3 then p7 c b a d
 else d=lb c b a
theorem a4C(b:U)(d h k:Nat)(r:af)(x:List aU)(Z:dI b d h k r x)(j:∀j9∈x,j9.Fit)(m:cJ x=η)(a:du)(l:a.d.Fit):
  AC γ 27 [.ptr d 0,a.V] b λg w=>∃res,iC r x a.d res/\g=.v (.int .i64 res.1)/\dI w d h k res.2.2 res.2.1/\cB d h k b w:=by
 have k2:=(p5 m).2;have n:=λb=>FF a l b;have A:=λb L=>a4l b d h k r x L j δ a l;have B:=λb L=>a4k b d h k r x L j δ a;have H:=λb L=>a4B b d h k r x L j m a l;have I:=λb L=>a4u b d h k r x L j m a l;have K:a.V=.agg [aj a.d.kind,bo a.d.table,.J (bM a.d.aD) a.gD,.J (ad a.d.row) a.dv]:=rfl;rw[K]at n A B H I|-;clear K;refine aK hm LO ?_;refine bs λq k0=>?_;have e:=μ (Y:=.cells [aj a.d.kind,bo a.d.table,.J (bM a.d.aD) a.gD,.J (ad a.d.row) a.dv]) (θ) k0;have aE:=ξ b q (.cells [aj a.d.kind,bo a.d.table,.J (bM a.d.aD) a.gD,.J (ad a.d.row) a.dv]);generalize b.set q _=f at*;have i:=Z.sub e;have k3:=κ aE;cases cr:fb a.d with
 |false=>refine bp (n f) ?_;exact⟨_,θ,(1,x,r),by unfold iC;rw[if_pos cr],rfl,i,cB.of e⟩
 |true=>
  refine bp (n f) ?_;rw[show ε 5 (R.v .nilFunc)=[.v .nilFunc,.v .nilFunc,.v .nilFunc,.v .nilFunc,.v .nilFunc]from rfl];have k4:∀z C D E F y:R,putAt [z,C,D,E,F] 1 [y]=[z,y,D,E,F]:=λ_ _ _ _ _ _=>rfl;have k5:∀z C D E F y:R,putAt [z,C,D,E,F] 2 [y]=[z,C,y,E,F]:=λ_ _ _ _ _ _=>rfl;have k6:∀z C D E F y:R,putAt [z,C,D,E,F] 3 [y]=[z,C,D,y,F]:=λ_ _ _ _ _ _=>rfl;have k7:∀z C D E F y:R,putAt [z,C,D,E,F] 4 [y]=[z,C,D,E,y]:=λ_ _ _ _ _ _=>rfl;have k8:∀z C D E F y M N O v:R,putAt [z,C,D,E,F] 0 [y,M,N,O,v]=[y,M,N,O,v]:=λ_ _ _ _ _ _ _ _ _ _=>rfl;have k9:∀Q X Y,(R.bG Q X Y).cells=[.bG Q X Y]:=λ_ _ _=>rfl;have P:a.d.kind.toNat=1\/a.d.kind.toNat=2\/a.d.kind.toNat=3\/a.d.kind.toNat=4:=by have L:=cr;simp only[fb,Υ]at L;grind
  refine aa ?_;refine aN λc G=>?_;have k1:q≠c:=by rintro rfl;rw[aE]at G;cases G
  have l0:=k1.symm;rcases P with P|P|P|P
  .have s:mo 1 5 (.ptr c 0) (aj a.d.kind)=β (.ptr c 1):=by have:=sl (e:=1) (i:=5) (v:=c) (M:=0) (e1:=.u8) (b1:=(a.d.kind.toNat)) δ δ;rw[a7L,show 0+a.d.kind.toNat*1=1 by omega]at this;exact this
   refine aa ?_;have t:a.d.kind=1:=a8j.1 P;generalize o:(f.set c _)=p;have S:dI p d h k r x:=by subst o;exact i.sub (μ θ G)
   have T:cB d h k b p:=by subst o;exact cB.of (π e (μ θ G))
   clear o;refine eR abH (A p S) ?_;rintro g u⟨V,W,rfl⟩;refine aa ?_;refine⟨_,θ,(_,_,r),?_,rfl,V,T.trans W⟩;unfold iC;grind
  .have s:mo 1 5 (.ptr c 0) (aj a.d.kind)=β (.ptr c 2):=by have:=sl (e:=1) (i:=5) (v:=c) (M:=0) (e1:=.u8) (b1:=(a.d.kind.toNat)) δ δ;rw[a7L,show 0+a.d.kind.toNat*1=2 by omega]at this;exact this
   refine aa ?_;have t:a.d.kind=2:=a8j.1 P;generalize o:(f.set c _)=p;have S:dI p d h k r x:=by subst o;exact i.sub (μ θ G)
   have T:cB d h k b p:=by subst o;exact cB.of (π e (μ θ G))
   clear o;refine eR abH (B p S) ?_;rintro g u⟨V,W,rfl⟩;refine aa ?_;refine⟨_,θ,(_,_,r),?_,rfl,V,T.trans W⟩;simp_all [iC]
  .have s:mo 1 5 (.ptr c 0) (aj a.d.kind)=β (.ptr c 3):=by have:=sl (e:=1) (i:=5) (v:=c) (M:=0) (e1:=.u8) (b1:=(a.d.kind.toNat)) δ δ;rw[a7L,show 0+a.d.kind.toNat*1=3 by omega]at this;exact this
   refine aa ?_;have t:a.d.kind=3:=a8j.1 P;generalize o:(f.set c _)=p;have S:dI p d h k r x:=by subst o;exact i.sub (μ θ G)
   have T:cB d h k b p:=by subst o;exact cB.of (π e (μ θ G))
   clear o;refine eR abH (H p S) ?_;rintro g u⟨res,l1,rfl,V,W⟩;refine aa ?_;refine⟨_,θ,res,?_,rfl,V,T.trans W⟩;simp_all [iC]
  .have s:mo 1 5 (.ptr c 0) (aj a.d.kind)=β (.ptr c 4):=by have:=sl (e:=1) (i:=5) (v:=c) (M:=0) (e1:=.u8) (b1:=(a.d.kind.toNat)) δ δ;rw[a7L,show 0+a.d.kind.toNat*1=4 by omega]at this;exact this
   refine aa ?_;have t:a.d.kind=4:=a8j.1 P;generalize o:(f.set c _)=p;have S:dI p d h k r x:=by subst o;exact i.sub (μ θ G)
   have T:cB d h k b p:=by subst o;exact cB.of (π e (μ θ G))
   clear o;refine eR abH (I p S) ?_;rintro g u⟨rfl,V,W⟩;refine aa ?_;refine⟨_,θ,lb r x a.d,?_,rfl,V,T.trans W⟩;simp_all [iC]
theorem p8:cJ e3=η↔(∀b∈e3,gd b=η)/\e3.Pairwise (λc d=>c8 c.name d.name=η)/\α e3<=8:=by
 constructor
 .intro a;have o:=A6 a;simp only[cJ,Υ,a7E,a8C,decide_eq_true_eq]at a;refine⟨λb h=>?_,?_,a.2⟩
  .obtain⟨p,r,rfl⟩:=a8a h;simp_all
  grind[List.pairwise_iff_getElem,List.getD]
 .rintro⟨x,k,y⟩;rw[a8M]at k;simp only[cJ,Υ,a7E,a8C,decide_eq_true_eq,a8Z];grind
theorem Hc{b:List aU}(c:cJ e3=η)(a:cK e3 w=.ok b):cJ b=true:=by
 unfold cK at a;rw[if_pos c]at a;split at a
 .obtain rfl:=Except.ok.inj a;obtain⟨d,h,k⟩:=p8.1 c;have o:(e3.take (db e3 w)++e3.drop (db e3 w+1)).Sublist e3:=by grind[db,List.Sublist.append_left,List.drop_drop,List.drop_sublist,List.take_append_drop]
  grind[p8,Nat.le_trans]
 .cases a
theorem Hd{c:List aU}(a:kl e3 e9=.ok c):cJ c=true:=by
 unfold kl at a;split at a
 .rename_i b;simp only[Υ]at b;obtain⟨b,p⟩:=b;split at a
  .rename_i d;obtain rfl:=Except.ok.inj a;simp only[gJ,Υ,decide_eq_true_eq]at d;obtain⟨h,r⟩:=d;obtain⟨x,k,o⟩:=p8.1 b;have y:(e3[db e3 e9.name]'h).name=e9.name:=by simp_all
   refine p8.2 ⟨λz C=>?_,?_,by rw[aad];exact o⟩;grind
   .rw[a8M]at k|-;grind
  .cases a
 .cases a
def He{c:aU->Bool}:∀ {d:List aU},∀b∈d.takeWhile c,c b=η
 |[],b,a=>by cases a
 |h::d,b,a=>by
  rw[a8I]at a;split at a
  .rcases a7J.1 a with rfl|a
   .assumption
   .exact He b a
  .cases a
theorem Hf{c:aU->Bool}:∀ {d:List aU}{b:aU}{h:List aU},d.dropWhile c=b::h->c b=ι
 |[],_,_,a=>by cases a
 |k::d,b,h,a=>by
  rw[a9R]at a;split at a
  .exact Hf a
  simp_all
theorem Hg{o:List aU}(b:kk e3 e9=.ok o):cJ o=true:=by
 unfold kk at b;split at b
 .rename_i d;simp only[Υ]at d;obtain⟨d,E⟩:=d;split at b
  .cases b
  rename_i F;split at b
  .cases b
  rename_i G;obtain rfl:=Except.ok.inj b;obtain⟨L,p,P⟩:=p8.1 d;have r:e3.take (db e3 e9.name)=e3.takeWhile λa=>c8 a.name e9.name:=by grind[List.takeWhile_append_dropWhile,c8,db,List.take_left]
  have x:e3.drop (db e3 e9.name)=e3.dropWhile λa=>c8 a.name e9.name:=by grind[List.takeWhile_append_dropWhile,c8,db,List.drop_left]
  have el:=a8h (p:=λa:aU=>c8 a.name e9.name) (l:=e3);have S:∀a∈e3.takeWhile (λa=>c8 a.name e9.name),c8 a.name e9.name=true:=λa c=>He a c;have y:∀a∈e3.dropWhile (λa=>c8 a.name e9.name),c8 e9.name a.name=true:=by
   intro a c;cases h:e3.dropWhile (λa=>c8 a.name e9.name)with
   |nil=>rw[h]at c;cases c
   |cons k T=>
    have V:=Hf h;have W:db e3 e9.name<α e3:=by grind
    have e:e3.getD (db e3 e9.name) default=k:=by grind
    have f:k.name≠e9.name:=λg=>by
     simp_all [gJ]
    have z:c8 e9.name k.name=true:=by grind[c8,absurd,Gd]
    rw[h]at c;rcases a7J.1 c with rfl|c
    .exact z
    grind[vO,List.pairwise_cons]
  rw[r,x];refine p8.2 ⟨λa c=>?_,?_,?_⟩;grind
  .rw[<-el]at p;obtain⟨C,D,i⟩:=a8v.1 p;refine a8v.2 ⟨C,a7X.2 ⟨y,D⟩,λj l m n=>?_⟩;grind
  grind
 .cases b
end Go.Proofs.YtcfpcblgmmeioaaGreat
namespace Go.bD
open Go
variable{n b5:R}{f s e0:U}{g H c0:ύ}{e i v M b9 j1:Nat}
theorem View.obj(p:f e=β (.cells (H++ .aq i M b9 1::c0)))(z:f i=β (.cells g))(C:M*1<=α g)(D:e≠i):
  View f n ((f.set i (.ro g)).set e (.cells (H++ .J (eB 1 M g) .any::c0))) n:=λt u v E F=>by
 obtain⟨G,a⟩:=Step.freeze E z;have L:(f.set i (.ro g)) e=β (.cells (H++ .aq i M b9 1::c0)):=by rw[ο _ _ D];exact p
 obtain⟨w,P,T,S,h,V⟩:=a.holds.cT e _ L;refine⟨G,⟨⟨a.holds.ro,λr W b=>?_⟩,a.le,a.os,a.tape,a.output,a.size,λ_ _ _=>rfl,λk A=>?_,a.mP,λk j l o=>?_⟩,F.mono a.le⟩
 .by_cases c:r=e
  .subst c;rw[ξ]at b;obtain rfl:=Δ b;refine⟨λB d=>?_,P,T,S,⟨by have:=h.1;simp_all,λx y m=>?_⟩,V⟩
   .simp only[a7z,a7J]at d;rcases d with d|rfl|d
    .simp_all
    .rfl
    .simp_all
   .by_cases q:x=α H
    .subst q;have s:y=.J (eB 1 M g) .any:=by simpa using m.symm
     subst s;exact aZ.frozen a.holds (ξ _ _ _) C (h.2 (α H) (.aq i M b9 1) ς)
    .refine h.2 x y ?_;grind
  .rw[ο _ _ c]at b;exact a.holds.cT r W b
 grind[ο]
 .have c:k≠e:=by rintro rfl;rw[p]at o;cases o
  rw[ο _ _ c];exact a.jL k j l o
def Aj(k o:U):Prop:=∀a b c d h,k a=β (.cells [.J b c,.J d h])->o a=β (.cells [.J b c,.J d h])
end Go.bD
namespace Go.Proofs.YtcfpcblgmmeioaaGreat
open Go Go.bD
def bA.w7{r x:U}(d:Aj r x):∀ {a:Nat}{b:a1.T a}{c:R},bA r a b c->bA x a b c
 |0,b,c,⟨h,y,k,eK,h1,o,p⟩=>⟨h,y,k,eK,h1,d _ _ _ _ _ o,p⟩
 |a+1,b,c,⟨h,z,k,eK,h1,o,p,C⟩=>⟨h,z,k,eK,h1,d _ _ _ _ _ o,p.mono λ_ _=>bA.w7 d,C⟩
variable{e i v M b9 j1:Nat}
theorem a4D(r:Ω)(S:Own)(C:a1.T 0)(T:R)(o:U)(q:bA o 0 C T)(V:GT e 0 C)(Y:e<=8):
  AC γ 116 [T,.J (ad r) S] o λy c=>o.sub c/\bA c 0 (a1.cK bC r 0 C) y:=by
 obtain⟨Z,j9,s,k0,rfl,W,G⟩:=q;obtain⟨d,rfl⟩:=a1.ir C;rw[a1.ri]at G;have f:=V.ok;have t:=V.dP;rw[a1.jt]at f t;have k1:=G.len;show AC _ _ _ _ λy c=>o.sub c/\bA c 0 (a1.leaf (d.filter λa=>decide (a≠r))) y;refine AC.view (t:=λy c=>∃a h k,y=.ptr a 0/\o a=ζ/\av (o.set a (.cells [h,.J [] .nil])) c 1 k h/\aB isRow (d.filter λa=>decide (a≠r)) k) ?_ ?_
 .have u:=κ W;refine aK hm Ci ?_;refine bs λa z=>?_;refine cc [0,1,5] (λb:Nat=>[(6,.v (.int .i64 (b)))]) (λb c=>b<=α d/\∃h k,av (o.set a (.cells [h,.J [] .nil])) c 1 k h/\aB isRow ((d.take b).filter λa=>decide (a≠r)) k) (λb=>α d - b) 0 ⟨⟨δ,_,[],av.nil θ,trivial⟩,aO⟩ ?_;rintro b v⟨k2,h,k,p,x⟩k3;have k4:=x.len;have w:=p.1 _ _ (ξ _ _ _);have u:=rd (π (μ θ z) p.1) W;have L:=κ w;refine aa ?_;refine aF (λA=>?_) λA=>?_
  .obtain⟨_,k5,g,rfl⟩:=G.at [] (e:=b) δ;have B:=eX (a:=d) (b:=[]) (e:=b) δ;have k6:=(f (d.getD b []) (by grind)).len;generalize d.getD b []=D at*;refine ns (tk D r g S v δ) ?_;refine aF (λc2=>?_) λc2=>?_
   .have H:=aas (λa=>decide (a≠r)) (d.take b);rw[a7q]at H;refine Z0 p (λ_ i k7 P=>?_);have k8:=χ (P.1 _ _ (ξ _ _ _));have k9:=fQ P;have j:=jW (Y:=.cells [i,.J [] .nil]) P (ξ o a (.cells [h,.J [] .nil]));rw[τ]at j;refine aa ?_;exact⟨b+1,⟨δ,i,_,j,by rw[B,aai,ab1 (by simpa using c2),ab5];exact x.snoc ⟨g,rfl⟩⟩,rfl,δ⟩
   grind
  .rw[Φ δ]at x;exact⟨_,θ,a,h,k,rfl,z,p,x⟩
 .rintro y c⟨a,h,k,rfl,z,p,x⟩;have L:=p.1 _ _ (ξ _ _ _);have l:=π (μ θ z) p.1;rcases p.2 with⟨rfl,I⟩|⟨m,K,l0,M,rfl,E,N,O,l1,l2,l3,l4⟩
  .refine⟨_,c,View.refl,l,?_⟩;rcases I with rfl|rfl<;>exact⟨a,[],_,.nil,rfl,L,x⟩
  .have Q:a≠m:=by rintro rfl;rw[ξ]at E;cases E
   refine⟨_,_,View.obj (H:=[]) L N (by rw[O];omega) Q,?_,a,_,.any,.nil,rfl,ξ _ _ _,?_⟩
   .intro D s F;have n:D≠a:=by rintro rfl;rw[z]at F;cases F
    have X:D≠m:=by rintro rfl;rw[ο _ _ n,F]at E;cases E
    rw[ο _ _ n,ο _ _ X];exact l _ _ F
   .rw[mr,show M.take K=k by simp_all];exact x
def ql{d:U}{b:Nat}:∀ {h:List (a1.T b)}{a:ύ},aB (bA d b) h a->flat a=a
 |[],[],_=>rfl
 |_:: _,k::a,c=>by
  obtain⟨o,p,r,rfl,_⟩:=bA.ptr c.1;have:=ql c.2;simp only[flat,a7P]at this|-;rw[this];rfl
variable{n b5:R}{f s e0:U}
def bA.shape{p:a1.T e}(r:bA f e p n):∃a k b d c,n=.ptr a 0/\f a=β (.cells [.J k b,.J d c])/\α k+α d=a1.len p/\(e=0->d=[])/\(e≠0->k=[]/\d≠[]):=by
 cases e with
 |zero=>obtain⟨a,x,b,c,rfl,o,h⟩:=r;exact⟨a,x,b,[],c,rfl,o,by rw[h.len];rfl,λ_=>rfl,λe=>absurd rfl e⟩
 |succ e=>obtain⟨a,y,b,c,rfl,o,h,z,_⟩:=r;refine⟨a,[],c,y,b,rfl,o,by rw[h.len];simp[a1.len],λe=>(by cases e),λ_=>⟨rfl,?_⟩⟩;rintro rfl;exact z (aB.yx h)
variable{g H c0:ύ}
theorem a4E{a:List (a1.T i)}(k:aB (bA f i) a g)(p:g≠[])(o:H.take e=g):∀b c d h,H≠[.J b c,.J d h]:=by
 rintro b c d h rfl;cases g with
 |nil=>trivial
 |cons r g=>
  cases a with
  |nil=>trivial
  |cons x a=>
   obtain⟨y,_,_,rfl,_⟩:=bA.ptr k.1;cases e with
   |zero=>cases o
   |succ e=>grind
theorem av.Hh(b:av f s 1 g n):∃a,View s n a (.J g .any)/\f.sub a:=by grind[View.dK,mr,Ε]
theorem bA.rows{a:U}{b:a1.T 0}{c:Nat}{d h:ύ}{k o:Own}(p:bA a 0 b (.ptr c 0))(r:a c=β (.cells [.J d k,.J h o])):aB isRow (a1.rows b) d:=by obtain⟨_,_,_,_,x,y,z⟩:=p;simp_all
theorem bA.kids{b:U}{a:Nat}{c:a1.T (a+1)}{d:Nat}{k h:ύ}{o p:Own}(r:bA b (a+1) c (.ptr d 0))(x:b d=β (.cells [.J k o,.J h p])):aB (bA b a) (a1.kids c) h:=by obtain⟨_,_,_,_,y,z,a,_⟩:=r;simp_all
variable{N e6 h6:Own}
def rL(a:aY 1 g)(b:flat g=g):bW f 1 (.J g N)=β (α g,g):=by have:=(ka.J (o:=N) a).src f θ;rwa[b]at this
def w8(k:av s f 1 g (.aq e v M 1))(a:g[i]?=β n):cz 1 (.aq e v M 1) (.v (.int .i64 (i:Int)))=β (.ptr e i)/\∃b,f.read e=β b/\qQ ι 1 i (β b)=β n:=by have y:=(a7u.1 a).1;obtain⟨z,C,D,b,c,E,o,p,d,r,F,G⟩:=k.aq (by rintro rfl;simp at a);simp only[R.aq.injEq,and_true]at c;obtain⟨rfl,rfl,rfl⟩:=c;rw[a8g]at p d r;have h:=jQ (e:=1) (i:=e) (v:=v) (M:=M) (e1:=.i64) (b1:=(i)) δ δ;rw[a7L,a8g]at h;refine⟨h,b,κ o,?_⟩;rw[<-d,a8s δ]at a;obtain⟨x,rfl⟩:=a7u.1 a;rw[Cs δ,a7M x];rfl
theorem a4F{a:List (a1.T i)}{b:a1.T i}(p:e<α a)(k:2<=α a)(o:¬2<=a1.len b):
  ∃d h,(a.set e b)[e - 1]?=β d/\(a.set e b)[e - 1+1]?=β h/\a1.lF a e b=(a.set e b).take (e - 1)++a1.kK d h++(a.set e b).drop (e - 1+2):=by
 rw[a1.lF,if_neg o];by_cases c:e=0
 .subst c;refine⟨b,a[1],abb δ,ς,?_⟩;rw[if_pos rfl,Ρ k,abv δ];rfl
 .refine⟨a[e - 1],b,by grind,by grind,?_⟩;rw[if_neg c,Ρ δ,abv δ,List.take_set_of_le δ];simp[c]
set_option maxHeartbeats 1000000 in
theorem a4G(k7:1<=e)(Q:e<=8)(r:Ω)(k8:Own)(X:bQ e r):∀(a:Nat)(G:a1.T a)(C:R)(p:U),bA p a G C->GT e a G->
  AC γ 116 [C,.J (ad r) k8] p λA c=>p.sub c/\bA c a (a1.cK bC r a G) A:=by
 have b45:=X.len;intro a
 induction a with
 |zero=>intro G C p u l;exact a4D r k8 G C p u l Q
 |succ a ih=>
 intro G C p u l;obtain⟨h,rfl⟩:=a1.gA G;have m:=l.kids k7 Q X;have k9:=Fo h C r k8 p u δ λb L=>by
  obtain⟨v,_,b46,a88⟩:=m.gC b L;have:=v.dP;have:=a88.len;grind
 obtain⟨b47,l0,b48,b49,rfl,Y,k,_,_⟩:=u;rw[a1.fs]at k;have b50:=k.len;obtain⟨a89,b51⟩:=m.two;obtain⟨b,L⟩:=m.at_;have Z:a1.cK bC r (a+1) (a1.node h)=a1.node (a1.lF h (a1.cS bC r (h.map (a1.cP a))) (a1.cK bC r a b)):=by simp only[a1.cK,a1.fs];rw[L]
 obtain⟨_,_,a90,a92⟩:=a1.q2 (gi k7 Q) X (a+1) (a1.node h) l.wf l.ec l.ok;rw[Z,a1.dN,a1.dN]at a90;rw[Z,a1.dN]at a92;rw[Z];rw[m.Fp]at k9;clear Z;generalize a1.cS bC r (h.map (a1.cP a))=o at*;have a16:=(a7u.1 L).1;obtain⟨v,a94,_,_⟩:=m.gC b (a7r L);obtain⟨_,_,a95,a96⟩:=a1.q2 (gi k7 Q) X a b v.wf v.ec v.ok;have a18:=λC p u=>ih b C p u v;have a97:=λb L=>(a1.hi.1 (m.gC b L).2.1).2.1;have a98:=(a1.hi.1 a94).1;have l1:=a4F (b:=a1.cK bC r a b) a16 a89;have l2:2<=a1.len (a1.cK bC r a b)->a1.lF h o (a1.cK bC r a b)=h.set o (a1.cK bC r a b):=λa=>by rw[a1.lF,if_pos a]
 clear m l;generalize a1.lF h o (a1.cK bC r a b)=l3 at*;generalize a1.cK bC r a b=B at*;refine AC.view (t:=λA c=>∃d x z D P,A=.ptr d 0/\p d=ζ/\p x=ζ/\d≠x/\c d=β (.cells [.J [] .nil,.aq x z D 1])/\(∃E,c x=β (.cells E)/\z<=α E/\E.take z=P)/\aB (bA c a) l3 P/\p.sub c) ?_ ?_;rotate_left
 .rintro A c⟨d,x,z,D,P,rfl,F,a99,b00,j9,⟨E,f,b52,b01⟩,b02,b03⟩;have b53:P≠[]:=by rintro rfl;grind[aB.yx]
  refine⟨_,_,View.obj (H:=[.J [] .nil]) j9 f δ b00,?_,d,_,.any,.nil,rfl,ξ _ _ _,?_,?_,by rw[a1.fs];omega⟩
  .intro n a19 H;have b04:n≠d:=by rintro rfl;rw[F]at H;cases H
   have a27:n≠x:=by rintro rfl;rw[a99]at H;cases H
   rw[ο _ _ b04,ο _ _ a27];exact b03 _ _ H
  .rw[a1.fs,mr,b01];refine b02.mono λ_ _=>bA.w7 λI b05 b06 b07 a19 K=>?_;have k0:I≠d:=by rintro rfl;rw[j9]at K;simp at K
   have l4:I≠x:=by rintro rfl;grind[a4E,bu.cells.inj,Option.some.inj]
   rw[ο _ _ k0,ο _ _ l4];exact K
  grind[a1.fs]
 have b08:=κ Y;have b54:¬(α h:Int)=0:=δ;have l5:=bA.c k;refine aK hm Ci ?_;refine cl k9 ?_;rintro _ a29⟨M,rfl⟩;have b09:=rd M Y;have l6:=k.mono λ_ _=>bA.mono M;refine uK (rL l5 (ql k)) λb55 b10 N=>?_;obtain⟨g,z,D,b56,rfl,a27,a30,b11,b12,b13,b57,b58⟩:=av.aq N (by grind);obtain rfl:z=α h:=δ;have a34:=N.1;have b14:=rd (π M a34) Y;obtain⟨_,a36,l7⟩:=l6.get L;obtain⟨b15,_,_,rfl,_⟩:=l7.ptr;refine cl (a18 _ b10 (bA.mono a34 l7)) ?_;rintro A l8⟨l9,n0⟩;obtain⟨i,_,_,rfl,_⟩:=n0.ptr;obtain⟨n1,a38,a42,-,y⟩:=av.put (a:=.ptr i 0) (by rw[ql l6];exact N.mono l9) δ l5 a36 rfl;have b16:=(w8 (N.mono l9) a36).1;have b17:=χ a38;rw[a8g]at y a42;have aE:n1.take (α h)=l0:=by have I:=l9 _ _ a30;simp_all
 obtain⟨S,n2⟩:∃S,l8.set g (.cells (putAt n1 o [.ptr i 0]))=S:=⟨_,rfl⟩;have a43:Aj l8 S:=λI b05 b06 b07 a19 K=>by
  have l4:I≠g:=by grind
  rw[<-n2,ο _ _ l4];exact K
 change av a29 (l8.set g (.cells (putAt n1 o [.ptr i 0]))) 1 _ _ at y;rw[n2]at y;have T:=aB.set o (l6.mono λ_ _ j9=>bA.mono y.1 j9) (bA.w7 a43 n0);rw[ql T]at y;have b18:=T.len;rw[aad,aad]at b18;have a47:(l0.set o (.ptr i 0))[o]?=β (.ptr i 0):=abb δ;have a48:(h.set o B)[o]?=β B:=by simp[a16]
 clear aE a43 n0 k l5 b08 b09 b14 a30 b11 b12 b13 N;generalize b59:h.set o B=a52 at*;generalize l0.set o (.ptr i 0)=a56 at*;have b60:α a52=α h:=by grind
 have a57:=π M y.1;have n3:∀b∈a52,a1.len b<=4:=λb L=>by
  grind
 obtain⟨b61,b19,b20⟩:=(w8 y a47).2;obtain⟨b21,a61,b22,a62,n4,a63,a65,b23,_,_⟩:=(T.get a48|>.elim λC a=>by simp_all:bA S a B (.ptr i 0)).shape;obtain rfl:i=b21:=by simpa using a63
 clear a63 a18 ih k9;have b24:=κ a65;have a68:∀(n5 c)(P)(q)(d),p.sub n5->av n5 c 1 P q->aB (bA c a) l3 P->c d=ζ->
   ∃k1 x z D a69,R.ptr d 0=.ptr k1 0/\p k1=ζ/\p x=ζ/\k1≠x/\(c.set d (.cells [.J [] .nil,q])) k1=β (.cells [.J [] .nil,.aq x z D 1])/\(∃E,(c.set d (.cells [.J [] .nil,q])) x=β (.cells E)/\z<=α E/\E.take z=a69)/\aB (bA (c.set d (.cells [.J [] .nil,q])) a) l3 a69/\p.sub (c.set d (.cells [.J [] .nil,q])):=λn5 c P q d n9 a00 k F=>by
  have a01:=μ (Y:=.cells [.J [] .nil,q]) θ F;obtain⟨x,z,D,E,rfl,a02,a71,b62,b63,b64,b65,_⟩:=a00.aq (λs=>by grind[aB.yx]);exact⟨d,x,z,D,P,rfl,Ο (π n9 a00.1) F,Ο n9 a02,(λs=>by rw[s,a71]at F;cases F),ξ _ _ _,⟨E,a01 _ _ a71,δ,by simp_all⟩,k.mono λ_ _ a=>bA.mono a01 a,π n9 (π a00.1 a01)⟩
 by_cases c2:2<=a1.len B
 .have aE:(1)<(α a61)+(α a62:Int):=δ;obtain rfl:=l2 c2;clear l2 l1;have b25:=fQ y;refine aa ?_;refine bs λd F=>?_;exact⟨_,θ,a68 a29 S a56 _ d M y T F⟩
 obtain⟨a73,a74,a03,k2,rfl⟩:=l1 c2;have aE:¬(1)<(α a61)+(α a62:Int):=δ;clear l2 c2 l1;refine aa ?_;clear aE a65 b23 b24 b20 b19 a47 a48 b16 b17 a38 a42;refine oy [0,7,8] (λ_:Unit=>[(9,.v (.int .i64 ((o - 1:Nat))))]) (λ_ c=>c=S) (λb=>?_) (λb=>?_) ?_
 .have b:=of_decide_eq_true b;have s:((o - 1:Nat):Int)=0:=δ;exact aO
 .have b:=of_decide_eq_false b;have s:(o) - 1=((o - 1:Nat):Int):=δ;exact aO
 clear n2;rintro _ S rfl b26;generalize o - 1=j at*;have b66:=(a7u.1 k2).1;have b67:=n3 _ (a7r a03);have b68:=n3 _ (a7r k2);obtain⟨_,b27,a04⟩:=T.get a03;obtain⟨_,b28,a05⟩:=T.get k2;obtain⟨b69,b70,b71,b72,b73,rfl,w,b74,_,_⟩:=a04.shape;obtain⟨x,b75,b76,cj,b77,rfl,f,b78,_,_⟩:=a05.shape;obtain⟨b29,b79,b80,b81,b82,s,b30,_,b31,b32⟩:=(bA.mono y.1 l7).shape;obtain rfl:b15=b29:=by simpa using s
 obtain⟨b83,b84,b33,b85⟩:=w8 y b27;obtain⟨a81,b86,a06,b87⟩:=w8 y b28;have a81:cz 1 (.aq g (α h) D 1) (.v (.int .i64 ((j)+1)))=β (.ptr g (j+1)):=a81;have b88:=κ b30;have b89:=rd a57 Y;rw[b33]at a06;obtain rfl:=Δ a06;clear s a06 n3 a95 a96 a97 a98 a03 k2;refine aa ?_;refine oy [8,9] (λn:ύ×Own=>[(12,.J n.1 n.2)]) (λn c=>S.sub c/\aB (bA c a) (a1.kK a73 a74) n.1) (λcO=>?_) (λcO=>?_) ?_
 .have cO:=of_decide_eq_true cO;cases a with
  |succ a=>exact absurd (a7t δ) (b32 δ).2
  |zero=>have k:=a04.rows w;have V:=a05.rows f;have b34:=k.len;have b35:=V.len;have a07:=κ w;have a08:=κ f;refine uK (rL (iW k) (nH k)) λa5 b36 t=>?_;have a07:=rd t.1 w;have a08:=rd t.1 f;refine r2 t (rL (iW V) (nH V)) λdy b37 a09=>?_;obtain⟨a10,a11,k3⟩:=av.Hh a09;refine cl (AC.nI (g:=[]) a11 (Fh _ _ .any a10 (k.append V) (by rw[Ψ];omega))) ?_;rintro _ a13⟨a14,k4,k5,rfl,W⟩;refine aa ?_;exact⟨(k4,k5),⟨π k3 a14,W⟩,rfl⟩
 .have cO:=of_decide_eq_false cO;cases a with
  |zero=>exact absurd (by rw[b31 rfl];rfl) cO
  |succ a=>have k:=a04.kids w;have V:=a05.kids f;have b34:=k.len;have b35:=V.len;have a07:=κ w;have a08:=κ f;refine uK (rL (bA.c k) (ql k)) λa5 b36 t=>?_;have a07:=rd t.1 w;have a08:=rd t.1 f;refine r2 t (rL (bA.c V) (ql V)) λdy b37 a09=>?_;obtain⟨a10,a11,k3⟩:=av.Hh a09;refine cl (AC.nI (g:=[]) a11 (yH S _ _ .any a10 (k.append V) (by rw[Ψ];omega) k3)) ?_;rintro _ a13⟨a14,k4,k5,rfl,W⟩;refine aa ?_;exact⟨(k4,k5),⟨π k3 a14,W⟩,rfl⟩
 rintro⟨k4,k5⟩ a13 ⟨a15,W⟩ b26
 dsimp only at W|-
 have b90:=W.len;have b91:(a1.kK a73 a74).length<=4:=by grind
 have a83:=y.mono a15;have b38:=T.len;have b22:=ib (e:=1) (M:=g) (b9:=α h) (i:=D) (v:=j) (e1:=.i64) δ;obtain⟨b92,b93,b39,_⟩:=(a83.first (i:=j) δ).src;obtain⟨_,_,_,b94,k0,_,b40,b95,b41,_,_,_⟩:=a83.aq (by rintro rfl;simp at b38;omega);simp only[R.aq.injEq,and_true]at k0;obtain⟨rfl,rfl,rfl⟩:=k0;refine uK b39 (λb96 b97 b42=>?_) (x:=by rw[a7q];omega);refine r2 b42 (rL (bA.c W) (ql W)) (λb98 b43 a84=>?_) (y:=by rw[a7q];omega);obtain⟨a02,n4,_,k6⟩:=oO (i:=1) (j1:=g) (M:=α h) (e:=j+2) (e1:=.i64) δ δ;have k6:=k6 b43 _ a56 (a84.1 _ _ b40) δ b41;rw[a8g]at k6;have n4:cn 1 (.aq g (α h) D 1) (β (.v (.int .i64 ((j)+2)))) ζ ζ=β a02:=n4;refine r2 a84 k6 (λb99 b44 O=>?_) (x:=by rw[a7F];omega) (y:=by grind);have b25:=fQ O;have a86:=λ{G:a1.T a}{C:R}=>bA.mono (t:=G) (a:=C) (π a15 O.1);refine aa ?_;refine bs λd F=>?_;rw[a8g]at O;exact⟨_,θ,a68 a13 b44 _ _ d (π a57 a15) O ((((T.take j).mono λ_ _ a=>a86 a).append (W.mono λ_ _ a=>bA.mono O.1 a)).append ((T.drop (j+2)).mono λ_ _ a=>a86 a)) F⟩
variable{O:List Ω}
def Ak:(dH 0 (a1.leaf O)).rows.map Γ=O:=by rw[a1p];show(O.map λa=>(a,η)).map Γ=O;rw[a9s];exact List.map_id' O
def Hi:(dH 0 (a1.leaf O)).kind=2:=rfl
def Al{a:a1.T (e+1)}:¬(dH (e+1) a).kind=2:=by show¬(3)=2;decide
def Hj(c:1<=i)(d:i<=8){a:List (a1.T e)}(h:ds i (e+1) (a1.node a))(b:Ω):hN b (dH (e+1) (a1.node a))=a1.cS bC b (a.map (a1.cP e)):=by unfold hN;rw[yN];congr 1;show(a.map (bL e)).map (·.key)= _;rw[a9s];exact a8W λk o=>a1s c d (h.gC k o).1
def Hk{a:List (a1.T e)}:(dH (e+1) (a1.node a)).kids[i]?=a[i]?.map (bL e):=by rw[yN];show(a.map (bL e))[i]?= _;simp
variable{q b7:Ω}
theorem Hl(r:1<=i)(x:i<=8){a:List (a1.T e)}(c:GT i (e+1) (a1.node a))(y:bQ i q){b:a1.T e}(d:a[a1.cS bC q (a.map (a1.cP e))]?=β b):q∈a1.bc (e+1) (a1.node a)↔q∈a1.bc e b:=by obtain⟨h,D,z,E⟩:=c.wf;rw[a1.dN]at h;have F:∀b∈a,a1.WF e b:=z;have k:=c.ec;have o:=c.ok;rw[a1.fU]at k o|-;obtain⟨G,p,L,P⟩:=a1.vs (gi r x) y (by intro C;subst C;simp at h) (λb d=>by grind[a1.hi]) k o;rw[d]at p;obtain rfl:=Δ p;have S:=a1.rl d;grind[a1.cS,bC,a1.cP,q1]
theorem Hm{D:Nat}(p:1<=D)(r:D<=8){c:Ω}(z:bQ D c):∀(a:Nat)(y:a1.T a)(C:af)(F:Nat),GT D a y->fc C a y->a<F->c∉a1.bc a y->Laid C a (a1.eY bC c a y) (gB D c F C (bL a y))
 |0,y,C,F+1,h,G,_,f=>by
  obtain⟨L,rfl⟩:=a1.ir y;obtain⟨s,t,_⟩:=h.wf;rw[a1.hM]at s t;have S:=h.ok;have g:(dH 0 (a1.leaf L)).rows.map Γ=L:=Ak;rw[gB,rH p r h.fX G];simp only;rw[if_pos Hi,g,zE (O:=L) p r h.ec S z,decide_eq_false (p:=c∈L) f,if_neg Θ,a3r (O:=L) p r h.ec S z];exact Gl p r C (a1.dX bC L c) (by rw[a1.oL];omega) (by rw[a1.oL];omega) λE k=>by
   rcases a1.td.1 k with rfl|k
   .exact z
   .exact S E k
 |a+1,y,C,F+1,h,G,H,f=>by
  obtain⟨b,rfl⟩:=a1.gA y;have i:=h.kids p r z;obtain⟨d,P⟩:=i.at_;have j:=a7r P;have l:c∉a1.bc a d:=λx=>f ((Hl p r h z P).2 x);obtain⟨I,K⟩:=i.two;have T:=(i.gC d j).1;obtain⟨u,M,N,O⟩:=a1.rm (gi p r) z a d T.wf T.ec T.ok l;have ih:=Hm p r z a d C F T (G.2 d j) δ l;rw[gB,rH p r h.fX G];simp only;rw[if_neg Al,Hj p r h.fX,Hk,P];simp only[a8u];have m:a1.eY bC c (a+1) (a1.node b)=(a1.chunks (b.take (a1.cS bC c (b.map (a1.cP a)))++a1.eY bC c a d++b.drop (a1.cS bC c (b.map (a1.cP a))+1))).map a1.node:=by simp only[a1.eY,a1.fs];rw[P]
  rw[m];clear m;have Q:=(a7u.1 P).1;have X:=a1.rl P;generalize a1.cS bC c (b.map (a1.cP a))=o at*;generalize gB D c F C (bL a d)=E at*;obtain⟨Y,v⟩:=E;obtain⟨n,V,q⟩:=ih;simp only at n V q;subst n;simp only;have g:(dH (a+1) (a1.node b)).kids.take o++((a1.eY bC c a d).map (bL a)++(dH (a+1) (a1.node b)).kids.drop (o+1))=(b.take o++a1.eY bC c a d++b.drop (o+1)).map (bL a):=by rw[yN];show(b.map (bL a)).take o++(_++(b.map (bL a)).drop (o+1))= _;simp
  rw[g];have w:∀E∈(b.take o++a1.eY bC c a d++b.drop (o+1)).flatMap (a1.bc a),bQ D E:=λE k=>by
   rw[a8f,a8f,u,a7z,a7z]at k;have S:=h.ok;rw[a1.fU]at S;rcases k with (k|k)|k;grind
   .rcases a1.td.1 k with rfl|k
    .exact z
    .exact T.ok E k
   grind
  have A:((b.take o++a1.eY bC c a d++b.drop (o+1)).flatMap (a1.bc a)).length=(a1.bc (a+1) (a1.node b)).length+1:=by grind[a1.fU,Β,a1.oL]
  have Z:=h.dP;have j9:∀d∈b,a1.WF a d:=h.wf.2.2.1;have:=zB p r v (b.take o++a1.eY bC c a d++b.drop (o+1)) (by grind) (by grind) (λW x=>by
   grind) w (by rw[A];omega) (λk0 e B W x=>by
   simp only[a7z]at x;rcases x with (x|x)|x
   .exact(G.2 W (a7A x)).mono (V.trans e)
   .exact(q (e.zero B) W x).mono e
   .exact(G.2 W (a7U x)).mono (V.trans e))
  exact⟨this.ok,V.trans this.le,this.ins⟩
def dY:dG->ao
 |none=>az
 |some ⟨a,b⟩=>bL a b
def iD(a:af):dG->Prop
 |none=>True
 |some ⟨b,c⟩=>fc a b c
def iD.mono{a b:af}(c:a.le b){t:dG}(d:iD a t):iD b t:=by
 match t with
 |none=>trivial
 |some ⟨_,_⟩=>exact fc.mono c d
structure qm(a:af)(t:dG)(r:Except Int ao×af):Prop where
 ok:r.1=.ok (dY t)
 le:a.le r.2
 ins:r.2.one=ι->iD r.2 t
variable{B:af}
def a4H(F:1<=i)(G:i<=8){r:af}{a:List (a1.T e)}(L:1<=α a)(P:α a<=2)(k:Laid r e a (.ok (a.map (bL e)),B))(S:∀b∈a,a1.WF e b)(T:∀o∈a.flatMap (a1.bc e),bQ i o)(V:(a.flatMap (a1.bc e)).length<=1048576):
  qm r (q3 a) (hn i ((a.map (bL e)).length+1) B (a.map (bL e))):=by
 match a,L,P with
 |[b],_,_=>
  have p:hn i (([b].map (bL e)).length+1) B ([b].map (bL e))=(.ok (bL e b),B):=by rw[hn];rfl
  rw[p];exact⟨rfl,k.le,λc=>k.ins c b ς⟩
 |[d,h],_,_=>
  have x:=zB F G B [d,h] ς ς S T V (λg y c W f=>(k.ins (y.zero c) W f).mono y);rw[a1.oK ς ς]at x;rw[hn,if_pos ς];generalize jZ B i ([d,h].map (bL e))=o at*;obtain⟨j,z⟩:=o;obtain⟨C,D,E⟩:=x;simp only at C D E;subst C;simp only;have p:hn i (([d,h].map (bL e)).length) z (([[d,h]].map a1.node).map (bL (e+1)))=(.ok (bL (e+1) (a1.node [d,h])),z):=by rfl
  rw[p];exact⟨rfl,k.le.trans D,λc=>E c _ ς⟩
variable{b8:dG}
def a4I(c:1<=e)(d:e<=8)(h:bQ e q)(D:hq e b8)(E:iD B b8)(F:q∉eh b8):qm B (kQ b8 q) (lG e q B (dY b8)):=by
 match b8 with
 |none=>have G:=vt c d (O:=[q]) ς ς (by simpa using h);unfold lG;show qm B _ (if az=az then _ else _);rw[if_pos rfl,qf G.oQ];exact⟨rfl,lQ _ _,λL=>rG L⟩
 |some ⟨a,b8⟩=>
  have b:GT e a b8:=D;have o:q∉a1.bc a b8:=F;have y:=kS c d b.fX;have g:=ds.high a b8 b.fX;have i:=y.size;have j:=b.dP;have P:=Hm c d h a b8 B ((bL a b8).size.toNat+1) b E δ o;obtain⟨z,S,T,V⟩:=a1.rm (gi c d) h a b8 b.wf b.ec b.ok o;have p:kQ (β ⟨a,b8⟩) q=q3 (a1.eY bC q a b8):=by simp only[kQ];rw[if_neg o]
  rw[p];unfold lG;show qm B _ (if bL a b8=az then _ else(match gB e q ((bL a b8).size.toNat+1) B (bL a b8)with|(.error p,r)=>(.error p,r)|(.ok bF,r)=>hn e (α bF+1) r bF));rw[if_neg y.ne];generalize gB e q ((bL a b8).size.toNat+1) B (bL a b8)=x at*;obtain⟨l,m⟩:=x;obtain⟨C,W,f⟩:=P;simp only at C;subst C;simp only;refine a4H c d T V ⟨rfl,W,f⟩ S (λx k=>?_) (by rw[z,a1.oL];omega);rw[z]at k;rcases a1.td.1 k with rfl|k
  .exact h
  .exact b.ok x k
theorem a4J(y:1<=e)(z:e<=8)(d:bQ e q)(P:hq e b8)(S:(eh b8).length<1000):hq e (kQ b8 q)/\(eh (kQ b8 q)).length<=(eh b8).length+1:=by
 match b8 with
 |none=>
  refine⟨⟨⟨?_,?_,trivial,λa=>by omega⟩,?_,?_,?_⟩,?_⟩
  .simp[a1.hM]
  .simp[a1.hM]
  .rw[a1.jt];simp
  .rw[a1.jt];simpa using d
  .rw[a1.jt];simp
  .show(a1.bc 0 (a1.leaf [q])).length<= _;rw[a1.jt];simp
 |some ⟨a,b8⟩=>
  have c:GT e a b8:=P;have W:(a1.bc a b8).length<1000:=S;simp only[kQ];by_cases k:q∈a1.bc a b8;simp_all;rw[if_neg k];obtain⟨o,h,T,V⟩:=a1.rm (gi y z) d a b8 c.wf c.ec c.ok k;have C:=a1.a0r (gi y z) c.ec c.ok d k;have D:∀p∈a1.dX bC (a1.bc a b8) q,bQ e p:=λp r=>by
   rcases a1.td.1 r with rfl|r
   .exact d
   .exact c.ok p r
  have f:=a1.oL (lt:=bC) (j0:=a1.bc a b8) (h4:=q);generalize a1.dX bC (a1.bc a b8) q=E at*
  match F:a1.eY bC q a b8,T,V with
  |[x],_,_=>
   rw[F]at o h;have b:a1.bc a x=E:=by rw[<-o];simp
   refine⟨⟨a1.jX.of (h x ς),by rw[b];exact C,by rw[b];exact D,by rw[b];omega⟩,?_⟩;show(a1.bc a x).length<=(a1.bc a b8).length+1;rw[b];omega
  |[G,L],_,_=>
   rw[F]at o h;have b:a1.bc (a+1) (a1.node [G,L])=E:=by trivial
   refine⟨⟨⟨by rw[a1.dN];simp,by rw[a1.dN];simp,h,λ_=>by rw[a1.dN];simp⟩,by rw[b];exact C,by rw[b];exact D,by rw[b];omega⟩,?_⟩;show(a1.bc (a+1) (a1.node [G,L])).length<=(a1.bc a b8).length+1;rw[b];omega
def fv:(a:Nat)->a1.T a->iu
 |0,b=>⟨η,a1.rows b,[]⟩
 |a+1,b=>⟨ι,[],(a1.kids b).map (bL a)⟩
def p9(b:af):(a:Nat)->a1.T a->Prop
 |0,_=>True
 |a+1,c=>∀d∈a1.kids c,fc b a d
def p9.mono{b c:af}(h:b.le c):∀ {a:Nat}{d:a1.T a},p9 b a d->p9 c a d
 |0,_,_=>trivial
 |_+1,_,a=>λk o=>fc.mono h (a k o)
def fc.p:∀ {a:Nat}{b:a1.T a},fc B a b->p9 B a b
 |0,_,_=>trivial
 |_+1,_,a=>a.2
def a4K:∀ {b:Nat}{a:a1.T b},(fv b a).rows.length+(fv b a).kids.length=a1.len a
 |0,a=>rfl
 |b+1,a=>by show 0+((a1.kids a).map (bL b)).length= _;rw[a7w,a7Q];rfl
def Hn:∀ {b:Nat}{a:a1.T b},ho (dH b a)=fv b a
 |0,a=>by
  obtain⟨c,rfl⟩:=a1.ir a;unfold ho;rw[Ak];rfl
 |b+1,a=>rfl
def Am:∀ {a:Nat}{b:a1.T a},mC B e (fv a b).leaf (fv a b).rows (fv a b).kids=dF B e (dH a b)
 |0,b=>rfl
 |a+1,b=>rfl
theorem Ho(C:1<=e)(D:e<=8)(k:af):∀ {c:Nat} (a b:a1.T c),a1.lE c a->a1.lE c b->2<=a1.len a+a1.len b->a1.len a+a1.len b<=5->(∀d∈a1.bc c a,bQ e d)->(∀d∈a1.bc c b,bQ e d)->
  (a1.bc c a).length+(a1.bc c b).length<=1048576->(∀h,k.le h->h.one=ι->p9 h c a/\p9 h c b)->Laid k c (a1.kK a b) (kM k e (fv c a) (fv c b))
 |0,a,b,_,_,p,r,x,y,_,_=>by
  obtain⟨a,rfl⟩:=a1.ir a;obtain⟨b,rfl⟩:=a1.ir b;rw[a1.hM,a1.hM]at p r;exact Gl C D k (a++b) (by rw[Ψ];omega) (by rw[Ψ];omega) λd E=>(a7z.1 E).elim (x d) (y d)
 |c+1,a,b,bZ,cr,p,r,x,y,F,G=>by
  obtain⟨a,rfl⟩:=a1.gA a;obtain⟨b,rfl⟩:=a1.gA b;rw[a1.dN,a1.dN]at p r;rw[a1.fU]at x y F;rw[a1.fU]at F;have:=zB C D k (a++b) (by rw[Ψ];omega) (by rw[Ψ];omega) (λo z=>(a7z.1 z).elim (bZ o) (cr o)) (λd E=>by
   grind) (by simp_all) (λh L P o z=>(a7z.1 z).elim ((G h L P).1 o) ((G h L P).2 o))
  rw[a8l]at this;exact this
theorem a4L(C:1<=i)(D:i<=8)(o:af){d:List (a1.T e)}{c:a1.T e}(m:v<α d)(B:2<=α d)(z:∀b∈d,ds i e b/\a1.WF e b/\fc o e b)(H:1<=a1.len c)(n:a1.len c<=4)(T:a1.lE e c)
  (V:∀E∈a1.bc e c,bQ i E) (q:∀b∈d,(a1.bc e b).length+(a1.bc e c).length<=1048576) (W:∀r,o.le r->r.one=ι->p9 r e c):Laid o e (a1.lF d v c) (kc o i (d.map (bL e)) v (fv e c)):=by
 unfold kc a1.lF;rw[a4K];have s:(a1.bc e c).length<=1048576:=by have:=q _ (a7O m);omega
 by_cases F:2<=a1.len c
 .rw[if_pos F,if_pos F,Am];have t:=a1.hi.2 ⟨F,n,T⟩;have u:=(lJ C D e c (Gk t V s)).1;rw[qf u.oQ];simp only;refine⟨?_,lQ _ _,λk b a=>?_⟩
  .rw[<-tm,List.map_set]
  .rcases a9y a with a|rfl
   .exact(z b a).2.2.mono (lQ _ _)
   .have S:=rG k;have f:=W _ (lQ o (cH (dH e b))) k
    match e,b,S,f with
    |0,b,S,f=>exact S
    |e+1,b,S,f=>trivial
 .rw[if_neg F,if_neg F];have I:a1.len c=1:=δ;by_cases l:v=0
  .subst l;simp only[if_true];have x:d[1]?=β d[1]:=Ρ δ;rw[a7R,x];generalize d[1]=y at x;have h:=z y (a7r x);have g:=a1.hi.1 h.2.1;simp only[a8u];rw[rH C D h.1 h.2.2];simp only;rw[Hn];have j:=Ho C D o c y T g.2.2 δ δ V h.1.ok (by grind) (λr G k=>⟨W r G k,(h.2.2.mono G).p⟩);generalize kM o i (fv e c) (fv e y)=E at*;obtain⟨w,A⟩:=E;obtain⟨L,p,P⟩:=j;simp only at L p P;subst L;simp only;refine⟨ς,p,λk b a=>?_⟩;simp only[a7z]at a;rcases a with (a|a)|a;simp_all
   .exact P k b a
   .exact(z b (a7U a)).2.2.mono p
  .simp only[if_neg l];have x:d[v - 1]?=β d[v - 1]:=Ρ δ;rw[a7R,x];generalize d[v - 1]=y at x;have h:=z y (a7r x);have g:=a1.hi.1 h.2.1;simp only[a8u];rw[rH C D h.1 h.2.2];simp only;rw[Hn];have j:=Ho C D o y c g.2.2 T δ δ h.1.ok V (by grind) (λr G k=>⟨(h.2.2.mono G).p,W r G k⟩);generalize kM o i (fv e y) (fv e c)=E at*;obtain⟨w,A⟩:=E;obtain⟨L,p,P⟩:=j;simp only at L p P;subst L;simp only;refine⟨ς,p,λk b a=>?_⟩;simp only[a7z]at a;rcases a with (a|a)|a
   .exact(z b (a7A a)).2.2.mono p
   .exact P k b a
   .exact(z b (a7U a)).2.2.mono p
structure a4M(a:af)(h:Nat)(t:a1.T h)(r:Except Int iu×af):Prop where
 ok:r.1=.ok (fv h t)
 le:a.le r.2
 ins:r.2.one=ι->p9 r.2 h t
theorem Hp{p:Nat}(c:1<=p)(d:p<=8){b:Ω}(y:bQ p b):∀(a:Nat)(k:a1.T a)(r:af)(z:Nat),GT p a k->fc r a k->a<z->b∈a1.bc a k->a4M r a (a1.cK bC b a k) (iv p b z r (bL a k))
 |0,k,r,z+1,h,E,_,T=>by
  obtain⟨F,rfl⟩:=a1.ir k;have V:(dH 0 (a1.leaf F)).rows.map Γ=F:=Ak;rw[iv,rH c d h.fX E];simp only;rw[if_pos Hi,V,zE (O:=F) c d h.ec h.ok y,decide_eq_true (p:=b∈F) T,if_pos rfl,a3s (O:=F) c d h.ec h.ok y T];exact⟨rfl,af.le_refl,λ_=>trivial⟩
 |a+1,k,r,z+1,h,E,O,T=>by
  obtain⟨x,rfl⟩:=a1.gA k;have C:=h.kids c d y;obtain⟨o,G⟩:=C.at_;have e:=a7r G;have t:=(Hl c d h y G).1 T;obtain⟨u,Q⟩:=C.two;obtain⟨D,v,_,_⟩:=C.gC o e;have X:=a1.hi.1 v;obtain⟨w,A,Y,B⟩:=a1.q2 (gi c d) y a o D.wf D.ec D.ok;have ih:=Hp c d y a o r z D (E.2 o e) δ t;rw[iv,rH c d h.fX E];simp only;rw[if_neg Al,Hj c d h.fX,Hk,G];simp only[a8u];have f:a1.cK bC b (a+1) (a1.node x)=a1.node (a1.lF x (a1.cS bC b (x.map (a1.cP a))) (a1.cK bC b a o)):=by simp only[a1.cK,a1.fs];rw[G]
  rw[f];clear f;have H:=(a7u.1 G).1;generalize a1.cS bC b (x.map (a1.cP a))=I at*;generalize iv p b z r (bL a o)=L at*;obtain⟨K,g⟩:=L;obtain⟨i,W,j⟩:=ih;simp only at i W j;subst i;simp only;have Z:=D.dP;have j9:(a1.bc a (a1.cK bC b a o)).length<=1000:=by grind
  have M:=a4L c d g H u (λP S=>⟨(C.gC P S).1.fX,(C.gC P S).2.1,(E.2 P S).mono W⟩) δ B A (λL l=>by
   rw[w]at l;exact D.ok L (aae.1 l).1) (λP S=>by have:=(C.gC P S).1.dP;omega) (λk0 m N=>(j (m.zero N)).mono m)
  have V:(dH (a+1) (a1.node x)).kids=x.map (bL a):=rfl;rw[V];generalize kc g p (x.map (bL a)) I (fv a (a1.cK bC b a o))=L at*;obtain⟨K,k1⟩:=L;obtain⟨n,q,s⟩:=M;simp only at n q s;subst n;simp only;exact⟨rfl,W.trans q,s⟩
def w9:(b:Nat)->a1.T b->dG
 |0,a=>if a1.len a=0 then ζ else β ⟨0,a⟩
 |b+1,a=>match a1.kids a with
  |[c]=>β ⟨b,c⟩
  |_=>β ⟨b+1,a⟩
def jI(a:dG)(c:Ω):dG:=
 match a with
 |none=>ζ
 |some ⟨b,a⟩=>if c∈a1.bc b a then w9 b (a1.cK bC c b a)else β ⟨b,a⟩
theorem a4N(C:1<=e)(D:e<=8)(j:bQ e q)(l:hq e b8)(m:iD B b8)(S:q∈eh b8):qm B (jI b8 q) (lH e q B (dY b8)):=by
 match b8 with
 |none=>cases S
 |some ⟨a,b8⟩=>
  have d:GT e a b8:=l;have T:q∈a1.bc a b8:=S;have V:=kS C D d.fX;have h:=ds.high a b8 d.fX;have w:=V.size;have A:=d.dP;have H:=Hp C D j a b8 B ((bL a b8).size.toNat+1) d m δ T;obtain⟨n,r,x,o⟩:=a1.q2 (gi C D) j a b8 d.wf d.ec d.ok;have s:jI (β ⟨a,b8⟩) q=w9 a (a1.cK bC q a b8):=by simp only[jI];rw[if_pos T]
  have t:dY (β ⟨a,b8⟩)=bL a b8:=rfl;rw[s];unfold lH;rw[t,if_neg V.ne];have p:∀E∈a1.bc a (a1.cK bC q a b8),bQ e E:=λE u=>by
   rw[n]at u;exact d.ok E (aae.1 u).1
  have z:(a1.bc a (a1.cK bC q a b8)).length<=1000:=by grind
  have P:=d.wf;clear w V m s t l;generalize iv e q ((bL a b8).size.toNat+1) B (bL a b8)=E at*;generalize a1.cK bC q a b8=b at*;obtain⟨K,M⟩:=E;obtain⟨v,F,k⟩:=H;simp only at v F k;subst v;simp only;clear S T d h A n
  match a,b8,b,r,x,o,p,z,k,P with
  |0,b8,b,r,x,o,p,z,k,P=>
   show qm B (if a1.len b=0 then ζ else β ⟨0,b⟩) _;have W:¬((fv 0 b).leaf=ι/\(fv 0 b).kids.length=1):=λh=>absurd h.1 (show¬η=ι by decide);by_cases c:a1.len b=0
   .rw[if_pos c,if_pos (⟨rfl,c⟩)];exact⟨rfl,F,λ_=>trivial⟩
   .have f:¬((fv 0 b).leaf=η/\(fv 0 b).rows.length=0):=λh=>c h.2;rw[if_neg c,if_neg f,if_neg W,Am];have g:=(lJ C D 0 b ⟨⟨δ,o,trivial,λh=>by omega⟩,p,δ⟩).1;rw[qf g.oQ];exact⟨rfl,F.trans (lQ _ _),λc=>rG c⟩
  |a+1,b8,b,r,x,o,p,z,k,P=>
   have N:=P.2.2.2 δ;have f:¬((fv (a+1) b).leaf=η/\(fv (a+1) b).rows.length=0):=λh=>absurd h.1 (show¬ι=η by decide);rw[if_neg f];obtain⟨y,rfl⟩:=a1.gA b;rw[a1.dN]at x o
   match y,x,o,r,p,z,k with
   |[],x,_,_,_,_,_=>simp at x;omega
   |[i],_,_,r,p,z,k=>rw[if_pos (⟨rfl,rfl⟩)];exact⟨rfl,F,λc=>k c i (by simp[a1.fs])⟩
   |G::L::y,_,o,r,p,z,k=>
    have W:¬((fv (a+1) (a1.node (G::L::y))).leaf=ι/\(fv (a+1) (a1.node (G::L::y))).kids.length=1):=λh=>by
     have:=h.2;rw[show(fv (a+1) (a1.node (G::L::y))).kids=(G::L::y).map (bL a)from rfl]at this;simp at this
    rw[if_neg W,Am];have g:=(lJ C D (a+1) (a1.node (G::L::y)) ⟨⟨by rw[a1.dN];simp,by rw[a1.dN];exact o,r,λ_=>by rw[a1.dN];simp⟩,p,δ⟩).1;rw[qf g.oQ];exact⟨rfl,F.trans (lQ _ _),λc=>⟨rG c,λi I=>(k ((lQ _ _).zero c) i I).mono (lQ _ _)⟩⟩
theorem a4O(P:1<=e)(S:e<=8)(T:bQ e q)(F:hq e b8):hq e (jI b8 q)/\(eh (jI b8 q)).length<=(eh b8).length:=by
 match b8 with
 |none=>exact⟨trivial,a7T _⟩
 |some ⟨c,b8⟩=>
  have d:GT e c b8:=F;simp only[jI];by_cases G:q∈a1.bc c b8
  .rw[if_pos G];obtain⟨b,h,o,k⟩:=a1.q2 (gi P S) T c b8 d.wf d.ec d.ok;have i:=aas (λa=>decide (a≠q)) (a1.bc c b8);have y:=d.ec.filter λa=>decide (a≠q);have z:∀C∈(a1.bc c b8).filter (λa=>decide (a≠q)),bQ e C:=λC V=>d.ok C (aae.1 V).1;have j:=d.dP;have p:=d.wf;show hq e _/\ _<=(a1.bc c b8).length;generalize (a1.bc c b8).filter (λa=>decide (a≠q))=W at*;generalize a1.cK bC q c b8=a at*;generalize (a1.bc c b8).length=r at*;clear G F d
   match c,a,b8,b,h,o,k,p with
   |0,a,b8,b,h,o,k,p=>
    show hq e (if a1.len a=0 then ζ else β ⟨0,a⟩)/\(eh (if a1.len a=0 then ζ else β ⟨0,a⟩)).length<=r;by_cases L:a1.len a=0
    .rw[if_pos L];exact⟨trivial,by simp[eh]⟩
    .rw[if_neg L];refine⟨⟨⟨δ,k,trivial,λl=>by omega⟩,by rw[b];exact y,by rw[b];exact z,by rw[b];omega⟩,?_⟩;show(a1.bc 0 a).length<=r;rw[b];omega
   |c+1,a,b8,b,h,o,k,p=>
    have m:=p.2.2.2 δ;obtain⟨D,rfl⟩:=a1.gA a;rw[a1.dN]at o k
    match D,o,k,h,b with
    |[],o,_,_,_=>simp at o;omega
    |[E],_,_,h,b=>
     have x:a1.bc c E=W:=by rw[<-b,a1.fU];simp
     refine⟨⟨a1.jX.of (h E (by simp[a1.fs])),by rw[x];exact y,by rw[x];exact z,by rw[x];omega⟩,?_⟩;show(a1.bc c E).length<=r;rw[x];omega
    |f::g::D,_,k,h,b=>refine⟨⟨⟨by rw[a1.dN];simp,by rw[a1.dN];exact k,h,λ_=>by rw[a1.dN];simp⟩,by rw[b];exact y,by rw[b];exact z,by rw[b];omega⟩,?_⟩;show(a1.bc (c+1) (a1.node (f::g::D))).length<=r;rw[b];omega
  simp_all
def a4P(q:1<=e)(s:e<=8)(b:Ω)(S:Own)(t:bQ e b)(a:dG)(o:R)(p:U)(C:fI p a o)(H:hq e a):
  AC γ 63 [o,.J (ad b) S] p λT u=>p.sub u/\∃v h,T=.aJ [v,.v (.bool h)]/\fI u (jI a b) v:=by
 have D:∀o h:R,aM ι 1 [o,h]=o:=λ_ _=>rfl;have E:∀o h:R,aM ι 1 ([o,h].drop 1)=h:=λ_ _=>rfl;refine bd hm MZ ς ?_
 match a with
 |none=>obtain rfl:=C;refine bU ?_;refine ah (a1i p) ?_;rintro _ p⟨rfl,rfl⟩;refine bU ?_;refine ah (yJ [] [] .nil S b p trivial ς ς) ?_;rintro _ _⟨rfl,rfl⟩;have I:decide (b∈([]))=false:=ς;refine ak @I ?_;exact⟨_,θ,θ,_,_,rfl,rfl⟩
 |some ⟨c,a⟩=>
  obtain⟨h,k3,k4,rfl,k5⟩:=bA.ptr C;have r:GT e c a:=H;have k6:=r.dP;refine bU ?_;refine ah (yI c a (.ptr h 0) p C δ) ?_;rintro _ l⟨V,K,M,rfl,N⟩;refine bU ?_;refine ah (yJ _ K M S b l N δ λT O=>by have:=(r.ok T O).len;omega) ?_;rintro _ l⟨rfl,rfl⟩;by_cases W:b∈a1.bc c a
  .refine ak @W ?_;refine ah (a4G q s b S t c a (.ptr h 0) l (bA.mono V C) r) ?_;rintro T m⟨Q,z⟩;have X:jI (β ⟨c,a⟩) b=w9 c (a1.cK bC b c a):=by simp only[jI];rw[if_pos W]
   rw[X];obtain⟨_,k7,k8,F⟩:=a1.q2 (gi q s) t c a r.wf r.ec r.ok;have k9:=r.wf;have f:=π V Q;generalize a1.cK bC b c a=x at*;cases c with
   |zero=>
    obtain⟨Y,g,w,Z,rfl,k,d⟩:=id z;have G:=d.len;have l0:α g<=4:=by rw[G];exact F
    have L:(([]:ύ).length:Int)=0:=rfl;have y:¬((0:Int)=1):=δ;refine ak (bh (κ k) @D @E @L @y) ?_;by_cases A:(α g:Int)=0
    .have n:(0)+(α g:Int)=0:=δ;refine ak (c7 (κ k) @D @E @L @y @A @n) ?_;refine⟨_,θ,f,_,_,rfl,?_⟩;show fI m (if a1.len x=0 then ζ else β ⟨0,x⟩) _;rw[if_pos (by show(a1.rows x).length=0;omega)];rfl
    .have n:¬((0)+(α g:Int)=0):=δ;refine ak (c7 (κ k) @D @E @L @y @A @n) ?_;refine⟨_,θ,f,_,_,rfl,?_⟩;show fI m (if a1.len x=0 then ζ else β ⟨0,x⟩) _;rw[if_neg (by show¬(a1.rows x).length=0;omega)];exact z
   |succ c=>
    obtain⟨B,rfl⟩:=a1.gA x;obtain⟨Y,i,w,Z,rfl,k,d,j,_⟩:=id z;rw[a1.fs]at d j;have G:=d.len;rw[a1.dN]at F
    match B,i,d,j,G,k,z,F with
    |[],_,_,j,_,_,_,_=>exact absurd rfl j
    |[j9],[l1],d,_,_,k,_,_=>
     have l2:=d.1.cells;obtain⟨P,l3,l4,rfl,_⟩:=bA.ptr d.1;have k0:cz 1 (.J [.ptr P 0] w) (.v (.int .i64 0))=β (.bS [.ptr P 0]):=by rw[gp δ];rfl
     have k1:cW ι 1 m (.bS [.ptr P 0])=β (.ptr P 0):=rfl;have y:(([R.ptr P 0]).length)=1:=rfl;refine ak (bz (κ k) @D @E @y @k0 @k1) ?_;refine⟨_,θ,f,_,_,rfl,?_⟩;exact d.1
    |j9::c2::B,i,d,_,G,k,z,F=>simp only[a7s]at G F;have y:¬((α i:Int)=1):=δ;have L:(([]:ύ).length)=0:=rfl;have k2:¬((α i:Int)+0=0):=δ;refine ak (bz (κ k) @D @E @L @y @k2) ?_;refine⟨_,θ,f,_,_,rfl,?_⟩;exact z
  .refine ak @W ?_;refine⟨_,θ,V,_,_,rfl,?_⟩;simp only[jI,if_neg W];exact bA.mono V C
structure aX where
 name:ϊ
 aD:List ϊ
 rows:List Ω
 bf:aC
 bm:dG
instance:Inhabited aX:=⟨⟨[],[],[],.nil,ζ⟩⟩
def aX.bI(a:aX):aU:=⟨a.name,a.aD,bg a.bf,dY a.bm⟩
def ct(a:List aX)(b:ϊ):Nat:=a.findIdx λc=>decide (c.name=b)
def jJ(a:List aX)(b:ϊ):Nat:=(a.takeWhile λc=> !c8 b c.name).length
def c5(a:Ω):Int:=a.getD 0 0
def hv(a:Ω)(c:List Ω):List Ω:=c.takeWhile (λb=> !decide (c5 a<c5 b))++a::c.dropWhile (λb=> !decide (c5 a<c5 b))
def rM(a:List Ω):List Ω:=a.foldl (λb c=>hv c b) []
def aX.put(a:aX)(b:Ω):aX:=⟨a.name,a.aD,rM (a.rows++[b]),(da (α a.aD+1) b a.bf 0).1,kQ a.bm b⟩
def aX.del(a:aX)(b:Ω):aX:=⟨a.name,a.aD,a.rows.filter (λc=>decide (c≠b)),(lL (α a.aD+1) b a.bf).1,jI a.bm b⟩
def hx(a:List aX)(b:dt):Int×List aX:=
 if fb b=ι then(1,a)
 else if b.kind=1 then(if ct a b.table<α a then(4,a)else if 7<α a then(10,a)else(0,a.take (jJ a b.table)++⟨b.table,b.aD,[],.nil,ζ⟩::a.drop (jJ a b.table)))
 else if α a<=ct a b.table then(3,a)
 else if b.kind=2 then(0,a.eraseIdx (ct a b.table))
 else if α b.row≠(a.getD (ct a b.table) default).aD.length+1 then(6,a)
 else if b.kind=4 then(if b.row∈(a.getD (ct a b.table) default).rows then(0,a.set (ct a b.table) ((a.getD (ct a b.table) default).del b.row))else(9,a))
 else if(a.getD (ct a b.table) default).rows.any (λc=>decide (c5 c=c5 b.row))=η then(8,a)
 else(0,a.set (ct a b.table) ((a.getD (ct a b.table) default).put b.row))
structure eA(n:Nat)(t:aX):Prop where
 right:fb ⟨1,t.name,t.aD,[]⟩=η
 dC:lS (α t.aD+1) n t.bf
 fl:t.bf.all.Perm t.rows
 go:hq (α t.aD+1) t.bm
 nZ:(eh t.bm).Perm t.rows
 ec:t.rows.Pairwise (λa b=>c5 a<c5 b)
 dP:α t.rows<=n
variable{h5:aX}
theorem eA.c(a:eA e h5):1<=α h5.aD/\α h5.aD<=7:=by have b:=a.right;simp_all [fb,nL]
def eA.row(a:eA e h5)(b:q∈h5.rows):bQ (α h5.aD+1) q:=a.dC.fu q (aC.gI (a.fl.mem_iff.2 b))
def eA.le(a:eA e h5)(b:e<=i):eA i h5:=⟨a.right,⟨a.dC.fu,a.dC.w1,by have:=a.dC.cf;omega⟩,a.fl,a.go,a.nZ,a.ec,by have:=a.dP;omega⟩
structure ej(n:Nat)(cL:List aX):Prop where
 ok:∀t∈cL,eA n t
 ec:cL.Pairwise (λa b=>c8 a.name b.name=η)
 dP:α cL<=8
theorem ej.nil{n:Nat}:ej n []:=⟨λb a=>(by cases a),.nil,ς⟩
def Hq(b:1<=e)(c:e<=8)(a:hq e b8):(b8=ζ/\dY b8=az)\/(b8≠ζ/\iY e (eh b8).length (dY b8)):=by
 match b8,a with
 |none,_=>exact .inl ⟨rfl,rfl⟩
 |some ⟨d,b8⟩,a=>exact .inr ⟨ς,kS b c (GT.fX a)⟩
theorem eA.bI{d:Nat}{h:aX}(a:eA d h)(x:d<=1000):gd h.bI=true:=by
 have y:=a.c;have c:=eG δ δ a.dC.fu (by have:=a.dC.cf;omega);have z:=a.dC.cf;have C:=a.fl.length_eq;have k:=a.nZ.length_eq;have D:=a.dP;have o:=c.live;unfold gd aX.bI
 dsimp only
 simp only[Υ,a8Z,decide_eq_true_eq];rcases Hq δ δ a.go with⟨p,b⟩|⟨p,b⟩
 .have r:(az).live=0:=rfl;rw[p]at k;refine⟨a.right,c.ok δ,?_,?_,by rw[c.key];rfl,.inl b⟩
  .rw[b];unfold fq;rfl
  .rw[b,o,r];simp[eh]at k;omega
 .refine⟨a.right,c.ok δ,b.ok δ,?_,by rw[c.key];rfl,.inr ⟨b.key.len,?_⟩⟩
  .rw[o,b.live];omega
  .rw[b.size,b.live]
variable{a7:List aX}
def ej.cat(a:ej e a7)(b:e<=1000):cJ (a7.map aX.bI)=true:=by
 refine p8.2 ⟨λk c=>?_,?_,by rw[a7w];exact a.dP⟩
 .obtain⟨d,h,rfl⟩:=a7G.1 c;exact(a.ok d h).bI b
 .rw[a9N];exact a.ec
theorem An:∀ {a:List aU}{nm:ϊ},a.Pairwise (λh k=>c8 h.name k.name=η)->(a.findIdx λb=>decide (b.name=nm))<α a->db a nm=a.findIdx λb=>decide (b.name=nm)
 |[],nm,_,c=>by rfl
 |b::a,nm,o,c=>by
  obtain⟨x,p⟩:=a7X.1 o;rw[List.findIdx_cons]at c|-;unfold db;rw[a8I];by_cases d:b.name=nm
  .rw[decide_eq_true d];simp[d,zy]
  .rw[decide_eq_false d]at c|-;simp only[cond_false,a7s]at c|-;have ih:=An (nm:=nm) p δ;have r:c8 b.name nm=true:=by grind
   rw[if_pos r,a7s];unfold db at ih;rw[ih]
variable{w j4:ϊ}
theorem wa:((a7.map aX.bI).findIdx λa=>decide (a.name=w))=ct a7 w:=by rw[List.findIdx_map];rfl
theorem wb(a:ct a7 w<α a7):(a7.getD (ct a7 w) default).name=w:=by have:=List.findIdx_getElem (w:=a);rw[a8n,Ρ a];exact of_decide_eq_true this
theorem Ao(a:ct a7 w<α a7):a7.getD (ct a7 w) default∈a7:=by simp_all
def Hr(b:α a7<=ct a7 w):∀a∈a7,a.name≠w:=λa c d=>by
 have:=List.findIdx_lt_length_of_exists (p:=λa:aX=>decide (a.name=w)) ⟨a,c,decide_eq_true d⟩;have h:α a7<=a7.findIdx λa=>decide (a.name=w):=b;omega
theorem Ap(c:ej e a7):gJ (a7.map aX.bI) w=decide (ct a7 w<α a7):=by
 have d:(a7.map aX.bI).Pairwise (λh k=>c8 h.name k.name=η):=by rw[a9N];exact c.ec
 by_cases a:ct a7 w<α a7
 .have b:=An d (by rw[wa,a7w];exact a);rw[wa]at b;unfold gJ;rw[b,decide_eq_true a,a7w,decide_eq_true a,a8S];refine decide_eq_true ?_;have:=wb a;rw[a8n,Ρ (by rw[a7w];exact a),a9l,aaX];rw[a8n,Ρ a,a9l]at this;exact this
 .rw[decide_eq_false a];unfold gJ;rw[aar];by_cases c2:db (a7.map aX.bI) w<(a7.map aX.bI).length
  .right;refine decide_eq_false λb=>?_;rw[a8n,Ρ c2,a9l,aaX]at b;exact Hr δ _ (a7O (by rw[a7w]at c2;exact c2)) b
  .left;simp_all
theorem Hs(a:ej e a7)(d:ct a7 w<α a7):db (a7.map aX.bI) w=ct a7 w:=by
 have h:(a7.map aX.bI).Pairwise (λb c=>c8 b.name c.name=η):=by rw[a9N];exact a.ec
 grind[wa,An,List.length_map]
def Ht:(a7.map aX.bI).find? (λa=>decide (a.name=w))=(a7[ct a7 w]?).map aX.bI:=by rw[List.find?_eq_getElem?_findIdx,wa,a7R]
theorem a4Q(a:w≠j4):(!c8 j4 w)=c8 w j4:=by grind[c8,absurd,Gd,vO,zy]
theorem a4R(a:α a7<=ct a7 w):db (a7.map aX.bI) w=jJ a7 w:=by
 have b:=Hr a;clear a;unfold db jJ
 induction a7 with
 |nil=>rfl
 |cons c a7 ih=>have d:=a4Q (b c ς);have ih:=ih λh k=>b h (by simp[k]);rw[a7C,a8I,a8I,d];show(if c8 c.name w=η then _ else _:List aU).length= _;grind
def iE(c:Nat)(d h:U):Prop:=∀b a,d b=β (.cells a)->α a≠c->h b=β (.cells a)
theorem iE.of{s:U}(a:iL s f):iE e s f:=λb c d _=>a b c d
theorem iE.set{c a:Nat}{b:U}{d:ύ}{h:bu}(p:b a=β (.cells d))(r:α d=c):iE c b (b.set a h):=λk x o y=>by
 have:k≠a:=by grind
 rw[ο _ _ this];exact o
def dQ.iF{n:Nat}{c d:U}(a:n≠4)(b:iE n c d):∀ {h:aC}{k:R},dQ c h k->dQ d h k
 |.nil,_,o=>o
 |.node _ _ _ _,_,⟨p,r,x,y,h1,z,C,D⟩=>⟨p,r,x,y,h1,b _ _ z (by simpa using a.symm),C.iF a b,D.iF a b⟩
def fI.Hu(b:Aj f s)(a:fI f b8 n):fI s b8 n:=by
 match b8 with
 |none=>exact a
 |some ⟨_,_⟩=>exact bA.w7 b a
def fI.iF{n:Nat}(a:n≠2)(b:iE n f s)(c:fI f b8 b5):fI s b8 b5:=c.Hu λh k o p r d=>b _ _ d (by simpa using a.symm)
variable{Y:bu}
theorem qn(a:bj f s i g N)(d:f e=ζ)(b:s e=β (.cells H)):bj f (s.set e Y) i g N:=by
 refine⟨μ a.1 d,?_⟩;have c:=a.2;cases N with
 |buf h k=>
  have o:h≠e:=by rintro rfl;rw[c.2]at b;cases b
  grind[ο]
 |_=>exact c
theorem fI.cells{d:U}{b:dG}{a:R}(c:fI d b a):a.cells=[a]:=by
 match b with
 |none=>obtain rfl:a=.v (.pointer ζ):=c;rfl
 |some ⟨_,_⟩=>obtain⟨h,k,o,rfl,_⟩:=bA.ptr c;rfl
def hy(b:U)(a:aX)(o:R):Prop:=∃c p d r h k,o=.ptr c 0/\b c=β (.cells [bo a.name,.J (bM a.aD) p,.J d r,h,k])/\aB isRow a.rows d/\dQ b a.bf h/\fI b a.bm k
def hy.iF{b c:U}(a:iE 1 b c){d:aX}{h:R}(k:hy b d h):hy c d h:=by obtain⟨o,p,r,x,y,z,C,D,E,F,G⟩:=k;exact⟨o,p,r,x,y,z,C,a _ _ D ς,E,F.iF Θ a,G.iF Θ a⟩
def hy.sub(a:f.sub s)(b:hy f h5 n):hy s h5 n:=b.iF (iE.of (U.sD a))
def hz(a:U)(c:Nat)(d:List aX):Prop:=∃b h,a c=β (.cells [.J b h])/\aB (hy a) d b
def hz.sub{b c:U}(d:b.sub c){h:Nat}{k:List aX}(a:hz b h k):hz c h k:=by obtain⟨o,p,r,x⟩:=a;exact⟨o,p,d _ _ r,x.mono λy z a=>a.sub d⟩
def Hv(a:aB (hy f) a7 g):aY 1 g:=λk c=>by
 obtain⟨d,h,rfl⟩:=a8a c;have o:=a.len;obtain⟨p,b,r,_,_,_,_,_,rfl,_⟩:=a.get (Ρ (show d<α a7 by omega));rw[Ρ h]at b;rw[Δ b];rfl
theorem a4S(b:e<α a7)(c:∀a<e,(a7.getD a default).name≠w)(d:(a7.getD e default).name=w):ct a7 w=e:=by grind[ct,List.findIdx_eq,List.getElem?_eq_getElem,decide_eq_true,decide_eq_false]
theorem a4T(b:∀a<α a7,(a7.getD a default).name≠w):α a7<=ct a7 w:=by grind[Nat.lt_or_ge,ct,absurd,wb]
def qo(a:List aX)(b:ϊ):Int:=if ct a b<α a then(ct a b:Int)else -1
theorem a4U(h:U)(k:Nat)(b:List aX)(o:hz h k b)(d:ϊ)(P:α b<=1000):
  AC γ 60 [.ptr k 0,bo d] h λz C=>C=h/\z=.v (.int .i64 (qo b d)):=by
 obtain⟨S,T,D,p⟩:=o;have V:=p.len;have W:=κ D;refine aK hm MT ?_;refine gv [0,1] (λa:Nat=>[(5,.v (.int .i64 a))]) (λa=>a<=α b/\∀c<a,(b.getD c default).name≠d) (λa=>α b - a) 0 ⟨a7N _,λc o=>by omega⟩ aO ?_;rintro a⟨e,r⟩f;refine aa ?_;refine aF (λE=>?_) λE=>?_
 .have x:a<α b:=δ;have F:b[a]?=β (b.getD a default):=by simp_all
  obtain⟨_,g,i,j,l,m,n,q,rfl,G,_,_,_⟩:=p.get F;have s:=κ G;have t:=(vP (b.getD a default).name d).1;refine aa ?_;refine aF (λc2=>?_) λc2=>?_
  .have y:=a4S x r c2;unfold qo;rw[y,if_pos x]
  .exact⟨a+1,⟨δ,λc L=>by grind⟩,rfl,δ⟩
 .have y:=a4T λc L=>r c δ;unfold qo;simp_all
def Aq(c d:Own):Prop:=∀a h b k,c=.buf a h->d=.buf b k->a≠b
variable{t Z:R -> U -> Prop}
def Hw{F:cy t}(r:bj s f e g e6)(x:bj s f e c0 N)(y:Aq e6 N)(G:aY e g)(L:aY e H)(P:(α g+α H)*i<=140737488355328)(S:α g+α H<=9223372036854775807)
  (T:∀c b,bj s b e (g++H) c->bj s b e c0 N->Aq c N->iL f b->t (.J (g++H) c) b):mq e i f (.J g e6) (.J H h6) (bX t F):=by
 obtain⟨j,V,l,z,k⟩:=r.nv;refine ep V G L P S λc b d=>T c b (d.base z) ⟨π z d.sub,?_⟩ ?_ λW m o=>d.sub _ _ ?_
 .have a:=x.2;cases N with
  |buf h C=>refine⟨a.1,d.sub _ _ ?_⟩;rw[k h λD E p=>y _ _ _ _ p rfl];exact a.2
  |_=>exact a
 .rintro h C D E rfl rfl rfl;have a:=d.2.1;rw[k h λD E p=>y _ _ _ _ p rfl,x.2.2]at a;cases a
 .rw[k W (λh C a=>by subst a;rintro rfl;rw[r.2.2]at o;cases o)];exact o
theorem Hx{a:Int->Int->Int}(b:e<α q)(c:e<α b7):(ψ a q b7).take (e+1)=(ψ a q b7).take e++[a (q.getD e 0) (b7.getD e 0)]:=by rw[a8y (by rw[a9h];omega),List.getElem_zipWith];simp_all
theorem Hy(C D:Ω×Ω)(j l m n:Own)(T:U)(k9:α C.1<=1000000)(l0:α D.1<=1000000):
  AC γ 137 [eU C.1 C.2 j l,eU D.1 D.2 m n] T λl1 G=>T.sub G/\∃l2 r,l1=eU (cR C D).1 (cR C D).2 l2 r:=by
 obtain⟨b,h⟩:=C;obtain⟨c,d⟩:=D
 dsimp only at*
 have a01:=bN (q:=b);have a02:=bN (q:=c);have X:=@dU b;have Y:=@dU h;have Z:=@dU c;have j9:=@dU d;have p:(if cQ b h (α b)=η then
  (if cQ c d (α c)=η then(if α b=α c then(ψ min b c,ψ max h d)else([],[]))else(b,h))
  else if cQ c d (α c)=η then(c,d)else([],[]))=cR (b,h) (c,d):=rfl
 generalize cR (b,h) (c,d)=a03 at*;refine aK hm Pl ?_;refine bs λq a04=>?_;refine dd λs a05 a06 k0=>?_;refine hd λt a07 a08 V a09 W=>?_;refine bp (Gc b h _ _ _ _ k9) ?_;refine bp (Gc c d _ _ _ _ l0) ?_;cases qd:cQ b h (α b) with
 |false=>
  cases iz:cQ c d (α c) with
  |false=>rw[qd,iz,if_neg ς,if_neg ς]at p;refine aa ?_;exact⟨.nil,.nil,by rw[<-p];rfl⟩
  |true=>rw[qd,iz,if_neg ς,if_pos rfl]at p;refine aa ?_;exact⟨m,n,by rw[<-p]⟩
 |true=>
  cases iz:cQ c d (α c) with
  |false=>rw[qd,iz,if_pos rfl,if_neg ς]at p;refine aa ?_;exact⟨j,l,by rw[<-p]⟩
  |true=>
   rw[qd,iz,if_pos rfl,if_pos rfl]at p;by_cases cl:α b=α c
   .rw[if_pos cl]at p;have a10:=lD qd;have a11:=lD iz;refine aa ?_;refine aN λr k=>?_;generalize L:((T.set q _).set s _).set t _=E at*;have l3:T.sub E:=by subst L;exact aO
    have u:E q=β (.cells [.J (ad b) j,.J (ad h) l]):=by subst L;exact aO
    have v:E s=β (.cells [.J (ad c) m,.J (ad d) n]):=by subst L;exact aO
    have aL:E t=β (.cells [.J [] .nil,.J [] .nil]):=by subst L;exact aO
    have a13:t≠r:=by rintro rfl;rw[aL]at k;cases k
    have a14:q≠r:=by rintro rfl;rw[u]at k;cases k
    have a15:s≠r:=by rintro rfl;rw[v]at k;cases k
    clear L qd iz;have k1:=λa P w=>Hx (a:=min) (q:=b) (b7:=c) (e:=a) P w;have k2:=λa P w=>Hx (a:=max) (q:=h) (b7:=d) (e:=a) P w;have a16:(ψ min b c).length=α b:=by rw[a9h];omega
    have a18:(ψ max h d).length=α b:=by rw[a9h];omega
    generalize ψ min b c=y at*;generalize ψ max h d=z at*;refine aa ?_;refine cc [2,3,4,7] (λa:Nat=>[(8,.v (.int .i64 (a)))]) (λa G=>a<=α b/\∃S x,G r=β (.cells [.J (ad (y.take a)) S,.J (ad (z.take a)) x])/\bj E G 1 (ad (y.take a)) S/\bj E G 1 (ad (z.take a)) x/\Aq S x) (λa=>α b - a) 0
     ⟨⟨a7N _,.nil,.nil,ξ _ _ _,Τ (μ θ k),Τ (μ θ k),λ_ _ _ _ P=>by cases P⟩,aO⟩ ?_
    rintro a a19⟨a27,S,x,A,o,F,B⟩a29;have qX:=κ (o.sub _ _ u);have nt:=κ (o.sub _ _ v);have l4:=κ A;have a30:(ad (y.take a)).length=a:=by rw[bN,a7q];omega
    have a34:(ad (z.take a)).length=a:=by rw[bN,a7q];omega
    by_cases a36:a<α b
    .have a38:=X δ;have a42:=Y (b:=a) δ;have a43:=Z (b:=a) δ;have a47:=j9 (b:=a) δ;have k3:=k1 a δ δ;have k4:=k2 a δ δ;clear X Y Z j9 k1 k2;generalize b.getD a 0=e at*;generalize c.getD a 0=f at*;generalize h.getD a 0=a3 at*;generalize d.getD a 0=a4 at*;have k5:(a)<(α c:Int):=δ;have l5:aY 1 (ad (y.take a)):=λk0 H=>by obtain⟨l6,_,rfl⟩:=a7G.1 H;rfl
     have l7:aY 1 (ad (z.take a)):=λk0 H=>by obtain⟨l6,_,rfl⟩:=a7G.1 H;rfl
     have k6:ad (y.take (a+1))=ad (y.take a)++[.v (.int .i64 (min e f))]:=by rw[k3];simp[ad]
     have k7:ad (z.take (a+1))=ad (z.take a)++[.v (.int .i64 (max a3 a4))]:=by rw[k4];simp[ad]
     clear k3 k4;generalize ad (y.take a)=I at*;generalize ad (z.take a)=K at*;refine aa ?_;refine dJ θ (by simp[aY,σ]) λa48 a52 M=>?_;refine aa ?_;refine Hw (o.mono M.sub) (F.mono M.sub) B l5 (by simp[aY,σ]) Μ Μ λg k8 o F B l8=>?_;have i:=l8 _ _ (M.sub _ _ A);have aG:=χ i;have qX:=κ (o.sub _ _ u);have nt:=κ (o.sub _ _ v);refine aa ?_;have l9:=qn (Y:=.cells [.J (I++[.v (.int .i64 (min e f))]) g,.J K x]) o k i;have n0:=qn (Y:=.cells [.J (I++[.v (.int .i64 (min e f))]) g,.J K x]) F k i;have n1:=ξ k8 r (.cells [.J (I++[.v (.int .i64 (min e f))]) g,.J K x]);clear i aG qX nt o F A l4;generalize k8.set r _=a56 at*;refine dJ θ (by simp[aY,σ]) λa57 a61 N=>?_;refine aa ?_;refine Hw (n0.mono N.sub) (l9.mono N.sub) (λn2 k5 n3 n4 V W O=>B _ _ _ _ W V O.symm) l7 (by simp[aY,σ]) Μ Μ λn5 a62 F o n9 a00=>?_;have Q:=a00 _ _ (N.sub _ _ n1);have aG:=χ Q;refine aa ?_;refine⟨a+1,⟨δ,g,n5,?_,?_,?_,λn2 k5 n3 n4 V W O=>n9 _ _ _ _ W V O.symm⟩,rfl,δ⟩
     .rw[k6,k7]
     .rw[k6];exact qn o k Q
     .rw[k7];exact qn F k Q
    .obtain rfl:a=α b:=δ;have a63:=χ (o.sub _ _ aL);refine aa ?_;refine iM ?_;exact⟨π l3 o.sub,S,x,by grind⟩
   .rw[if_neg cl]at p;refine aa ?_;refine iM ?_;exact⟨.nil,.nil,by rw[<-p];rfl⟩
def jd(a:ao)(b c d:Own)(k:α a.sum=32):(ab a b c d).length=37/\aM η 2 ((ab a b c d).drop 32)=eU a.aT a.aS b c/\aM ι 1 ((ab a b c d).drop 34)=.v (.int .i64 a.live)/\aM ι 1 ((ab a b c d).drop 35)=.v (.int .i64 a.size)/\aM ι 1 ((ab a b c d).drop 36)=.J (ad a.key) d/\aM η 37 (ab a b c d)=.agg (ab a b c d):=by have h:=aP (N:=b) (e6:=c) (h6:=d) k;refine⟨h.len,by rw[h.d32];rfl,by rw[h.d34];rfl,by rw[h.d35];rfl,by rw[h.d36];rfl,?_⟩;show R.agg ((ab a b c d).take 37)= _;rw[h.t37]
theorem Hz(a:bY)(S V:ύ)(l m:Own)(y:U)(Z:aB cY a.rows S)(j9:aB bB a.kids V)(a69:α a.rows<=4)(a71:α a.kids<=4)
  (k4:∀o∈a.rows,1<=α o.1/\α o.1<=8) (l8:∀c∈a.kids,c.hL/\α c.sum=32/\c.cC) (a03:(eJ a).size<=1048576) (a04:a.kind=2->a.rows≠[]) (a05:a.kind=3->a.kids≠[]):
  AC γ 82 [gU a (.J S l) (.J V m)] y λo F=>y.sub F/\∃h k H,o=.aJ [.agg (ab (fr a) h k H),.v (.bool η)]:=by
 have a73:=Z.len;have a74:=j9.len;have a81:(cH a).length<=3000:=by have l9:=rf λo r=>yf (k4 o r).2;grind[zj,cH,Β,List.length_cons]
 have fB:=jd az .nil .nil .nil bl;have x:(eb (cH a)).length=32:=oF _;have z:(⟨eb (cH a),(eJ a).aR.1,(eJ a).aR.2,(eJ a).live,(eJ a).size,keyOf a⟩)=fr a:=rfl;have k0:=λa06 y r=>a3f (cH a) a06 y r δ;have n0:=λy=>a2m a S V l m y Z j9 δ δ (λo r=>(k4 o r).2) l8;generalize eb (cH a)=p at*;generalize fr a=G at*;have a83:(br p).cells=p.map aj:=rfl;have a84:(p.map aj).length=32:=by simp[x]
 have a86:putAt (ab az .nil .nil .nil) 0 (p.map aj)=ab (fS p ⟨0,0,([],[])⟩) .nil .nil .nil:=vd bl x;have n:∀c:ao,α c.sum=32->∀h k H,putAt (ab az .nil .nil .nil) 0 (ab c h k H)=ab c h k H:=λc r h k H=>cx bl r;have a88:=n (fS p ⟨0,0,([],[])⟩) x .nil .nil .nil;have P:=λd h k=>jd (fS p d) h k .nil x;have a89:=P ⟨0,0,([],[])⟩ .nil .nil;refine aK hm NB ?_;refine bs λv a07=>?_;refine dd λI a08 a90 a09=>?_;rw[ch];have n1:((y.set v (.cells [.v (.int .u8 a.kind.toNat),.J S l,.J V m])).set I (.cells (ab az .nil .nil .nil))) v=β (.cells [.v (.int .u8 a.kind.toNat),.J S l,.J V m]):=by rw[ο _ _ a09,ξ]
 have n2:=ξ (y.set v (.cells [.v (.int .u8 a.kind.toNat),.J S l,.J V m])) I (.cells (ab az .nil .nil .nil));have n3:y.sub ((y.set v (.cells [.v (.int .u8 a.kind.toNat),.J S l,.J V m])).set I (.cells (ab az .nil .nil .nil))):=μ (μ θ a07) a08;generalize (y.set v _).set I _=a10 at*;refine ie (n0 a10) λa11 w k5=>?_;have k0:=k0 a11 w (nT.aq k5);have k1:=k5.sub;refine bp k0 ?_;clear k0 n0;refine aN λf g=>?_;have k6:=k1 _ _ n1;have c2:=k1 _ _ n2;have a92:v≠f:=by rintro rfl;rw[k6]at g;cases g
 have a94:I≠f:=by rintro rfl;rw[c2]at g;cases g
 have a13:=π n3 k1;clear k1 n1 n2 n3 k5;refine aa ?_;refine cc [1,2,4] (λb:Nat=>[(5,.v (.int .i64 (b)))]) (λb F=>b<=α a.rows/\w.sub F/\(0<=((a.rows.take b).foldl dW ⟨0,α a.rows,([],[])⟩).live/\((a.rows.take b).foldl dW ⟨0,α a.rows,([],[])⟩).live<=b/\((a.rows.take b).foldl dW ⟨0,α a.rows,([],[])⟩).aR.1.length<=8/\((a.rows.take b).foldl dW ⟨0,α a.rows,([],[])⟩).aR.2.length<=8)/\
   ∃h k,F f=β (.cells (ab (fS p ⟨((a.rows.take b).foldl dW ⟨0,α a.rows,([],[])⟩).live,b,((a.rows.take b).foldl dW ⟨0,α a.rows,([],[])⟩).aR⟩) h k .nil))) (λb=>α a.rows - b) 0 ⟨⟨a7N _,μ (μ θ g) g,ς,.nil,.nil,ξ _ _ _⟩,aO⟩ ?_
 rintro b k7⟨a14,i,⟨a95,a96,a15,a16⟩,h,k,aL⟩a18;have K:=λr=>eX (a:=a.rows) (b:=([],ι)) (e:=b) r;have C:=λr=>congrArg (List.foldl dW ⟨0,α a.rows,([],[])⟩) (K r);generalize k2:(a.rows.take b).foldl dW ⟨0,α a.rows,([],[])⟩=d at*;have n4:=κ (i _ _ k6);have M:=κ aL;have N:=P ⟨d.live,b,d.aR⟩ h k;have n5:putAt (ab (fS p ⟨d.live,b,d.aR⟩) h k .nil) 35 [.v (.int .i64 ((b)+1))]=ab (fS p ⟨d.live,(b)+1,d.aR⟩) h k .nil:=sW x;have q:=χ aL
 dsimp only at N
 refine aa ?_;refine aF (λO=>?_) λO=>?_
 .have A:b<α a.rows:=δ;have Q:a.rows[b]?=β (a.rows.getD b ([],ι)):=by simp_all
  obtain⟨_,j,W,rfl⟩:=Z.get Q;have k3:=k4 _ (a7r Q);have C:=C A;rw[a9g,k2]at C;generalize a.rows.getD b ([],ι)=o at*;have n9:eo 2 S[b]?=β (.bS [.J (ad o.1) W,.v (.bool o.2)]):=by rw[j];rfl
  obtain⟨o,a19⟩:=o
  dsimp only at k3 n9
  have k8:=P ⟨d.live,(b)+1,d.aR⟩ h k
  dsimp only at k8
  cases a19 with
  |false=>
   refine aa ?_;have s:(a.rows.take (b+1)).foldl dW ⟨0,α a.rows,([],[])⟩=d:=by rw[C];rfl
   refine⟨b+1,⟨A,?_,h,k,?_⟩,rfl,δ⟩;grind
   .rw[s];push_cast;rfl
  |true=>
   have a27:putAt (ab (fS p ⟨d.live,(b)+1,d.aR⟩) h k .nil) 34 [.v (.int .i64 (d.live+1))]=ab (fS p ⟨d.live+1,(b)+1,d.aR⟩) h k .nil:=sV x;have e:=P ⟨d.live+1,(b)+1,d.aR⟩ h k
   dsimp only at e
   refine aa ?_;generalize t:k7.set f _=u;have k9:u f=β (.cells (ab (fS p ⟨d.live+1,(b)+1,d.aR⟩) h k .nil)):=by subst t;exact ξ _ _ _
   have l0:w.sub u:=by subst t;exact μ i g
   clear t q M;refine ah (Hy d.aR (o,o) h k W W u δ (by dsimp only;omega)) ?_;rintro _ a29⟨X,D,E,rfl⟩;have l1:=X _ _ k9;have q:=χ l1;have a30:cR d.aR (gy o)=cR d.aR (o,o):=by unfold gy;rw[if_pos k3]
   have a34:putAt (ab (fS p ⟨d.live+1,(b)+1,d.aR⟩) h k .nil) 32 [.J (ad (cR d.aR (o,o)).1) D,.J (ad (cR d.aR (o,o)).2) E]=ab (fS p ⟨d.live+1,(b)+1,cR d.aR (o,o)⟩) D E .nil:=yh x;have a36:=oI d.aR (o,o) 8 a15 a16 k3.2 k3.2;refine aa ?_;have s:(a.rows.take (b+1)).foldl dW ⟨0,α a.rows,([],[])⟩=⟨d.live+1,d.size,cR d.aR (o,o)⟩:=by rw[C];show dW d (o,η)= _;rw[dW,if_pos rfl,a30]
   refine⟨b+1,⟨A,π l0 X,?_,D,E,?_⟩,rfl,δ⟩;grind
   .rw[s];push_cast;rfl
 obtain rfl:b=α a.rows:=δ;rw[a7K]at k2;have a38:d.size=α a.rows:=by rw[<-k2,yz]
 have a42:(⟨d.live,α a.rows,d.aR⟩)=d:=by rw[<-a38]
 rw[a42]at aL;clear C K O M N n5 q n4;refine cc [1,2,4] (λb:Nat=>[(6,.v (.int .i64 (b)))]) (λb F=>b<=α a.kids/\w.sub F/\(0<=((a.kids.take b).foldl eD d).live/\((a.kids.take b).foldl eD d).live<=4+b*1048576/\0<=((a.kids.take b).foldl eD d).size/\((a.kids.take b).foldl eD d).size<=4+b*1048576/\((a.kids.take b).foldl eD d).aR.1.length<=8/\((a.kids.take b).foldl eD d).aR.2.length<=8)/\
   ∃h k,F f=β (.cells (ab (fS p ((a.kids.take b).foldl eD d)) h k .nil))) (λb=>α a.kids - b) 0 ⟨⟨a7N _,i,Μ,h,k,aL⟩,aO⟩ ?_
 clear aL i;rintro b k7⟨a14,i,⟨a97,a98,a99,b00,a43,a47⟩,h,k,aL⟩a18;have K:=λr=>eX (a:=a.kids) (b:=az) (e:=b) r;have C:=λr=>congrArg (List.foldl eD d) (K r);generalize l2:(a.kids.take b).foldl eD d=T at*;have n4:=κ (i _ _ k6);have M:=κ aL;have N:=P T h k;have q:=χ aL
 dsimp only at N
 refine aa ?_;refine aF (λO=>?_) λO=>?_
 .have A:b<α a.kids:=δ;have Q:a.kids[b]?=β (a.kids.getD b az):=by simp_all
  obtain⟨_,j,l3,a48,D,E,L,rfl⟩:=j9.get Q;obtain⟨a52,_,_⟩:=l8 _ (a7r Q);obtain⟨l9,a56,b01,b02,b03,b04,b05⟩:=a52;have C:=C A;rw[a9g,l2]at C;generalize a.kids.getD b az=c at*;have l4:=jd c D E L l3;have n9:eo 37 V[b]?=β (.bS (ab c D E L)):=by rw[j];exact hC l4.1
  have n5:putAt (ab (fS p T) h k .nil) 35 [.v (.int .i64 (T.size+c.size))]=ab (fS p ⟨T.live,T.size+c.size,T.aR⟩) h k .nil:=sW x;have a27:putAt (ab (fS p ⟨T.live,T.size+c.size,T.aR⟩) h k .nil) 34 [.v (.int .i64 (T.live+c.live))]=ab (fS p ⟨T.live+c.live,T.size+c.size,T.aR⟩) h k .nil:=sV x;have k8:=P ⟨T.live,T.size+c.size,T.aR⟩ h k;have e:=P ⟨T.live+c.live,T.size+c.size,T.aR⟩ h k
  dsimp only at k8 e
  generalize ab c D E L=a57 at*;clear j;refine aa ?_;generalize t:k7.set f _=u;have k9:u f=β (.cells (ab (fS p ⟨T.live+c.live,T.size+c.size,T.aR⟩) h k .nil)):=by subst t;exact ξ _ _ _
  have l0:w.sub u:=by subst t;exact μ i g
  clear t q M;refine ah (Hy T.aR (c.aT,c.aS) h k D E u δ (by dsimp only;omega)) ?_;rintro _ a29⟨X,l5,l6,rfl⟩;have l1:=X _ _ k9;have q:=χ l1;have a34:putAt (ab (fS p ⟨T.live+c.live,T.size+c.size,T.aR⟩) h k .nil) 32 [.J (ad (cR T.aR (c.aT,c.aS)).1) l5,.J (ad (cR T.aR (c.aT,c.aS)).2) l6]=ab (fS p ⟨T.live+c.live,T.size+c.size,cR T.aR (c.aT,c.aS)⟩) l5 l6 .nil:=yh x;have a36:=oI T.aR (c.aT,c.aS) 8 a43 a47 l9 a56;refine aa ?_;have s:(a.kids.take (b+1)).foldl eD d=⟨T.live+c.live,T.size+c.size,cR T.aR (c.aT,c.aS)⟩:=by rw[C];rfl
  refine⟨b+1,⟨A,π l0 X,?_,l5,l6,?_⟩,rfl,δ⟩;grind
  .rw[s]
 obtain rfl:b=α a.kids:=δ;rw[a7K]at l2;have a61:eJ a=T:=by unfold eJ;rw[k2,l2]
 rw[a61]at a03 z;have b06:=χ (i _ _ c2);have b07:∀F:U,w.sub F->y.sub F:=λF r=>π a13 r;clear C K O;have B:α G.sum=32:=by rw[<-z];exact x
 have l7:G.size=T.size:=by rw[<-z]
 by_cases g2:a.kind=2
 .have bs:(a.kind.toNat:Int)=2:=by rw[g2];rfl
  obtain⟨o,b08,a00⟩:=a9u (a04 g2);obtain⟨_,j,W,rfl⟩:=Z.get (i:=0) (by rw[a00];rfl);have Y:keyOf a=o.1:=by unfold keyOf;rw[if_pos g2,a00];rfl
  rw[Y]at z;have a62:cz 2 (.J S l) (.v (.int .i64 0))=β (.bS [.J (ad o.1) W,.v (.bool o.2)]):=by show cz 2 _ (.v (.int .i64 ((0:Nat))))= _;rw[ow,j];rfl
  have a63:putAt (ab (fS p T) h k .nil) 36 [.J (ad o.1) W]=ab G h k W:=by rw[<-z];exact sX x
  have e:=jd G h k W B;have a01:=n G B h k W;rw[l7]at e;generalize o.1=a65 at*;clear P n z;refine iM ?_;refine iM ?_;grind
 have bs:¬(a.kind.toNat:Int)=2:=λs=>g2 (a8j.1 (by grind));refine iM ?_;by_cases g3:a.kind=3
 .have hd:(a.kind.toNat:Int)=3:=by rw[g3];rfl
  obtain⟨c,b09,a02⟩:=a9u (a05 g3);obtain⟨_,j,l3,a48,D,E,L,rfl⟩:=j9.get (i:=0) (by rw[a02];rfl);have Y:keyOf a=c.key:=by unfold keyOf;rw[if_neg g2,if_pos g3,a02];rfl
  rw[Y]at z;have l4:=jd c D E L l3;have a62:cz 37 (.J V m) (.v (.int .i64 0))=β (.bS (ab c D E L)):=by show cz 37 _ (.v (.int .i64 ((0:Nat))))= _;rw[ow,j];exact hC l4.1
  have a63:putAt (ab (fS p T) h k .nil) 36 [.J (ad c.key) L]=ab G h k L:=by rw[<-z];exact sX x
  have e:=jd G h k L B;have a01:=n G B h k L;rw[l7]at e;generalize ab c D E L=a57 at*;generalize c.key=a65 at*;clear P n z;refine iM ?_;refine iM ?_;grind
 .have hd:¬(a.kind.toNat:Int)=3:=λs=>g3 (a8j.1 (by grind));have Y:keyOf a=[]:=by unfold keyOf;simp_all
  rw[Y]at z;have a68:fS p T=G:=z;rw[a68]at M N q;have e:=jd G h k .nil B;have a01:=n G B h k .nil;rw[l7]at e;clear P n z;refine iM ?_;refine iM ?_;grind
def a4V:∀(a:List (a1.T e)),eh (q3 a)=a.flatMap (a1.bc e)
 |[]=>rfl
 |[b]=>by simp[q3,eh]
 |c::d::h=>rfl
theorem a4W:∀(a:Nat)(b:a1.T a),eh (w9 a b)=a1.bc a b
 |0,b=>by
  obtain⟨d,rfl⟩:=a1.ir b;show eh (if a1.len (a1.leaf d)=0 then ζ else β ⟨0,a1.leaf d⟩)= _;by_cases c:a1.len (a1.leaf d)=0
  .rw[if_pos c];rw[a1.hM]at c;rw[a1.jt,a7t c];rfl
  .rw[if_neg c];rfl
 |a+1,b=>by
  obtain⟨h,rfl⟩:=a1.gA b;show eh (match a1.kids (a1.node h)with
   |[k]=>β ⟨a,k⟩
   |_=>β ⟨a+1,a1.node h⟩)= _
  grind[a1.fs,a1.fU,eh]
def a4X(d:1<=e)(h:e<=8)(k:bQ e q)(o:hq e b8)(p:q∉eh b8):(eh (kQ b8 q)).Perm (q::eh b8):=by
 match b8 with
 |none=>show(a1.bc 0 (a1.leaf [q])).Perm _;rw[a1.jt];rfl
 |some ⟨a,b8⟩=>have b:GT e a b8:=o;have c:q∉a1.bc a b8:=p;simp only[kQ];rw[if_neg c,a4V];rw[(a1.rm (gi d h) k a b8 b.wf b.ec b.ok c).1];unfold a1.dX;exact a9Q.trans (.cons _ (List.Perm.of_eq a8h))
def a4Y(d:1<=e)(h:e<=8)(k:bQ e q)(o:hq e b8)(c:q∈eh b8):eh (jI b8 q)=(eh b8).filter λp=>decide (p≠q):=by
 match b8 with
 |none=>cases c
 |some ⟨a,b8⟩=>have b:GT e a b8:=o;have r:q∈a1.bc a b8:=c;simp only[jI];rw[if_pos r,a4W];exact(a1.q2 (gi d h) k a b8 b.wf b.ec b.ok).1
theorem HA(a:Ω)(b:List Ω):(hv a b).Perm (a::b):=by grind[List.takeWhile_append_dropWhile,decide,c5,hv,List.perm_middle]
theorem HB{b:Ω}:∀ {a:List Ω},a.Pairwise (λk o=>c5 k<c5 o)->(∀c∈a,c5 b≠c5 c)->(hv b a).Pairwise (λk o=>c5 k<c5 o)
 |[],_,_=>by simp[hv]
 |c::a,r,x=>by
  obtain⟨z,C⟩:=a7X.1 r;have D:=x c ς;by_cases y:c5 b<c5 c
  .have p:hv b (c::a)=b::c::a:=by simp[hv,y]
   rw[p];refine a7X.2 ⟨λh d=>?_,r⟩;grind
  .have p:hv b (c::a)=c::hv b a:=by simp[hv,y]
   rw[p];refine a7X.2 ⟨λh d=>?_,HB C λh d=>x h (by simp[d])⟩;rcases a7J.1 ((HA b a).mem_iff.1 d)with rfl|d
   .omega
   .exact z h d
theorem HC:∀(b a:List Ω),(a++b).Pairwise (λh k=>c5 h≠c5 k)->a.Pairwise (λh k=>c5 h<c5 k)->(b.foldl (λo c=>hv c o) a).Perm (a++b)/\(b.foldl (λo c=>hv c o) a).Pairwise (λh k=>c5 h<c5 k)
 |[],a,_,d=>by simpa using d
 |c::b,a,d,p=>by
  have r:=((HA c a).append_right b).trans a9Q.symm;obtain⟨D,E,x⟩:=a8v.1 d;obtain⟨F,G⟩:=HC b (hv c a) (r.symm.pairwise d λd=>d.symm) (HB p λy z C=>x y z c ς C.symm);grind
theorem a4Z(c:O.Pairwise (λa b=>c5 a<c5 b))(p:∀d∈O,c5 q≠c5 d):(rM (O++[q])).Perm (q::O)/\(rM (O++[q])).Pairwise (λa b=>c5 a<c5 b):=by
 have h:([]++(O++[q])).Pairwise (λa b=>c5 a≠c5 b):=by rw[a7H];refine a8v.2 ⟨c.imp λc=>by omega,ς,λa r b x=>?_⟩;grind
 obtain⟨k,o⟩:=HC (O++[q]) [] h .nil;exact⟨k.trans (List.perm_append_singleton _ _),o⟩
def eA.put{d:Nat}{a:aX}(b:eA d a)(G:d<900){c:Ω}(h:bQ (α a.aD+1) c)(o:∀y∈a.rows,c5 y≠c5 c):eA (d+1) (a.put c)/\(da (α a.aD+1) c a.bf 0).2=η/\c∉eh a.bm:=by
 have L:=b.c;have p:c∉a.rows:=λhm=>o c hm rfl;have r:(da (α a.aD+1) c a.bf 0).2=true:=by
  cases z:(da (α a.aD+1) c a.bf 0).2 with
  |true=>rfl
  |false=>exact absurd (b.fl.mem_iff.1 (A0 z)) p
 have x:c∉eh a.bm:=λhm=>p (b.nZ.mem_iff.1 hm);obtain⟨k,C⟩:=a4Z b.ec λD E F=>o D E F.symm;have P:=b.nZ.length_eq;have S:=b.dP;refine⟨⟨b.right,b.dC.ins h,?_,(a4J δ δ h b.go δ).1,?_,C,?_⟩,r,x⟩
 .exact(zZ h b.dC.fu r).trans ((b.fl.cons c).trans k.symm)
 .exact(a4X δ δ h b.go x).trans ((b.nZ.cons c).trans k.symm)
 .show(rM (a.rows++[c])).length<=d+1;rw[k.length_eq,a7s];omega
theorem a5a{b:List Ω}(d:O.Pairwise (·≠ ·))(a:O.Perm (q::b)):b.Perm (O.filter λc=>decide (c≠q)):=by have h:=(a.filter λc=>decide (c≠q)).symm;have k:(q::b).Pairwise (·≠ ·):=a.pairwise d λa=>a.symm;obtain⟨o,_⟩:=a7X.1 k;rw[aap,if_neg ς]at h;grind[decide,List.filter_eq_self,decide_eq_true]
def eA.nW(a:eA e h5):h5.rows.Pairwise (·≠ ·):=a.ec.imp λa b=>by subst b;omega
theorem eA.del{k:Nat}{b:aX}(a:eA k b){c:Ω}(d:c∈b.rows):eA k (b.del c)/\(cp (α b.aD+1) c b.bf 0).2=η/\c∈eh b.bm:=by
 have z:=a.c;have h:=a.row d;have o:(cp (α b.aD+1) c b.bf 0).2=true:=by
  cases r:(cp (α b.aD+1) c b.bf 0).2 with
  |true=>rfl
  |false=>exact absurd (a.fl.mem_iff.2 d) (A1 h.len a.dC.fu a.dC.w1 r)
 have p:=a.nZ.mem_iff.2 d;have x:=a3W a.dC o;refine⟨⟨a.right,a.dC.del,?_,(a4O δ δ h a.go).1,?_,a.ec.filter _,a8m (aas _ _) a.dP⟩,o,p⟩
 .exact a5a a.nW (a.fl.symm.trans x)
 .show(eh (jI b.bm c)).Perm (b.rows.filter λy=>decide (y≠c));rw[a4Y δ δ h a.go p];exact a.nZ.filter _
def eA.none(a:eA e h5)(d:α q=α h5.aD+1)(b:q∉h5.rows):(cp (α h5.aD+1) q h5.bf 0).2=false:=by
 cases c:(cp (α h5.aD+1) q h5.bf 0).2 with
 |false=>rfl
 |true=>exact absurd (a.fl.mem_iff.1 ((vZ c).mem_iff.2 ς)) b
variable{h2:dt}
theorem HD(a:fb h2=η)(b:h2.kind=1):fb ⟨1,h2.table,h2.aD,[]⟩=true:=by unfold fb at a|-;simp_all
variable{e4:List ϊ}
def HE(a:fb ⟨1,w,e4,[]⟩=η):eA e ⟨w,e4,[],.nil,ζ⟩:=⟨a,lS.nil,.refl _,trivial,.refl _,.nil,a7N _⟩
theorem add_eq(a:ej e a7)(c:e<=1000)(d:fb ⟨1,w,e4,[]⟩=η):
  kk (a7.map aX.bI) ⟨w,e4,az,az⟩=if ct a7 w<α a7 then .error 4 else if 7<α a7 then .error 10 else .ok ((a7.take (jJ a7 w)++⟨w,e4,[],.nil,ζ⟩::a7.drop (jJ a7 w)).map aX.bI):=by
 have h:gd ⟨w,e4,az,az⟩=true:=(HE d).bI δ;unfold kk;rw[a.cat c,h,Bool.and_self,if_pos rfl]
 dsimp only
 rw[Ap a,a7w];by_cases b:ct a7 w<α a7;simp_all
 .rw[if_neg (by simpa using b),if_neg b,a4R δ];by_cases c2:7<α a7
  .grind
  .rw[if_neg δ,if_neg c2,a8l,a7C,aaF,aa8];rfl
theorem HF(a:ej e a7)(c:e<=1000):cK (a7.map aX.bI) w=if ct a7 w<α a7 then .ok ((a7.eraseIdx (ct a7 w)).map aX.bI)else .error 3:=by
 unfold cK;rw[a.cat c,if_pos rfl,Ap a];by_cases b:ct a7 w<α a7
 .rw[if_pos (decide_eq_true b),if_pos b,Hs a b,a9z,a8l,aaF,aa8]
 grind
theorem pO(a:ej e a7)(b:e<=1000)(c:eA i h5)(d:i<=1000)(h:ct a7 h5.name<α a7):kl (a7.map aX.bI) h5.bI=.ok ((a7.set (ct a7 h5.name) h5).map aX.bI):=by unfold kl;rw[a.cat b,c.bI d,Bool.and_self,if_pos rfl];show(if gJ (a7.map aX.bI) h5.name=η then _ else _)= _;rw[Ap a,if_pos (decide_eq_true h)];grind[aX.bI,set,db,Hs,List.map_set]
def ej.Ar(c:∀d∈a7,eA e d)(h:cJ (a7.map aX.bI)=η):ej e a7:=by obtain⟨_,a,b⟩:=p8.1 h;rw[a9N]at a;rw[a7w]at b;exact⟨c,a,b⟩
def ej.le{b c:Nat}{d:List aX}(a:ej b d)(h:b<=c):ej c d:=⟨λk o=>(a.ok k o).le h,a.ec,a.dP⟩
theorem ej.set{b:Nat}{a:List aX}(d:ej b a)(x:b<1000){c:aX}(h:eA (b+1) c)(k:ct a c.name<α a):ej (b+1) (a.set (ct a c.name) c):=
 ej.Ar (λo p=>by
  rcases a9y p with r|rfl
  .exact(d.ok o r).le δ
  .exact h) (Hd (pO d δ h δ k))
def As(a:fb h2=η)(h:h2.kind≠1)(k:h2.kind≠2):(h2.kind=3\/h2.kind=4):=by
 have a:=a;simp only[fb,Υ]at a;have a:=a.2;have c:∀d:UInt8,h2.kind.toNat=d.toNat->h2.kind=d:=λd b=>a8j.1 b;split at a
 .rename_i b;exact absurd (c 1 b) h
 split at a
 .rename_i b;exact absurd (c 2 b) k
 split at a
 .rename_i b;exact b.imp (c 3) (c 4)
 .cases a
theorem a5b(d:ej e a7)(y:e<900)(o:dk h2.row):ej (e+1) (hx a7 h2).2:=by
 have b:=d.le (show e<=e+1 by omega);unfold hx;by_cases p:fb h2=ι
 .rw[if_pos p];exact b
 rw[if_neg p];have z:fb h2=true:=by simp_all
 by_cases c1:h2.kind=1
 .rw[if_pos c1];have r:=HD z c1;have h:=add_eq d δ r;by_cases c2:ct a7 h2.table<α a7
  .rw[if_pos c2];exact b
  rw[if_neg c2]at h|-;by_cases aE:7<α a7
  .rw[if_pos aE];exact b
  rw[if_neg aE]at h|-;refine ej.Ar (λc a=>?_) (Hg h);simp only[a7z,a7J]at a;rcases a with a|rfl|a
  .exact b.ok c (a7A a)
  .exact HE r
  .exact b.ok c (a7U a)
 rw[if_neg c1];by_cases c2:α a7<=ct a7 h2.table
 .rw[if_pos c2];exact b
 rw[if_neg c2];have k:ct a7 h2.table<α a7:=δ;by_cases aE:h2.kind=2
 .rw[if_pos aE];have h:=HF (w:=h2.table) d δ;rw[if_pos k]at h;exact ej.Ar (λc a=>b.ok c (aaj a)) (Hc (d.cat δ) h)
 rw[if_neg aE];have a:=d.ok _ (Ao k);have C:=wb k;generalize a7.getD (ct a7 h2.table) default=c at*;by_cases aL:α h2.row≠α c.aD+1
 .rw[if_pos aL];exact b
 rw[if_neg aL];have D:bQ (α c.aD+1) h2.row:=⟨δ,o⟩;rw[<-C]at k|-;by_cases bh:h2.kind=4
 .rw[if_pos bh];by_cases bz:h2.row∈c.rows
  .rw[if_pos bz];exact d.set δ ((a.del bz).1.le δ) k
  .rw[if_neg bz];exact b
 .rw[if_neg bh];by_cases bz:c.rows.any (λx=>decide (c5 x=c5 h2.row))=η
  .rw[if_pos bz];exact b
  .rw[if_neg bz];refine d.set δ (a.put y D λx o E=>bz ?_).1 k;simp_all
def lf(a:Ω):Nat:=(c5 a+9223372036854775808).toNat
theorem Au(a:dk q): -9223372036854775808<=c5 q/\c5 q<9223372036854775808:=by
 unfold c5;rw[a8n];cases b:q[0]? with
 |none=>simp
 |some c=>exact a c (a7r b)
theorem Av(a:dk q):IntKind.u64.wrap (IntKind.u64.wrap (c5 q)+9223372036854775808)=(lf q:Int)/\(lf q:Int)=c5 q+9223372036854775808:=by grind[Au,lf,c5,Int.toNat_of_nonneg,kB]
theorem HG(c d:Own)(a:Ω)(b:U)(k:oU a)(o:dk a):AC γ 178 [ga.V c,.J (ad a) d] b λp r=>r=b/\p=.aJ [iy 0 (lf a),.v (.bool η)]:=by
 obtain⟨x,y⟩:=Av o;obtain⟨C,D⟩:=k;have E:=bN (q:=a);have F:=mJ (q:=a) δ d;have z:ga.ok (α a)=true:=by rw[rA];simp_all
 have h:=λb=>FL ga c (α a) b δ ς;rw[z]at h;unfold c5 at x;clear y;refine aK hm Qr ?_;refine bs λG L=>?_;refine dd λP S T V=>?_;refine bp (h _) ?_;rfl
theorem a5c(r x y:Own)(a b:Ω)(c:U)(F:oU a)(l:α b=α a)(z:dk a)(C:dk b):AC γ 118 [ga.V r,.J (ad a) x,.J (ad b) y] c λk o=>o=c/\k=.v (.bool (decide (c5 a<c5 b))):=by
 have T:oU b:=by unfold oU at*;omega
 have fl:=(Av z).2;have V:=(Av C).2;have G:=λc=>HG r x a c F z;have L:=λc=>HG r y b c T C;obtain⟨m,n⟩:=F;have q:=bN (q:=a);have s:=bN (q:=b);have W:=mJ (q:=a) δ x;have e:=mJ (q:=b) δ y;have P:a.getD 0 0=c5 a:=rfl;have S:b.getD 0 0=c5 b:=rfl;rw[P]at W;rw[S]at e;have t:lf a<lf b↔c5 a<c5 b:=δ;have u:lf a=lf b↔c5 a=c5 b:=δ;have cj:lf a<18446744073709551616/\lf b<18446744073709551616:=by have G:=Au z;have L:=Au C;omega
 clear P S fl V;generalize lf a=d at*;generalize lf b=h at*;generalize c5 a=D at*;generalize c5 b=f at*;have E:∀p:Nat,p<18446744073709551616->dp [(2,cb.int IntKind.u64)] [R.v (Value.int IntKind.u64 0),R.v (Value.int IntKind.u64 (p))]:=λp v=>by
  simp[dp,cb.u3]
 have w:=E d cj.1;have A:=E h cj.2;clear E;have g:peq (R.agg [R.v (Value.int IntKind.u64 0),R.v (Value.int IntKind.u64 (d))]) (R.agg [R.v (Value.int IntKind.u64 0),R.v (Value.int IntKind.u64 (h))])=decide (d=h):=by grind[peq]
 refine aK hm OJ ?_;refine bs λB H=>?_;refine bp (G _) ?_;refine dd λI K p M=>?_;refine bp (L _) ?_;refine hd λN O Q X Y Z=>?_;have i:∀c,AC γ 179 [iy 0 d,iy 0 h] c λk o=>o=c/\k=.v (.bool (decide (D<f))):=λc=>(a2n 0 d 0 h c).mono λk o j=>⟨j.1,by simp_all⟩;rw[g];refine aF (λD=>?_) λD=>?_
 .refine bp (i _) ?_;trivial
 .trivial
theorem a5d(c:∀a<e,¬c5 q<c5 (O.getD a []))(b:e<=α O)(d:e<α O->c5 q<c5 (O.getD e [])):hv q O=O.take e++q::O.drop e:=by
 induction O generalizing e with
 |nil=>simp at b;subst b;rfl
 |cons h O ih=>
  cases e with
  |zero=>grind[c5,hv,List.takeWhile_cons,List.dropWhile_cons]
  |succ e=>have o:¬c5 q<c5 h:=c 0 δ;have:=ih (λa p=>c (a+1) δ) (by simpa using b) (λk=>d (by simpa using k));simp_all [hv]
theorem a5e(d:List Ω)(m:ύ)(w z:Own)(F:Nat)(C:U)(g:aB isRow d m)(n:∀G∈d,bQ F G)(k1:1<=F)(k2:F<=8)(n1:α d<=100000):
  AC γ 64 [ga.V z,.J m w] C λG L=>C.sub L/\∃A k3,aB isRow (rM d) A/\G=.J A k3:=by
 have n2:=g.len;have k4:∀C,AC γ 117 [ga.V z,.v (.int .i64 (F:Int))] C λG L=>L=C/\G=.v (.bool η):=λC=>by
  have:=FL ga z F C δ ς;rw[rA,decide_eq_true ⟨k1,k2⟩]at this;exact this
 have n3:(ga.V z).cells=[.v (.int .u8 0),.v (.int .i64 0),.J (ad []) z]:=rfl;refine aK hm N1 ?_;refine bs λq k5=>?_;have B:∀S,(C.set q (.cells (ga.V z).cells)).sub S->S.read q=β [.v (.int .u8 0),.v (.int .i64 0),.J (ad []) z]:=λS k=>κ (k _ _ (ξ _ _ _));have k6:=μ (Y:=.cells (ga.V z).cells) (θ) k5;generalize C.set q _=H at*;refine gv [1,2,5] (λh:Nat=>[(6,.v (.int .i64 h))]) (λh=>h<=α d) (λh=>α d - h) 0 δ aO ?_
 .rintro h I K;have k7:=B H θ;refine aa ?_;refine aF (λs=>?_) λs=>?_
  .have T:d[h]?=β (d.getD h []):=by simp_all
   have M:d[0]?=β (d.getD 0 []):=by grind
   obtain⟨_,k8,i,rfl⟩:=g.get T;obtain⟨_,k9,D,rfl⟩:=g.get M;have l0:=(n _ (a7r T)).len;have n4:=(n _ (a7r M)).len;have n5:=bN (q:=d.getD h []);have n9:=bN (q:=d.getD 0 []);generalize d.getD h []=r at*;generalize d.getD 0 []=b at*;refine aa ?_;have a00:cz 1 (.J m w) (.v (.int .i64 0))=β (.bS [.J (ad b) D]):=by show cz 1 _ (.v (.int .i64 ((0:Nat))))= _;rw[ow,k9];rfl
   refine bp (k4 _) ?_;exact⟨h+1,δ,rfl,δ⟩
  .refine cc [1,2] (λb:Nat×ύ×Own=>[(7,.v (.int .i64 b.1)),(5,.J b.2.1 b.2.2)]) (λb L=>H.sub L/\b.1<=α d/\∃c,(d.take b.1).foldl (λc r=>hv r c) []=c/\α c=b.1/\(∀G∈c,bQ F G)/\aB isRow c b.2.1) (λb=>α d - b.1) (0,[],.nil) ⟨⟨θ,δ,[],rfl,rfl,ς,trivial⟩,aO⟩ ?_;rintro⟨h,E,bH⟩ S ⟨j,I,c,V,l1,N,x⟩ K
   dsimp only at I V l1 x|-
   have a01:=x.len;refine aa ?_;refine aF (λs=>?_) λs=>?_
   .have T:d[h]?=β (d.getD h []):=by simp_all
    obtain⟨_,k8,i,rfl⟩:=g.get T;have O:=n _ (a7r T);have l0:=O.len;have l2:=O.kP;have Q:=eX (a:=d) (b:=[]) (e:=h) δ;generalize d.getD h []=r at*;have el:∀a,a<α c->∃D,E[a]?=β (.J (ad (c.getD a [])) D):=λa W=>by
     obtain⟨_,o,D,rfl⟩:=x.get (i:=a) (x:=c.getD a []) (by simp_all);exact⟨D,o⟩
    have l3:∀a,a<α c->(c.getD a []).length=F:=λa W=>(N _ (by simp_all)).len;have l4:∀a,a<α c->dk (c.getD a []):=λa W=>(N _ (by simp_all)).kP;refine cc [1,2,5,7] (λb:Nat×ύ×Own=>[(9,.v (.int .i64 b.1)),(8,.J b.2.1 b.2.2)]) (λb L=>b.1<=α c/\(∀X<b.1,¬c5 r<c5 (c.getD X []))/\aB isRow (c.take b.1) b.2.1/\bj S L 1 b.2.1 b.2.2) (λb=>α c - b.1) (0,[],.nil) ⟨⟨δ,λX k=>by simp at k,trivial,Τ θ⟩,aO⟩ ?_;rintro⟨a,l,on⟩ l5 ⟨W,Y,y,e⟩ K
    dsimp only at W Y y e|-
    have k7:=B l5 (π j e.sub);have a02:α l=a:=by rw[y.len,a7q];omega
    have Z:¬(a<α c/\¬c5 r<c5 (c.getD a []))->hv r c=c.take a++r::c.drop a:=λk=>a5d Y W λl6=>Classical.not_not.1 λP=>k ⟨l6,P⟩;by_cases kb:(a)<(h:Int)
    .obtain⟨D,a03⟩:=el a δ;have a04:=l3 a δ;have l7:=l4 a δ;have l8:=eX (a:=c) (b:=[]) (e:=a) δ;generalize a05:c.getD a []=b at*;refine aa ?_;refine bp (a5c z i D r b _ (by unfold oU;omega) δ l2 l7) ?_;refine aF (λc2=>?_) λc2=>?_
     .refine jT (λj9 f=>?_);refine ep (e.mono (μ θ f)) (y.cells λ_ _=>φ) (λo p=>by rw[a7I]at p;subst p;rfl) Μ Μ λt k0 P=>?_;refine aa ?_;refine⟨(a+1,l++[.J (ad b) D],t),⟨by simp only;omega,?_,?_,P⟩,⟨rfl,rfl⟩,by simp only;omega⟩;grind
      .simp only[l8];exact y.snoc ⟨_,rfl⟩
     .have o:=Z δ;refine jT (λj9 f=>?_);refine ep (e.mono (μ θ f)) (y.cells λ_ _=>φ) (λo p=>by rw[a7I]at p;subst p;rfl) Μ Μ λt k0 P=>?_;have l9:dT 1 (.J E bH) (β (.v (.int .i64 (a)))) ζ=β (.J (E.drop a) .any):=pI δ (x.cells λ_ _=>φ);refine aa ?_;refine ep P (λo p=>by rcases a7z.1 p with k|k;exact y.cells (λ_ _=>φ) o k;rw[a7I]at k;subst k;rfl) ((x.drop a).cells λ_ _=>φ) Μ Μ λu n0 v=>?_;refine aa ?_;refine⟨(h+1,l++[.J (ad r) i]++E.drop a,u),⟨π j v.sub,by simp only;omega,_,rfl,?_,?_,?_⟩,⟨rfl,rfl⟩,by simp only;omega⟩;grind;grind
      .simp only[Q,a9g,V,a7S,a9I,o];rw[aao];exact(y.snoc ⟨_,rfl⟩).append (x.drop a)
    .have o:=Z δ;refine aa ?_;refine jT (λj9 f=>?_);refine ep (e.mono (μ θ f)) (y.cells λ_ _=>φ) (λo p=>by rw[a7I]at p;subst p;rfl) Μ Μ λt k0 P=>?_;have l9:dT 1 (.J E bH) (β (.v (.int .i64 (a)))) ζ=β (.J (E.drop a) .any):=pI δ (x.cells λ_ _=>φ);refine aa ?_;refine ep P (λo p=>by rcases a7z.1 p with k|k;exact y.cells (λ_ _=>φ) o k;rw[a7I]at k;subst k;rfl) ((x.drop a).cells λ_ _=>φ) Μ Μ λu n0 v=>?_;refine aa ?_;refine⟨(h+1,l++[.J (ad r) i]++E.drop a,u),⟨π j v.sub,by simp only;omega,_,rfl,?_,?_,?_⟩,⟨rfl,rfl⟩,by simp only;omega⟩;grind;grind
     .simp only[Q,a9g,V,a7S,a9I,o];rw[aao];exact(y.snoc ⟨_,rfl⟩).append (x.drop a)
   .obtain rfl:h=α d:=δ;rw[a7K]at V;refine⟨π k6 j,E,bH,by rw[rM,V];exact x,rfl⟩
def a5f{a:Nat->Bool}:(ω (e+1)).all a=(a 0&&(ω e).all λb=>a (b+1)):=by rw[ab8,List.all_cons,abz];rfl
theorem HH(b:ϊ):∀(c a:Nat),α b<c+a->lM ⟨b.toArray⟩ c a=(ω (α b - a)).all λk=>nM (a+k) (b.getD (a+k) 0)
 |0,a,o=>by
  rw[show α b - a=0 by omega];rfl
 |c+1,a,o=>by
  have p:(⟨b.toArray⟩:ByteArray).size=α b:=rfl;rw[lM,p];by_cases d:a<α b
  .rw[if_pos d];obtain⟨h,hm⟩:∃h,α b - a=h+1:=⟨α b - a - 1,δ⟩;rw[hm,a5f,a9p];have r:b.getD a 0=b[a]:=by simp[d]
   rw[r];by_cases cr:b[a].toNat<128
   .rw[FD b a d cr]
    dsimp only
    rw[HH b c (a+1) δ,show α b -(a+1)=h by omega];have x:fZ a (b[a].toNat)=nM a b[a]:=by unfold fZ nM;grind
    grind
   grind[decode_high,fZ,Utf8.decode,decide_eq_false,nM]
  simp_all
theorem HI(a:ϊ):nN a=kd a:=by unfold nN kd;rw[HH a (α a+1) 0 δ];grind
theorem a5g(a:e<α e4):lN e4 e=mG e4 e:=by unfold lN mG;rw[HI];congr 2;rw[a9T];simp only[a7E,a8C,a8R,decide_eq_false_iff_not];grind[hm,List.getElem_of_mem,List.length_take,List.getD,List.mem_iff_getElem]
theorem a5h(a:List ϊ):(ω (α a)).all (lN a)=(ω (α a)).all (mG a):=by rw[a9T];grind[List.all_eq_true,a5g]
theorem a5i(a:dt):oS a=fb a:=by
 unfold oS fb z8 nL;rw[HI,a5h];congr 1;by_cases b:a.kind.toNat=1
 .rw[if_pos b,if_pos b,Bool.and_assoc];grind
 rw[if_neg b,if_neg b];by_cases c:a.kind.toNat=2;simp_all;grind
def eH(c:Nat)(d h:U):Prop:=∀a b,a≠c->d a=β b->h a=β b
theorem eH.of{s:U}(a:s.sub f):eH e s f:=λb c _ d=>a b c d
theorem eH.trans(d:eH e f s)(h:eH e s e0):eH e f e0:=λa b c k=>h a b c (d a b c k)
theorem eH.set{a:Nat}{b c:U}{h:bu}(k:eH a b c):eH a b (c.set a h):=λo p d r=>by rw[ο _ _ d];exact k o p d r
def fw(a:ύ)(b:Nat)(d:R)(c:Nat):ύ:=if c<=b then a.take c else(a.take b++d::a.drop b).take (c+1)
def a5j(b:e<i)(a:g[e]?=β b5):fw g i n (e+1)=fw g i n e++[b5]:=by unfold fw;rw[if_pos δ,if_pos δ];obtain⟨c,rfl⟩:=a7u.1 a;simp
theorem a5k(a:g[e]?=β b5):fw g e n (e+1)=fw g e n e++[n]++[b5]:=by unfold fw;obtain⟨b,rfl⟩:=a7u.1 a;rw[if_neg δ,if_pos δ,a7M b];grind
theorem a5l(b:e<i)(a:g[i]?=β b5):fw g e n (i+1)=fw g e n i++[b5]:=by unfold fw;obtain⟨c,rfl⟩:=a7u.1 a;rw[if_neg δ,if_neg δ];have d:(g.take e++n::g.drop e).length=α g+1:=Μ;rw[a8y (show i+1<(g.take e++n::g.drop e).length by omega)];congr 2;grind
def a5m(a:e<=α g):(if e<α g then fw g e n (α g) else fw g e n (α g)++[n])=g.take e++n::g.drop e:=by
 split
 .unfold fw;rw[if_neg δ,Φ Μ]
 .obtain rfl:e=α g:=δ;unfold fw;rw[if_pos δ];simp
def a5n(a:aB (hy f) a7 g)(h:α n.cells=1):aY 1 (fw g e n i):=λc b=>by
 have d:=Hv a;unfold fw at b;split at b
 .exact d c (a7A b)
 .have:=a7A b;rcases a7z.1 this with a|a
  .exact d c (a7A a)
  .rcases a7J.1 a with rfl|a
   .exact h
   .exact d c (a7U a)
theorem a5o:(fw g i n e).length<=e+1:=by unfold fw;grind
theorem a5p:∀a<jJ a7 w,c8 w (a7.getD a default).name=false:=by
 unfold jJ
 induction a7 with
 |nil=>intro a b;simp at b
 |cons d a7 ih=>
  intro a b;rw[a8I]at b;cases c:c8 w d.name with
  |true=>simp[c]at b
  |false=>
   simp only[c,a8i,if_true,a7s]at b;cases a with
   |zero=>trivial
   |succ a=>simp_all
def a5q:jJ a7 w<=α a7:=(List.takeWhile_sublist _).length_le
theorem a5r(a:jJ a7 w<α a7):c8 w (a7.getD (jJ a7 w) default).name=true:=by
 induction a7 with
 |nil=>simp at a
 |cons b a7 ih=>
  unfold jJ at a|-;rw[a8I]at a|-;cases c:c8 w b.name with
  |true=>simp[c]
  |false=>simp_all [if_true,jJ]
theorem a5s(a:List aX)(b:ϊ):(ct a b<α a->qo a b=(ct a b:Int))/\(α a<=ct a b->qo a b= -1):=by simp_all [qo,if_pos,if_neg]
def a5t(a:UInt8)(b:Int):jn BinOp.eql (aj a) (R.v (Value.int IntKind.u8 b))=β (.v (.bool (decide ((a.toNat:Int)=b)))):=by simp only[aj,sm];rfl
theorem a5u(a:g[e]?=β n)(b:e≠i):(g.take (e+1)).eraseIdx i=(g.take e).eraseIdx i++[n]:=by obtain⟨c,rfl⟩:=a7u.1 a;grind[List.take_succ_eq_append_getElem,Nat.lt_or_ge,List.eraseIdx_append_of_lt_length,List.length_take,List.eraseIdx_of_length_le]
theorem a5v:(g.take (e+1)).eraseIdx e=(g.take e).eraseIdx e:=by grind[List.eraseIdx_eq_take_drop_succ,List.drop_eq_nil_of_le,List.length_take,Nat.min_eq_left,Nat.min_self]
variable{b0:Type}
def aB.erase{b:b0->R->Prop}{c:List b0}(a:Nat)(d:aB b c g):aB b (c.eraseIdx a) (g.eraseIdx a):=by rw[a9z,a9z];exact(d.take a).append (d.drop (a+1))
def Aw(a:f e=β (.cells [n]))(b:aB (hy f) a7 g):hz (f.set e (.cells [.J g N])) e a7:=
 ⟨g,N,ξ _ _ _,b.mono λ_ _ c=>c.iF (iE.set a rfl)⟩
def HJ(a:f e=β (.cells [bo w,.J (bM e4) N,.J [] .nil,.v (.pointer ζ),.v (.pointer ζ)])):hy f ⟨w,e4,[],.nil,ζ⟩ (.ptr e 0):=⟨e,N,[],.nil,_,_,rfl,a,trivial,rfl,rfl⟩
theorem a5w(a:aB (hy f) a7 g):bW s 1 (.J g N)=β (α g,g):=by
 have p:∀b∈g,b.cells=[b]:=λb d=>by
  obtain⟨h,k,rfl⟩:=a8a d;have r:=a.len;obtain⟨o,c,x,_,_,_,_,_,rfl,_⟩:=a.get (Ρ (show h<α a7 by omega));rw[Ρ k]at c;rw[Δ c];rfl
 have y:flat g=g:=by
  unfold flat;clear a
  induction g with
  |nil=>rfl
  |cons o g ih=>simp_all
 simp_all [bW,if_pos,a7E,decide_eq_true]
def km(a:Nat)(p c:U)(r:List aX):Prop:=∃b d,aB (hy b) r d/\(∃x,b a=β (.cells [x]))/\eH a p b/\eH a b c/\
 ((∃y,c a=β (.cells [.J d y]))\/∃h k z o,b h=ζ/\c a=β (.cells [.aq h k z 1])/\c h=β (.cells o)/\k<=α o/\eB 1 k o=d)
theorem km.of{s:U}{ds:List aX}(a:hz f e ds)(c:eH e s f):km e s f ds:=by obtain⟨d,h,b,k⟩:=a;exact⟨f,d,k,⟨_,b⟩,c,λ_ _ _ a=>a,.inl ⟨h,b⟩⟩
set_option maxHeartbeats 1000000 in
theorem a5x(M:U)(w a68:Nat)(k:List aX)(c:hz M w k)(a69:ej a68 k)(b49:a68<900)(x:du)(a71:x.d.Fit)(X:dk x.d.row):
  AC γ 28 [.ptr w 0,x.V] M λy n=>km w M n (hx k x.d).2/\y=.v (.int .i64 (hx k x.d).1):=by
 have h:=(hx.eq_1 k x.d).symm;generalize hx k x.d=b12 at*;have Y:=λM=>a1I x a71 M;rw[a5i]at Y;have a73:=a69.dP;obtain⟨E,a14,a74,a81⟩:=c;have n4:=a81.len;have a83:x.V=.agg [aj x.d.kind,bo x.d.table,.J (bM x.d.aD) x.gD,.J (ad x.d.row) x.dv]:=rfl;rw[a83]at Y|-;clear a83;obtain⟨b50,b51,b52,b53⟩:=a71;generalize a15:x.d.kind=V at*;generalize b54:x.d.table=G at*;generalize b55:x.d.aD=l1 at*;generalize b56:x.d.row=z at*;refine aK hm LQ ?_;refine bs λn5 a16=>?_;have W:=μ (Y:=.cells [aj V,bo G,.J (bM l1) x.gD,.J (ad z) x.dv]) (θ (f:=M)) a16;have aE:=ξ M n5 (.cells [aj V,bo G,.J (bM l1) x.gD,.J (ad z) x.dv]);have b57:w≠n5:=by rintro rfl;rw[a74]at a16;cases a16
 generalize M.set n5 _=e at*;have F:=W _ _ a74;have S:aB (hy e) k E:=a81.mono λ_ _ c=>c.sub W;have a84:=a4U e w k ⟨E,a14,F,S⟩ G δ;have j:=κ aE;have eS:=κ F;obtain⟨a86,b13⟩:=a5s k G;have Z:hz e w k:=⟨E,a14,F,S⟩;cases cr:fb x.d with
 |false=>rw[cr]at Y;rw[if_pos cr]at h;refine bp (Y e) ?_;exact⟨_,θ,km.of (by rw[<-h];exact Z) (eH.of W),by rw[<-h]⟩
 |true=>
  rw[cr]at Y;rw[if_neg (by rw[cr];simp)]at h;refine bp (Y e) ?_;generalize qo k G=b14 at*;refine bp a84 ?_;clear Y a84;refine aF (λa88=>?_) λa88=>?_
  .have n9:V=1:=a8j.1 (by grind);rw[if_pos n9]at h;refine aF (λq=>?_) λq=>?_
   .rw[if_pos δ]at h;exact⟨_,θ,km.of (by rw[<-h];exact Z) (eH.of W),by rw[<-h]⟩
   rw[if_neg δ]at h;refine aF (λc2=>?_) λc2=>?_
   .rw[if_pos δ]at h;exact⟨_,θ,km.of (by rw[<-h];exact Z) (eH.of W),by rw[<-h]⟩
   rw[if_neg δ]at h;have b58:=a5q (a7:=k) (w:=G);have b15:=a5p (a7:=k) (w:=G);have b16:=a5r (a7:=k) (w:=G);generalize jJ k G=d at*;refine dJ θ (by simp[aY]) λb59 b60 a89=>?_;refine aa ?_;refine ep (g:=[]) a89 (λ_ c=>by cases c) tO (by rw[a7x,iZ];omega) (by rw[a7x,iZ];omega) λa18 a19 l2=>?_;rw[a7H]at l2|-;have j:=κ (l2.sub _ _ aE);refine aa ?_;refine aN λo N=>?_;have j9:(a19.set o (.cells (R.agg [bo G,.J (bM l1) a18,.J [] .nil,.v (.pointer ζ),.v (.pointer ζ)]).cells)) o=β (.cells [bo G,.J (bM l1) a18,.J [] .nil,.v (.pointer ζ),.v (.pointer ζ)]):=ξ _ _ _;have k0:=π l2.sub (μ (Y:=.cells (R.agg [bo G,.J (bM l1) a18,.J [] .nil,.v (.pointer ζ),.v (.pointer ζ)]).cells) (θ (f:=a19)) N);have b61:w≠o:=by rintro rfl;rw[l2.sub _ _ F]at N;cases N
   refine aa ?_;have a90:fw E d (.ptr o 0) 0=[]:=by unfold fw;rw[if_pos (a7N _)];rfl
   have b17:decide (d<0)=false:=ς;generalize a19.set o _=b18 at*;clear a89 l2 N j;refine cc [0,3,8] (λp:Nat×Own=>[(6,.J (fw E d (.ptr o 0) p.1) p.2),(7,.v (.bool (decide (d<p.1)))),(9,.v (.int .i64 (p.1:Int)))]) (λp n=>p.1<=α k/\bj b18 n 1 (fw E d (.ptr o 0) p.1) p.2) (λp=>α k - p.1) (0,.nil) ⟨⟨a7N _,by rw[a90];exact Τ θ⟩,aO⟩ ?_;rintro⟨a,bH⟩ l3 ⟨l4,r⟩ a92
   dsimp only at l4 r|-
   have a94:=a5o (g:=E) (i:=d) (e:=a) (n:=.ptr o 0);have k1:=a5n (e:=d) (i:=a) (n:=.ptr o 0) S rfl;have eS:=κ (r.sub _ _ (k0 _ _ F));have b62:=κ (r.sub _ _ j9);clear a90 b17;refine aa ?_;refine aF (λaE=>?_) λaE=>?_
   .have k6:a<α k:=δ;have k2:k[a]?=β (k.getD a default):=by simp[List.getD,k6]
    obtain⟨_,k7,a27,l,a95,a96,a00,a01,rfl,s,_,_,_⟩:=S.get k2;have A:=κ (r.sub _ _ (k0 _ _ s));have a97:=(vP G (k.getD a default).name).1;rcases aaJ a d with B|B|B
    .have a29:=b15 a B;have P:=a5j (n:=.ptr o 0) B k7;have b19:¬d<a:=δ;have l5:¬d<a+1:=δ;generalize fw E d (.ptr o 0) a=a02 at*;rw[a29]at a97;refine aa ?_;refine hG r k1 λ_ T L C _=>?_;exact⟨(a+1,T),⟨by simp only;omega,by simp only[P];exact C⟩,⟨by simp only[P],by simp[l5],rfl⟩,by simp only;omega⟩
    .subst B;have a29:=b16 k6;have P:=a5k (n:=.ptr o 0) k7;have b19:¬a<a:=δ;generalize fw E a (.ptr o 0) a=a02 at*;rw[a29]at a97;have l5:a<a+1:=δ;refine aa ?_;refine hG r k1 λ_ T L C _=>?_;have eS:=κ (C.sub _ _ (k0 _ _ F));refine aa ?_;refine hG C (λD a30=>by rcases a7z.1 a30 with c|c;exact k1 D c;rw[a7I]at c;subst c;rfl) λ_ T g C _=>?_;exact⟨(a+1,T),⟨by simp only;omega,by simp only[P];exact C⟩,⟨by simp only[P],by simp[l5],rfl⟩,by simp only;omega⟩
    .have P:=a5l (n:=.ptr o 0) B k7;have l5:d<a+1:=δ;generalize fw E d (.ptr o 0) a=a02 at*;refine aa ?_;refine hG r k1 λ_ T L C _=>?_;exact⟨(a+1,T),⟨by simp only;omega,by simp only[P];exact C⟩,⟨by simp only[P],by simp[l5],rfl⟩,by simp only;omega⟩
   .obtain rfl:a=α k:=δ;have a34:=a5m (g:=E) (e:=d) (n:=.ptr o 0) δ;rw[n4]at a34;have a98:=χ (r.sub _ _ (k0 _ _ F));by_cases B:d<α k
    .rw[if_pos B]at a34;refine aa ?_;have f:=π k0 r.sub;refine⟨_,θ,km.of ?_ (eH.of (π W f)).set,by rw[<-h]⟩;rw[<-h];exact Aw (f _ _ F) (((S.mono λ_ _ c=>c.sub f).take d).append ⟨HJ (r.sub _ _ j9),(S.mono λ_ _ c=>c.sub f).drop d⟩)
    .rw[if_neg B]at a34;refine aa ?_;refine hG r k1 λ_ T L C _=>?_;have a98:=χ (C.sub _ _ (k0 _ _ F));refine aa ?_;have f:=π k0 C.sub;refine⟨_,θ,km.of ?_ (eH.of (π W f)).set,by rw[<-h]⟩;rw[<-h];exact Aw (f _ _ F) (((S.mono λ_ _ c=>c.sub f).take d).append ⟨HJ (C.sub _ _ j9),(S.mono λ_ _ c=>c.sub f).drop d⟩)
  .have n9:¬V=1:=λD=>a88 (by rw[D];rfl);rw[if_neg n9]at h;refine aF (λq=>?_) λq=>?_
   .have b20:α k<=ct k G:=by omega
    rw[if_pos b20]at h;exact⟨_,θ,km.of (by rw[<-h];exact Z) (eH.of W),by rw[<-h]⟩
   have k6:ct k G<α k:=by omega
   obtain rfl:=a86 k6;rw[if_neg δ]at h;clear a86 b13 q;have b21:=Ao k6;generalize ct k G=d at*;refine aF (λa99=>?_) λa99=>?_
   .have a03:V=2:=a8j.1 (by grind);rw[if_pos a03]at h;have b22:([]:ύ).eraseIdx d=[]:=List.eraseIdx_nil;refine cc [0,3,5] (λp:Nat×Own=>[(10,.J ((E.take p.1).eraseIdx d) p.2),(11,.v (.int .i64 (p.1:Int)))]) (λp n=>p.1<=α k/\bj e n 1 ((E.take p.1).eraseIdx d) p.2) (λp=>α k - p.1) (0,.nil) ⟨⟨a7N _,by grind[Τ,θ]⟩,aO⟩ ?_;clear b22;rintro⟨a,bH⟩ l3 ⟨l4,r⟩ a92
    dsimp only at l4 r|-
    have a94:((E.take a).eraseIdx d).length<=a:=a8m (List.length_eraseIdx_le _ _) (by rw[a7q];omega);have k1:aY 1 ((E.take a).eraseIdx d):=λD a30=>Hv S D (a7A (aaj a30));have eS:=κ (r.sub _ _ F);refine aa ?_;refine aF (λaE=>?_) λaE=>?_
    .have b23:a<α k:=δ;have k2:k[a]?=β (k.getD a default):=by simp[List.getD,b23]
     obtain⟨_,k7,a27,l,a95,a96,a00,a01,rfl,s,_,_,_⟩:=S.get k2;by_cases kb:a=d
     .subst kb;have P:=a5v (g:=E) (e:=a);generalize (E.take a).eraseIdx a=a02 at*;refine aa ?_;exact⟨(a+1,bH),⟨by simp only;omega,by simp only[P];exact r⟩,⟨by simp only[P],rfl⟩,by simp only;omega⟩
     .have P:=a5u (i:=d) k7 kb;generalize (E.take a).eraseIdx d=a02 at*;have b63:¬(a:Int)=(d:Int):=δ;refine aa ?_;refine hG r k1 λ_ T L C _=>?_;exact⟨(a+1,T),⟨by simp only;omega,by simp only[P];exact C⟩,⟨by simp only[P],rfl⟩,by simp only;omega⟩
    .obtain rfl:a=α k:=δ;rw[<-n4,a7K]at r|-;have a98:=χ (r.sub _ _ F);refine aa ?_;have f:=r.sub;refine⟨_,θ,km.of ?_ (eH.of (π W f)).set,by rw[<-h]⟩;rw[<-h];exact Aw (f _ _ F) ((S.mono λ_ _ c=>c.sub f).erase d)
   .have a03:¬V=2:=λD=>a99 (by rw[D];rfl);rw[if_neg a03]at h;have b24:k[d]?=β (k.getD d default):=by simp[List.getD,k6]
    have t:=a69.ok _ b21;obtain⟨_,k7,a27,l,a95,a96,a00,a01,rfl,s,b00,a36,a38⟩:=S.get b24;have A:=κ s;have b64:=a36.cells;have fB:=a38.cells;have b65:=t.c;have b25:=λy c=>t.row (q:=y) c;have b66:=t.dP;have b67:=b00.len;generalize b68:k.getD d default=b at*;have b69:=iZ (e4:=b.aD);have b70:=bN (q:=z);refine aa ?_;refine aF (λq=>?_) λq=>?_
    .rw[if_pos δ]at h;exact⟨_,θ,km.of (by rw[<-h];exact Z) (eH.of W),by rw[<-h]⟩
    rw[if_neg δ]at h;have l6:α z=α b.aD+1:=δ;have fN:=mJ (q:=z) δ x.dv;rw[show z.getD 0 0=c5 z from rfl]at fN;have b26:decide (z∈([]:List Ω))=false:=ς;refine cc [0,3,5,12] (λp:Nat×ύ×Own=>[(13,.J p.2.1 p.2.2),(14,.v (.bool (decide (z∈b.rows.take p.1)))),(15,.v (.int .i64 (p.1:Int)))]) (λp n=>p.1<=α b.rows/\bj e n 1 p.2.1 p.2.2/\aB isRow ((b.rows.take p.1).filter λy=>decide (y≠z)) p.2.1/\(V=3->∀y∈b.rows.take p.1,c5 y≠c5 z)) (λp=>α b.rows - p.1) (0,[],.nil) ⟨⟨a7N _,Τ θ,trivial,λ_ y c=>by cases c⟩,aO⟩ ?_;clear b26;rintro⟨a,O,bH⟩ l3 ⟨l4,r,i,a04⟩ a92
    dsimp only at l4 r i a04|-
    have A:=κ (r.sub _ _ s);have j:=κ (r.sub _ _ aE);have a94:α O<=a:=by rw[i.len];grind
    refine aa ?_;refine aF (λbh=>?_) λbh=>?_
    .have b01:a<α b.rows:=δ;have k2:b.rows[a]?=β (b.rows.getD a []):=by simp[List.getD,b01]
     obtain⟨_,P,a05,rfl⟩:=b00.get k2;have b71:=(b25 _ (a7r k2)).len;have l7:=eX (a:=b.rows) (b:=[]) (e:=a) b01;have b27:b.rows.getD a []∈b.rows:=a7r k2;generalize b.rows.getD a []=y at*;have b28:=mJ (q:=y) δ a05;rw[show y.getD 0 0=c5 y from rfl]at b28;refine aa ?_;refine aF (λbz=>?_) λbz=>?_
     .refine aF (λb02=>?_) λb02=>?_
      .have l8:V=3:=a8j.1 (by grind);rw[if_neg (by rw[l8];decide),if_pos (aaq.2 ⟨y,b27,decide_eq_true bz⟩)]at h;exact⟨_,θ,km.of (by rw[<-h];exact Z.sub r.sub) (eH.of (π W r.sub)),by rw[<-h]⟩
      have b72:¬V=3:=λD=>b02 (by rw[D];rfl);refine bp (tk y z a05 x.dv _ δ) ?_;refine aF (λc7=>?_) λa06=>?_
      .subst c7;exact⟨(a+1,O,bH),⟨by simp only;omega,r,by simp_all,λc=>absurd c id⟩,⟨rfl,by simp[l7],rfl⟩,by simp only;omega⟩
      refine hG r (i.cells λ_ _=>φ) λ_ T L C _=>?_;refine⟨(a+1,O++[.J (ad y) a05],T),⟨by simp only;omega,C,by simp only[l7,aai];rw[aap,if_pos (by simpa using a06),ab5];exact i.snoc ⟨_,rfl⟩,λl8 b03 a42=>?_⟩,⟨rfl,by grind,rfl⟩,by simp only;omega⟩;exact False.elim l8
     .have a06:y≠z:=λD=>bz (by rw[D]);refine hG r (i.cells λ_ _=>φ) λ_ T L C _=>?_;refine⟨(a+1,O++[.J (ad y) a05],T),⟨by simp only;omega,C,by simp only[l7,aai];rw[aap,if_pos (by simpa using a06),ab5];exact i.snoc ⟨_,rfl⟩,λl8 b03 a42=>?_⟩,⟨rfl,by simp only[l7,a7z,a7I];congr 2;exact decide_eq_decide.2 ⟨.inl,λc=>c.resolve_right λD=>a06 D.symm⟩,rfl⟩,by simp only;omega⟩;rw[l7]at a42;rcases a7z.1 a42 with c|c
      .exact a04 l8 b03 c
      .obtain rfl:=a7I.1 c;exact bz
    .obtain rfl:a=α b.rows:=δ;rw[a7K]at i a04|-;refine aN λo N=>?_;have u:=Ο r.sub N;have j9:(l3.set o (.cells (R.agg [bo b.name,.J (bM b.aD) l,.J [] .nil,.v (.pointer ζ),.v (.pointer ζ)]).cells)) o=β (.cells [bo b.name,.J (bM b.aD) l,.J [] .nil,.v (.pointer ζ),.v (.pointer ζ)]):=ξ _ _ _;have a43:=μ (Y:=.cells (R.agg [bo b.name,.J (bM b.aD) l,.J [] .nil,.v (.pointer ζ),.v (.pointer ζ)]).cells) (θ (f:=l3)) N;have b73:n5≠o:=by rintro rfl;rw[aE]at u;cases u
     have b74:a27≠o:=by rintro rfl;rw[s]at u;cases u
     have b75:w≠o:=by rintro rfl;rw[F]at u;cases u
     refine aa ?_;have k8:=π r.sub a43;have b29:=a43;generalize l3.set o _=b04 at*;clear N a43;have A:=κ (k8 _ _ s);have j:=κ (k8 _ _ aE);have b76:=a5t V 4;refine aa ?_;refine oy [0,3,5,12,16] (λ_:Unit=>[]) (λ_ n=>∃a07,b12=(0,k.set d a07)/\a07.name=b.name/\hy n a07 (.ptr o 0)/\e.sub n) (λq=>?_) (λq=>?_) ?_
     .have a08:V=4:=a8j.1 (by have c:=of_decide_eq_true q;have:(4:UInt8).toNat=4:=rfl;omega);rw[if_pos a08]at h;have aG:=χ j9;refine aa ?_;refine aF (λc7=>?_) λc7=>?_
      .rw[if_neg c7]at h;exact⟨_,θ,km.of (by rw[<-h];exact Z.sub k8) (eH.of (π W k8)),by rw[<-h]⟩
      .have b30:=c7;rw[if_pos b30]at h;clear c7;generalize k3:b04.set o _=L;have a47:L o=β (.cells [bo b.name,.J (bM b.aD) l,.J O bH,.v (.pointer ζ),.v (.pointer ζ)]):=by subst k3;exact ξ _ _ _
       have H:e.sub L:=by subst k3;exact μ k8 u
       clear k3 aG j9;refine ah (a1A (α b.aD+1) δ δ z x.dv l6 b.bf a00 L (a36.mono H) t.dC.fu.ok (by have:=t.dC.cf;omega)) ?_;rintro _ a09⟨m,k4,rfl,k5⟩;have l9:=m _ _ a47;have aG:=χ l9;have b31:=k5.cells;have A:=κ (m _ _ (H _ _ s));have j:=κ (m _ _ (H _ _ aE));refine aa ?_;generalize I:a09.set o _=g;have a48:g o=β (.cells [bo b.name,.J (bM b.aD) l,.J O bH,k4,.v (.pointer ζ)]):=by subst I;exact ξ _ _ _
       have n0:e.sub g:=by subst I;exact μ (π H m) u
       have a52:dQ g (lL (α b.aD+1) z b.bf).1 k4:=by subst I;exact k5.iF (n:=5) Θ (iE.set l9 rfl)
       clear I aG A j;refine ah (a4P (e:=α b.aD+1) δ δ z x.dv ⟨l6,X⟩ b.bm a01 g (a38.gl (U.sD n0)) t.go) ?_;rintro _ k9⟨K,a56,b32,rfl,n1⟩;have v:=K _ _ a48;have aG:=χ v;have b33:=n1.cells;refine aa ?_;exact⟨(),b.del z,h.symm,rfl,⟨o,l,O,bH,k4,a56,rfl,ξ _ _ _,i,(a52.mono K).iF (n:=5) Θ (iE.set v rfl),n1.iF (n:=5) Θ (iE.set v rfl)⟩,π n0 K⟩
     .have a08:¬V=4:=λD=>(of_decide_eq_false q) (by rw[D];rfl);rw[if_neg a08]at h;have b34:V=3:=by have:=As cr (by rw[a15];exact n9) (by rw[a15];exact a03);rw[a15]at this;exact this.resolve_right a08
      have b05:=a04 b34;rw[if_neg (λc=>by
       obtain⟨y,X,D⟩:=aaq.1 c;exact b05 y X (of_decide_eq_true D))]at h
      have b35:b.rows.filter (λy=>decide (y≠z))=b.rows:=aaA.2 λy X=>decide_eq_true λD=>b05 y X (by rw[D]);rw[b35]at i;have b77:=i.len;refine aa ?_;refine dJ θ (by simp[aY]) λT L C=>?_;have j:=κ (C.sub _ _ (k8 _ _ aE));refine aa ?_;refine ep (g:=[]) C (λ_ c=>by cases c) (by simp[aY,ad,σ]) (by simp[bN];omega) (by simp[bN];omega) λb06 a09 m=>?_;rw[a7H];refine aa ?_;refine dJ θ (by simp[aY,σ]) λb78 g a73=>?_;refine aa ?_;have b07:b04.sub g:=π m.sub a73.sub;refine sE (r.mono (π b29 b07)) (i.cells λ_ _=>φ) (by simp[aY,σ]) Μ Μ λb36 k9 K b37=>?_;have v:=b37 _ _ (b07 _ _ j9);have b38:aB isRow (b.rows++[z]) (O++[.J (ad z) b06]):=i.snoc ⟨b06,rfl⟩;have b39:∀y∈b.rows++[z],bQ (α b.aD+1) y:=λy c=>by
       rcases a7z.1 c with c|c
       .exact t.row c
       .obtain rfl:=a7I.1 c;exact⟨l6,X⟩
      refine aa ?_;refine ah (a5e (b.rows++[z]) _ b36 .nil (α b.aD+1) k9 b38 b39 δ δ Μ) ?_;rintro _ a57⟨b08,a61,a62,b40,rfl⟩;have b09:=b08 _ _ v;have aG:=χ b09;have a63:e.sub a57:=π K.sub b08;have A:=κ (a63 _ _ s);have j:=κ (a63 _ _ aE);refine aa ?_;generalize k3:a57.set o _=L;have a47:L o=β (.cells [bo b.name,.J (bM b.aD) l,.J a61 a62,.v (.pointer ζ),.v (.pointer ζ)]):=by subst k3;exact ξ _ _ _
      have H:e.sub L:=by subst k3;exact μ a63 u
      clear k3 aG A j v b09;refine ah (yX (α b.aD+1) δ δ z x.dv l6 b.bf a00 0 L L (a36.mono H) θ t.dC.fu.ok (by have:=t.dC.cf;omega)) ?_;rintro _ a09⟨m,k4,rfl,k5⟩;have k5:=k5.mono rn;have l9:=m _ _ a47;have aG:=χ l9;have b31:=k5.cells;have A:=κ (m _ _ (H _ _ s));have j:=κ (m _ _ (H _ _ aE));refine aa ?_;generalize I:a09.set o _=g;have a48:g o=β (.cells [bo b.name,.J (bM b.aD) l,.J a61 a62,k4,.v (.pointer ζ)]):=by subst I;exact ξ _ _ _
      have n0:e.sub g:=by subst I;exact μ (π H m) u
      have a52:dQ g (da (α b.aD+1) z b.bf 0).1 k4:=by subst I;exact k5.iF (n:=5) Θ (iE.set l9 rfl)
      clear I aG A j;refine ah (a1o (e:=α b.aD+1) δ δ z x.dv ⟨l6,X⟩ b.bm a01 g (a38.gl (U.sD n0)) t.go) ?_;rintro _ k9⟨K,a56,b32,rfl,n1⟩;have v:=K _ _ a48;have aG:=χ v;have b33:=n1.cells;refine aa ?_;exact⟨(),b.put z,h.symm,rfl,⟨o,l,a61,a62,k4,a56,rfl,ξ _ _ _,b40,(a52.mono K).iF (n:=5) Θ (iE.set v rfl),n1.iF (n:=5) Θ (iE.set v rfl)⟩,π n0 K⟩
     .rintro _ k9⟨a07,b79,b80,b41,l0⟩b81;have eS:=κ (l0 _ _ F);refine aa ?_;rw[oo];refine aa ?_;have b42:=a5w (s:=k9) (N:=a14) S;refine fj (av.zero θ) δ b42 δ Μ Μ λb14 a57 a10=>?_;rw[a7H]at a10;obtain⟨Q,n2,n3,a11,rfl,a13,b43,b44,b10,hm,b82,_⟩:=a10.aq (λD=>by rw[D]at n4;simp at n4;omega);rw[a8g]at b44 b10 hm;have b83:cz 1 (.aq Q n2 n3 1) (.v (.int .i64 (d:Int)))=β (.ptr Q d):=by have:=jQ (e:=1) (i:=Q) (v:=n2) (M:=n3) (e1:=.i64) (b1:=(d:Int)) δ δ;simpa using this
      have b84:=χ b43;have b45:=a10.1 _ _ (l0 _ _ F);have b46:w≠Q:=by rintro rfl;rw[l0 _ _ F]at a13;cases a13
      have b85:=χ b45;have b86:(R.aq Q n2 n3 1).cells=[.aq Q n2 n3 1]:=rfl;have b87:d+1<=α a11:=δ;refine aa ?_;have b11:putAt a11 d [R.ptr o 0]=a11.set d (.ptr o 0):=by rw[a8F,if_pos δ];unfold putAt;rw[a7B];rfl
      refine⟨_,θ,k9,E.set d (.ptr o 0),aB.set d (S.mono λ_ _ c=>c.sub l0) b41,⟨_,l0 _ _ F⟩,eH.of (π W l0),λb47 b88 b48 a65=>?_,.inr ⟨Q,n2,n3,putAt a11 d [.ptr o 0],a13,ξ _ _ _,?_,?_,?_⟩⟩
      .have:b47≠Q:=by rintro rfl;rw[a13]at a65;cases a65
       rw[ο _ _ b48,ο _ _ this];exact a10.1 _ _ a65
      .rw[ο _ _ b46.symm,ξ]
      .rw[b11,aad];omega
      .rw[b11,mr,List.take_set,b10]
def a5y(p:U)(a r:Nat)(d:List aX)(b:hz p a d)(j:ej r d)(l:r<900)(c:du)(m:c.d.Fit)(n:dk c.d.row):
  AC γ 28 [.ptr a 0,c.V] p λP h=>hz h a (hx d c.d).2/\eH a p h/\P=.v (.int .i64 (hx d c.d).1):=
 (a5x p a r d b j l c m n).view λP h b=>by
  obtain⟨⟨x,S,T,⟨v,V⟩,W,y,z⟩,rfl⟩:=b;have e:∀C,eH a x C->iE 1 x C:=λC D k E o q=>D k _ (by rintro rfl;rw[V]at o;obtain rfl:=bu.cells.inj (Δ o);exact q rfl) o;rcases z with⟨F,z⟩|⟨k,s,w,E,G,t,o,hm,D⟩
  .exact⟨_,h,View.refl,⟨S,F,z,T.mono λ_ _ b=>b.iF (e _ y)⟩,W.trans y,rfl⟩
  .have u:a≠k:=by rintro rfl;rw[V]at G;cases G
   have f:eH a x ((h.set k (.ro E)).set a (.cells ([]++ .J (eB 1 s E) .any::[]))):=λg F i L=>by
    have:g≠k:=by rintro rfl;rw[G]at L;cases L
    rw[ο _ _ i,ο _ _ this];exact y g F i L
   exact⟨_,_,View.obj (H:=[]) t o δ u,⟨S,.any,by rw[ξ,D];rfl,T.mono λ_ _ b=>b.iF (e _ f)⟩,W.trans f,rfl⟩
variable{a8:aC}{A j2:ao}
def jE.le(d:e<=8)(b:jE e a8 A)(c:a8.size<=1048576):A.hL/\α A.sum=32/\A.cC:=by have a:=b.kR c;have h:=a.nC;have k:=a.nD;have o:=a.nE;exact⟨⟨δ,δ,δ,a.my,a.live,a.mz,a.size⟩,b.sum,⟨δ,δ,δ⟩⟩
theorem Ax{s:Nat}(e:1<=s)(r:s<=8):∀(i:aC)(x:R)(c:U),dQ c i x->i.c9 s->i.size<=1048576->AC γ 37 [x] c λd t=>c.sub t/\∃y h z,d=.agg (ab (bg i) y h z)
 |.nil,x,c,u,_,_=>by
  obtain rfl:x=.v (.pointer ζ):=u;have fB:=jd az .nil .nil .nil bl;have v:putAt (ab az .nil .nil .nil) 0 (ab az .nil .nil .nil)=ab az .nil .nil .nil:=cx bl bl;refine aK hm Cb ?_;refine bs λk C=>?_;rw[ch];exact⟨.nil,.nil,.nil,by rw[(aP bl).t37];rfl⟩
 |.node d o a b,x,c,u,D,O=>by
  obtain⟨Q,k9,l0,l1,rfl,p,j,l⟩:=u;have l2:=O;simp only[Κ]at l2;have l3:=Ax e r a l0;have l4:=Ax e r b l1;have w:=(eG e r D.a δ).le r δ;have cj:=(eG e r D.b δ).le r δ;have X:=eG e r D O;have a00:=X.size;have a01:=j.cells;have fB:=l.cells;have m:=κ p;have l5:∀E:U,c.sub E->AC γ 83 [.ptr Q 0] E λl6 t=>E.sub t/\∃F G f g,l6=gU (ck (d,o) (bg a) (bg b)) (.J F f) (.J G g)/\aB cY [(d,o)] F/\aB bB [bg a,bg b] G:=by
   intro E A;have p:=A _ _ p;have j:=j.mono A;have l:=l.mono A;have m:=κ p;refine aK hm ND ?_;refine bs λk C=>?_;have a02:Q≠k:=by rintro rfl;rw[p]at C;cases C
   have L:=μ (Y:=.cells [.v (.int .u8 0),.J [] .nil,.J [] .nil]) (θ) C;have l7:=ξ E k (.cells [.v (.int .u8 0),.J [] .nil,.J [] .nil]);generalize E.set k _=l8 at*;have m:=κ (L _ _ p);refine aa ?_;refine(sf (dJ θ (by simp[aY,σ]) λ_ _ _=>trivial)).mpr ?_;refine aa ?_;refine ah (l3 l8 (j.mono L) D.a δ) ?_;rintro _ Y⟨P,S,T,V,rfl⟩;have n:=π L P;have m:=κ (n _ _ p);have l9:=(jd (bg a) S T V w.2.1).1;refine aa ?_;refine(sf (dJ θ (by simp[aY,σ]) λ_ _ _=>trivial)).mpr ?_;refine aa ?_;refine ah (l4 Y (l.mono n) D.b δ) ?_;rintro _ a03⟨Z,B,H,I,rfl⟩;have j9:=π n Z;have n0:=(jd (bg b) B H I cj.2.1).1;have m:=κ (j9 _ _ p);refine aa ?_;have k0:aY 37 [R.agg (ab (bg a) S T V),.agg (ab (bg b) B H I)]:=λq k1=>by
    simp only[a7J,a8J,or_false]at k1;rcases k1 with rfl|rfl
    .exact l9
    .exact n0
   refine(sf (dJ θ k0 λ_ _ _=>trivial)).mpr ?_;refine aa ?_;refine dJ θ (by simp[aY,σ]) λh k2 W=>?_;refine aa ?_;refine dJ θ k0 λn1 a04 k3=>?_;have a05:=χ (k3.sub _ _ (W.sub _ _ (Z _ _ (P _ _ l7))));refine aa ?_;exact⟨π j9 (π W.sub k3.sub),_,_,h,n1,rfl,⟨⟨k9,rfl⟩,trivial⟩,⟨w.2.1,w.2.2,S,T,V,rfl⟩,⟨cj.2.1,cj.2.2,B,H,I,rfl⟩,trivial⟩
  have k4:=λF G f g c K M=>Hz (ck (d,o) (bg a) (bg b)) F G f g c K M (by simp[ck]) (by simp[ck]) (λx n2=>by
   obtain rfl:x=(d,o):=by simpa[ck] using n2
   have:=D.r.len;dsimp only;omega) (λk5 n3=>by
   have:k5=bg a\/k5=bg b:=by simpa[ck] using n3
   grind) (by show(bg (.node d o a b)).size<= _;omega) (λq=>by cases q) (λq=>by cases q)
  have n4:fr (ck (d,o) (bg a) (bg b))=bg (.node d o a b):=rfl;rw[n4]at k4;have k6:=X.sum;generalize bg (.node d o a b)=N at*;have k7:=λy h z=>jd N y h z k6;have v:∀y h z,putAt (ab az .nil .nil .nil) 0 (ab N y h z)=ab N y h z:=λy h z=>cx bl k6;have a06:=jd az .nil .nil .nil bl;refine aK hm Cb ?_;refine bs λk C=>?_;rw[ch];have L:=μ (Y:=.cells (ab az .nil .nil .nil)) (θ) C;refine ah (l5 _ L) ?_;rintro _ k2⟨W,F,G,f,g,rfl,K,M⟩;refine aa ?_;refine ah (k4 F G f g k2 K M) ?_;rintro _ Y⟨P,S,T,V,rfl⟩;have a07:=χ (P _ _ (W _ _ (ξ c k (.cells (ab az .nil .nil .nil)))));refine aa ?_;have n:=π L (π W P);have aE:=P _ _ (W _ _ (ξ c k (.cells (ab az .nil .nil .nil))));refine aN λn5 k8=>?_;have n9:k≠n5:=by rintro rfl;rw[aE]at k8;cases k8
  have a08:=n9.symm;have v:=v S T V;have k7:=k7 S T V;refine aa ?_;grind
theorem a5z(Q:e<=8)(c:a1.T 0)(D:R)(d:U)(l:bA d 0 c D)(m:ds e 0 c):
  AC γ 84 [D] d λx h=>d.sub h/\∃E F y n,x=gU (dH 0 c) (.J E y) (.J F n)/\aB cY (dH 0 c).rows E/\aB bB (dH 0 c).kids F:=by
 obtain⟨b,rfl⟩:=a1.ir c;obtain⟨X,q,Y,Z,rfl,G,p⟩:=l;have p:aB isRow b q:=p;obtain⟨s,t,_⟩:=m.wf;rw[a1.hM]at s t;have j9:=p.len;have k0:=κ G;refine aK hm Ce ?_;refine bs λz u=>?_;refine dd λL v w k1=>?_;have P:=ξ d z (.cells [.v (.int .u8 0),.J [] .nil,.J [] .nil]);have S:=μ (Y:=.cells [.v (.int .u8 0),.J [] .nil,.J [] .nil]) (θ) u;have C:(d.set z (.cells [.v (.int .u8 0),.J [] .nil,.J [] .nil])) L=none:=by rw[ο _ _ w];exact v
 generalize d.set z _=A at*;have B:=S _ _ G;refine cc [0,2,3] (λa:Nat=>[(4,.v (.int .i64 (a)))]) (λa h=>a<=α b/\∃al r,h L=β (.cells [.v (.int .u8 2),.J al r,.J [] .nil])/\bj A h 2 al r/\aB cY ((b.take a).map λx=>(x,η)) al) (λa=>α b - a) 0 ⟨⟨a7N _,[],.nil,ξ _ _ _,Τ (μ (μ θ C) C),trivial⟩,aO⟩ ?_;rintro a H⟨k2,al,r,T,k,o⟩I;have k3:=κ (k.sub _ _ B);have k4:=κ T;have V:=o.len;rw[a7w,a7q]at V;refine aa ?_;refine aF (λW=>?_) λW=>?_
 .have f:a<α b:=δ;have K:b[a]?=β (b.getD a []):=by simp_all
  obtain⟨_,k5,y,rfl⟩:=p.get K;have M:=eX (a:=b) (b:=[]) f;generalize b.getD a []=k6 at*;refine aa ?_;refine dJ θ (by simp[aY,σ]) λk7 k8 g=>?_;refine aa ?_;refine sE (k.mono g.sub) (o.cells λ_ _=>cY.cells) (by simp[aY,σ]) Μ Μ λk9 l0 N O=>?_;have i:=O _ _ (g.sub _ _ T);have aG:=χ i;refine aa ?_;refine⟨a+1,⟨f,_,_,rfl,qn N C i,?_⟩,rfl,δ⟩;rw[M,a8l];exact o.snoc ⟨y,rfl⟩
 .obtain rfl:a=α b:=δ;rw[a7K]at o;have l1:=π S k.sub;have j:=χ (k.sub _ _ P);clear W V j;refine cc [0,2,3] (λ_:Unit=>[(5,.v (.int .i64 0))]) (λ_ h=>h=H) (λ_=>0) () ⟨rfl,aO⟩ ?_;rintro _ _ rfl I;have j:=χ (k.sub _ _ P);refine aa ?_;exact⟨al,[],r,.nil,rfl,o,trivial⟩
def iY.le(d:e<=8)(b:iY e i A)(c:i<=1048576):A.hL/\α A.sum=32/\A.cC:=by have a:=b.kR c;have h:=a.nC;have k:=a.nD;have o:=a.nE;exact⟨⟨δ,δ,δ,a.my,a.live,a.mz,a.size⟩,b.sum,⟨δ,δ,δ⟩⟩
def a5A(N:1<=i)(n:i<=8)(c:a1.T (e+1))(r:R)(b:U)(O:bA b (e+1) c r)(F:ds i (e+1) c)
  (ih:∀(c:a1.T e)(r:R)(b:U),bA b e c r->ds i e c->AC γ 38 [r] b λG d=>b.sub d/\∃Q q X,G=.agg (ab (bL e c) Q q X)):
  AC γ 84 [r] b λG d=>b.sub d/\∃s z Y Z,G=gU (dH (e+1) c) (.J s Y) (.J z Z)/\aB cY (dH (e+1) c).rows s/\aB bB (dH (e+1) c).kids z:=by
 obtain⟨h,rfl⟩:=a1.gA c;obtain⟨j9,z,l9,q,rfl,t,C,n0,_⟩:=O;have C:aB (bA b e) h z:=C;have k0:=F.gC;obtain⟨k1,k2,_⟩:=F.wf;rw[a1.dN]at k1 k2;have n1:=F.dP;have n2:=C.len;have n3:=κ t;refine aK hm Ce ?_;refine bs λL k3=>?_;refine dd λk k4 k5 n4=>?_;have k6:=ξ b L (.cells [.v (.int .u8 0),.J [] .nil,.J [] .nil]);have P:=μ (Y:=.cells [.v (.int .u8 0),.J [] .nil,.J [] .nil]) (θ) k3;have o:(b.set L (.cells [.v (.int .u8 0),.J [] .nil,.J [] .nil])) k=none:=by rw[ο _ _ k5];exact k4
 generalize b.set L _=u at*;have D:=P _ _ t;have n5:j9≠k:=by rintro rfl;rw[D]at o;cases o
 refine cc [0,2,3] (λ_:Unit=>[(4,.v (.int .i64 0))]) (λ_ d=>d=(u.set k (.cells [.v (.int .u8 0),.J [] .nil,.J [] .nil])).set k (.cells [.v (.int .u8 2),.J [] .nil,.J [] .nil])) (λ_=>0) () ⟨rfl,aO⟩ ?_;rintro _ _ rfl k7;have n9:=κ D;refine aa ?_;refine cc [0,2,3] (λa:Nat=>[(5,.v (.int .i64 (a)))]) (λa d=>a<=α h/\∃al p,d k=β (.cells [.v (.int .u8 (if a=0 then 2 else 3)),.J [] .nil,.J al p])/\bj u d 37 al p/\aB bB ((h.take a).map (bL e)) al) (λa=>α h - a) 0 ⟨⟨a7N _,[],.nil,ξ _ _ _,Τ (μ (μ θ o) o),trivial⟩,aO⟩ ?_;rintro a v⟨a00,al,p,E,x,y⟩k7;have a01:=κ (x.sub _ _ D);have k8:=κ E;have k9:=χ E;have l0:=y.len;rw[a7w,a7q]at l0;refine aa ?_;refine aF (λl1=>?_) λl1=>?_
 .have S:a<α h:=δ;have w:=Ρ S;obtain⟨a02,a03,A⟩:=C.get w;obtain⟨T,_⟩:=k0 _ (a7r w);have l2:=T.dP;have l3:=a8y S;have V:=(kS N n T).le n l2;generalize h[a]=W at*;obtain⟨aR,a04,a05,rfl,_⟩:=bA.ptr A;refine aa ?_;have f:=qn (Y:=.cells [.v (.int .u8 3),.J [] .nil,.J al p]) x o E;have l4:=ξ v k (.cells [.v (.int .u8 3),.J [] .nil,.J al p]);clear x E k8 k9;generalize v.set k _=l5 at*;refine ah (ih W _ l5 (A.mono (π P f.sub)) T) ?_;rintro _ a06⟨g,j,l,m,rfl⟩;have B:=g _ _ l4;have a07:=κ B;have a08:=κ (g _ _ (f.sub _ _ D));have l6:=(jd (bL e W) j l m V.2.1).1;have H:aY 37 [R.agg (ab (bL e W) j l m)]:=λa09 I=>by rw[a7I]at I;subst I;exact l6
  refine aa ?_;refine dJ θ H λa10 a11 K=>?_;refine aa ?_;refine sE ((f.mono g).mono K.sub) (y.cells λ_ _=>Ξ) H Μ Μ λa13 a14 l7 l8=>?_;have M:=l8 _ _ (K.sub _ _ B);have aG:=χ M;refine aa ?_;refine⟨a+1,⟨S,_,_,rfl,qn l7 o M,?_⟩,rfl,δ⟩;rw[l3,a8l];exact y.snoc ⟨V.2.1,V.2.2,j,l,m,rfl⟩
 .obtain rfl:a=α h:=δ;rw[a7K]at y;have a15:¬α h=0:=δ;have a16:=χ (x.sub _ _ k6);refine aa ?_;exact⟨π P x.sub,[],al,.nil,p,rfl,trivial,y⟩
theorem HK(B:1<=i)(H:i<=8)(a:a1.T e)(D:R)(b:U)(I:bA b e a D)(E:ds i e a)
  (K:∀x,b.sub x->AC γ 84 [D] x λy G=>x.sub G/\∃p r z C,y=gU (dH e a) (.J p z) (.J r C)/\aB cY (dH e a).rows p/\aB bB (dH e a).kids r):
  AC γ 38 [D] b λy x=>b.sub x/\∃h k o,y=.agg (ab (bL e a) h k o):=by
 have L:=(lJ B H e a E).1;obtain⟨P,M,F⟩:=kG L.tn.ok;have l:=L.kR;have k2:=E.dP;have k3:=l.size;have m:=λp r z C b S T=>Hz (dH e a) p r z C b S T M F (λN O=>by have:=P N O;omega) (λQ X=>by
  have c:=L.tn.kids Q X;have D:=c.nC;have Y:=c.nD;have k4:=c.nE;exact⟨⟨δ,δ,δ,c.my,c.live,c.mz,c.size⟩,c.sum,⟨δ,δ,δ⟩⟩) (by show(fr (dH e a)).size<= _;omega) (λd=>by
  match e,a,d with
  |0,a,_=>obtain⟨n,rfl⟩:=a1.ir a;have:=E.wf.1;rw[a1.hM]at this;intro Z;have j9:(dH 0 (a1.leaf n)).rows=n.map λy=>(y,η):=rfl;simp_all
  |e+1,a,d=>exact absurd d Al) (λd=>by
  match e,a,d with
  |0,a,d=>rw[Gj]at d;cases d
  |e+1,a,_=>obtain⟨q,rfl⟩:=a1.gA a;have:=E.wf.1;rw[a1.dN]at this;intro Z;have j9:(dH (e+1) (a1.node q)).kids=q.map (bL e):=rfl;simp_all)
 have V:=l.sum;rw[<-tm]at V m;obtain⟨Y,k5,k6,rfl,k7⟩:=bA.ptr I;generalize bL e a=W at*;have s:=λh k o=>jd W h k o V;have t:∀h k o,putAt (ab az .nil .nil .nil) 0 (ab W h k o)=ab W h k o:=λh k o=>cx bl V;have k8:=jd az .nil .nil .nil bl;refine aK hm Mb ?_;refine bs λf P=>?_;rw[ch];have u:=μ (Y:=.cells (ab az .nil .nil .nil)) (θ) P;refine ah (K _ u) ?_;rintro _ G⟨g,p,r,z,C,rfl,S,T⟩;refine aa ?_;refine ah (m p r z C G S T) ?_;rintro _ k9⟨j,v,w,A,rfl⟩;have l0:=χ (j _ _ (g _ _ (ξ b f (.cells (ab az .nil .nil .nil)))));refine aa ?_;have l1:=π u (π g j);have aE:=j _ _ (g _ _ (ξ b f (.cells (ab az .nil .nil .nil))));refine aN λk0 F=>?_;have k1:f≠k0:=by rintro rfl;rw[aE]at F;cases F
 have l2:=k1.symm;have t:=t v w A;have s:=s v w A;refine aa ?_;grind
def Ay{x:Nat}(r:1<=x)(h:x<=8):∀(d:Nat)(a:a1.T d)(b:R)(c:U),bA c d a b->ds x d a->AC γ 38 [b] c λz k=>c.sub k/\∃C D E,z=.agg (ab (bL d a) C D E)
 |0,a,b,c,o,p=>HK r h a b c o p λk y=>a5z h a b k (o.mono y) p
 |d+1,a,b,c,o,p=>HK r h a b c o p λk y=>a5A r h a b k (o.mono y) p λa b c=>Ay r h d a b c
end Go.Proofs.YtcfpcblgmmeioaaGreat
