import Derived.Test.YtkafjfkjahgihaaGreatMH
import Derived.Test.YtkafjfkjahgihaaGreatMF
import Derived.Test.YtkafjfkjahgihaaGreatMG
import Derived.Test.YtkafjfkjahgihaaGreatME
set_option linter.all false
open Option renaming some->β,none->ε
open Go.Proofs.Tryz renaming prog->γ
open List renaming replicate->δ,zipWith->φ,range->χ,length_append->ω,take_of_length_le->Γ,length->α
open Bool renaming true->ζ,false->θ
open Go.bD.U renaming a1->η,ad->ι,ae->κ,aj->μ,an->ξ,ao->ο,set_set->ς,aI->τ,bJ->Ι
open Go.bD.R renaming cells->ρ
open Go.Proofs.YtkafjfkjahgihaaGreat.isRow renaming cells->υ
open Prod renaming fst->Α
open Go.Proofs.YtkafjfkjahgihaaGreat.aC renaming size->Ζ
open Go.Proofs.YtkafjfkjahgihaaGreat.bC renaming cells->Κ
open Go.bD.bf renaming nil->Ν
set_option maxRecDepth 100000
namespace Go.Proofs.YtkafjfkjahgihaaGreat
open Go Go.bD
variable{A j9:au}{g B e1:Ψ}{M e7 j0:Own}{e8:aK}
theorem eL.a4Z(b:eL e8 g)(a:α A.sum=32)(c:A.cE):eL ⟨e8.name,e8.aE,A,e8.bu⟩ (putAt g 2 (ab A M e7 j0)):=by obtain⟨⟨d,h,k,o,p,r,x,rfl⟩,⟨y,D⟩,z,C⟩:=b;have E:=(aT (M:=h) (e7:=k) (j0:=o) y).len;have F:=(aT (M:=M) (e7:=e7) (j0:=j0) a).len;refine⟨⟨d,M,e7,j0,p,r,x,?_⟩,⟨a,c⟩,z,C⟩;grind[putAt,ab,List.drop_left']
theorem eL.a5a(k:eL e8 g)(a:α A.sum=32)(o:A.cE):eL ⟨e8.name,e8.aE,e8.bq,A⟩ (putAt g 39 (ab A M e7 j0)):=by obtain⟨⟨p,b,c,d,r,x,y,rfl⟩,⟨h,z⟩,⟨C,E⟩,D⟩:=k;have F:=(aT (M:=b) (e7:=c) (j0:=d) h).len;have G:=(aT (M:=M) (e7:=e7) (j0:=j0) a).len;have L:=(aT (M:=r) (e7:=x) (j0:=y) C).len;refine⟨⟨p,b,c,d,M,e7,j0,?_⟩,⟨h,z⟩,⟨a,o⟩,D⟩;grind[putAt,ab,List.take_left',List.drop_eq_nil_of_le,ω]
def fX(p r:ai->Except Int au×ai)(x:ai)(a:List aK)(b:aK):Int×List aK×ai:=match p x with
 |(.error c,d)=>(c,a,d)
 |(.ok k,d)=>match r d with
  |(.error c,h)=>(c,a,h)
  |(.ok o,h)=>((iZ (kq a ⟨b.name,b.aE,k,o⟩) a).1,(iZ (kq a ⟨b.name,b.aE,k,o⟩) a).2,h)
def jL(a c:Nat)(h:FuncId)(k:ai->Except Int au×ai)(o:au)(p:Τ)(r:Nat):Prop:=
 ∀(b:U)(d:ai)(x y z C:Own),bs b a c d->AC γ h [.ptr a 0,.agg (ab o x y z),.J (af p) C,.v (.int .i64 (r:Int))] b λD E=>Ah b E a c (k d) D
theorem Hl(G:U)(h T V:Nat)(y:ai)(b:List aK)(d:dg G h T V y b)(a04:∀a∈b,a.Fit)(a05:α b<=1000)(a:aK)(e:Ψ)(O:eL a e)(Q:a.Fit)(X:Τ)(Y:Own)(Z k3:FuncId)(L P:ai->Except Int au×ai)
  (a06:fH γ Z=ζ) (a07:fH γ k3=ζ) (k4:jL T V Z L a.bq X (α a.aE+1)) (k5:jL T V k3 P a.bu X (α a.aE+1)):
  AC γ 125 [.ptr h 0,.agg e,.J (af X) Y,.bL Z [] [],.bL k3 [] []] G λu l5=>u=.v (.int .i64 (fX L P y b a).1)/\dg l5 h T V (fX L P y b a).2.2 (fX L P y b a).2.1/\cH h T V G l5:=by
 obtain⟨v,S,k6,w⟩:=d.x;have a90:=ι k6;obtain⟨a92,a94,a95,a96,a08,a09,a10,a11,a13,a14,a97,a98,a99⟩:=O.all;have a15:=λG=>u1 a e O G;have c:(match L y with
  |(.error f,g)=>(f,b,g)
  |(.ok A,g)=>match P g with
   |(.error f,j)=>(f,b,j)
   |(.ok B,j)=>((iZ (kq b ⟨a.name,a.aE,A,B⟩) b).1,(iZ (kq b ⟨a.name,a.aE,A,B⟩) b).2,j))=fX L P y b a:=rfl
 generalize fX L P y b a=b00 at*;refine aL hm OL ?_;refine bp λz l=>?_;have l6:h≠z:=by rintro rfl;rw[k6]at l;cases l
 have b01:=l6.symm;have k7:=κ (Z:=.cells e) (η) l;have bx:=μ G z (.cells e);refine bh (a15 _) ?_;have m:=d.hg.cG l;generalize G.set z _=a16 at*;have a18:=d.hg.mono k7;have a19:=k7 _ _ k6;refine fm a06 (k4 a16 y a08 a09 a10 Y a18) ?_;rintro u l7⟨n,k8,l8⟩;have cp:=k8 _ _ d.oe d.og a19;have k9:=k8 _ _ m.1 m.2 bx;have l9:=cH.trans (cH.of (X:=h) k7) (cH.ext k8);generalize L y=a27 at*;obtain⟨a29,g⟩:=a27;cases a29 with
 |error f=>
  obtain⟨n0,a30,C,D,E,q,rfl⟩:=l8
  dsimp only at c n
  have a34:=(aT (M:=C) (e7:=D) (j0:=E) q).all;have H:=lT (M:=C) (e7:=D) (j0:=E) q;refine aa ?_;refine aN λi k=>?_;refine aa ?_;refine⟨_,η,by rw[<-c],?_,l9.trans (cH.of (κ η k))⟩;rw[<-c];exact⟨n.mono (κ η k),⟨v,S,κ η k _ _ cp,w⟩,d.oe,d.og⟩
 |ok s=>
  obtain⟨l0,a36,C,D,E,rfl⟩:=l8
  dsimp only at c n
  have b02:=(aT (M:=C) (e7:=D) (j0:=E) l0).all;have H:=lT (M:=C) (e7:=D) (j0:=E) l0;refine aa ?_;refine aN λi k=>?_;have a38:h≠i:=by rintro rfl;rw[cp]at k;cases k
  have b03:=a38.symm;have a42:z≠i:=by rintro rfl;rw[k9]at k;cases k
  have b04:=a42.symm;have fl:=ι cp;have a43:=ι k9;refine aa ?_;have I:=κ (Z:=.cells (ab s C D E)) (η) k;have gV:=μ l7 i (.cells (ab s C D E));have a47:=I _ _ cp;have a48:=I _ _ k9;have a52:=n.mono I;have n1:=n.cG k;have a56:=l9.trans (cH.of I);generalize l7.set i _=a57 at*;clear fl a43 H;refine fm a07 (k5 a57 g a11 a13 a14 Y a52) ?_;rintro u t⟨K,M,n2⟩;have l1:=M _ _ d.oe d.og a47;have n3:=M _ _ m.1 m.2 a48;have a61:=M _ _ n1.1 n1.2 gV;have n4:=a56.trans (cH.ext M);generalize P g=a62 at*;obtain⟨cI,j⟩:=a62;cases cI with
  |error f=>
   obtain⟨n0,a30,o,p,r,q,rfl⟩:=n2
   dsimp only at c K
   have a34:=(aT (M:=o) (e7:=p) (j0:=r) q).all;have H:=lT (M:=o) (e7:=p) (j0:=r) q;refine aa ?_;refine aN λF x=>?_;refine aa ?_;refine⟨_,η,by rw[<-c],?_,n4.trans (cH.of (κ η x))⟩;rw[<-c];exact⟨K.mono (κ η x),⟨v,S,κ η x _ _ l1,w⟩,d.oe,d.og⟩
  |ok cf=>
   obtain⟨l2,a63,o,p,r,rfl⟩:=n2
   dsimp only at c K
   have b05:=(aT (M:=o) (e7:=p) (j0:=r) l2).all;have H:=lT (M:=o) (e7:=p) (j0:=r) l2;refine aa ?_;refine aN λF x=>?_;have a65:z≠F:=by rintro rfl;rw[n3]at x;cases x
   have b06:=a65.symm;have a68:i≠F:=by grind
   have b07:=a68.symm;have a69:h≠F:=by rintro rfl;rw[l1]at x;cases x
   have b08:=a69.symm;have b09:=ι a61;have b10:=τ n3;have n5:=O.a4Z (M:=C) (e7:=D) (j0:=E) l0 a36;have l3:=n5.a5a (M:=o) (e7:=p) (j0:=r) l2 a63;have b11:=n5.all.1;have b12:=l3.all.1;have b13:=l3.all.2.1;have n9:=a4M b v S ⟨a.name,a.aE,s,cf⟩ _ l3 ⟨Q.n,Q.c,Q.cs⟩ w a04 a05;have fl:=ι l1;have b14:∀W S,W≠F->t W=β S->(t.set F (.cells (ab cf o p r))) W=β S:=λW S a71 k5=>by rw[ξ _ _ a71];exact k5
   refine aa ?_;generalize putAt (putAt e 2 (ab s C D E)) 39 (ab cf o p r)=a00 at*;have a73:dg ((t.set F (.cells (ab cf o p r))).set z (.cells a00)) h T V j b:=⟨(K.mono (κ η x)).set m,⟨v,S,by rw[ξ _ _ l6];simp_all,w⟩,d.oe,d.og⟩;have a74:cH h T V G ((t.set F (.cells (ab cf o p r))).set z (.cells a00)):=λW a81 A B a83 l4=>by
    have k4:W≠z:=by rintro rfl;rw[l]at l4;cases l4
    rw[ξ _ _ k4];exact κ η x _ _ (n4 W a81 A B a83 l4)
   generalize (t.set F _).set z _=a84 at*;refine ag (n9 a84) ?_;clear n9;rintro u b15⟨a01,N⟩;have a02:=a73.sub a01;obtain⟨b16,b17,a86,b18⟩:=a02.x;have b19:=τ a86;have a88:=a74.trans (cH.of a01);cases a03:kq b ⟨a.name,a.aE,s,cf⟩with
   |error f=>
    rw[a03]at N c;obtain⟨n0,rfl⟩:=N
    dsimp only[iZ]at c
    refine aa ?_;grind
   |ok b20=>
    rw[a03]at N c;obtain⟨b21,a89,rfl⟩:=N
    dsimp only[iZ]at c
    refine aa ?_;exact⟨_,η,by rw[<-c],by rw[<-c];exact a02.put a89,a88.AI⟩
variable{b4:List aK}{w j8:Υ}
def AJ(a:b4.find? (λe8=>decide (e8.name=w))=β e8):e8∈b4:=List.mem_of_find?_eq_some a
variable{t b8:Τ}{e i v O e0 j6:Nat}
def jL.a5b(c:α A.sum=32)(d:A.cE)(h:A.size<=2000000)(k:1<=e)(o:e<=8)(p:α t=e):jL i v 126 (λa=>od e t a A) A t e:=
 λr a x y z C D=>(a4x r i v a D A x y z c d h t C e k o p).mono λE F b=>⟨b.1,b.2.1,b.2.2.x⟩
def jL.a5c(b:α A.sum=32)(c:A.cE)(d:A.size<=2000000)(h:1<=e)(k:e<=8)(o:α t=e):jL i v 128 (λa=>jJ e t a A) A t e:=
 λp a r x y z C=>a4A p i v a C A r x y b c d t z e h k o
def jL.a5d(c:α A.sum=32)(d:A.cE)(h:1<=e)(k:e<=8)(o:α t=e):jL i v 127 (λa=>jt e t a A) A t e:=
 λp a r x y z C=>(a1s p i v a C A r x y c d t z e h k o).mono λD E b=>⟨b.1,b.2.1,b.2.2.x⟩
def jL.a5e(c:α A.sum=32)(d:A.cE)(h:1<=e)(k:e<=8)(o:α t=e):jL i v 129 (λa=>lM e t a A) A t e:=
 λp a r x y z C=>(a1A p i v a C A r x y c d t z e h k o).mono λD E b=>⟨b.1,b.2.1,b.2.2.x⟩
def lb(a:ai)(c:List aK)(d:db):Int×List aK×ai:=match px c d with
 |(_,ε)=>(3,c,a)
 |(h,β b)=>if h=0 then fX (λa=>jJ (α b.aE+1) d.row a b.bq) (λa=>lM (α b.aE+1) d.row a b.bu) a c b else(h,c,a)
theorem a5f(x:U)(p y z:Nat)(c:ai)(d:List aK)(e:dg x p y z c d)(f:∀b∈d,b.Fit)(s:c8 d=ζ)(a:df)(t:a.d.Fit):
  AC γ 62 [.ptr p 0,a.V] x λE C=>E=.v (.int .i64 (lb c d a.d).1)/\dg C p y z (lb c d a.d).2.2 (lb c d a.d).2.1/\cH p y z x C:=by
 obtain⟨u,k7⟩:=hG s;have h:(match px d a.d with
  |(_,ε)=>(3,d,c)
  |(g,β b)=>if g=0 then fX (λc=>jJ (α b.aE+1) a.d.row c b.bq) (λc=>lM (α b.aE+1) a.d.row c b.bu) c d b else(g,d,c))=lb c d a.d:=rfl
 generalize lb c d a.d=k8 at*;have i:=λC F=>Hj C p y z c d F acq a t;have j:a.V=.agg [ah a.d.kind,bc a.d.table,.J (bB a.d.aE) a.gw,.J (af a.d.row) a.dy]:=rfl;obtain⟨k9,l0,v,l1⟩:=e.x;rw[j]at i|-;clear j;have l2:=ι v;have l3:=gS.all.1;refine aL hm N1 ?_;refine bp λG w=>?_;have l:=κ (Z:=.cells [ah a.d.kind,bc a.d.table,.J (bB a.d.aE) a.gw,.J (af a.d.row) a.dy]) (η) w;have aD:=μ x G (.cells [ah a.d.kind,bc a.d.table,.J (bB a.d.aE) a.gw,.J (af a.d.row) a.dy]);generalize x.set G _=A at*;have m:=e.sub l;refine ag (i A m) ?_;rintro E l4⟨L,k⟩;have n:=L _ _ aD;have l5:=ι n;have B:=m.sub L;have H:=ο l L;have P:∀b T,eL b T->putAt eV 0 T=T:=λb T F=>(ps F).2.2.1;have l6:=gS.all.2.1;have l7:=P _ _ gS;have S:=jG;generalize eV=l8 at*;unfold px at k h;cases V:d.find? (λb=>decide (b.name=a.d.table))with
 |none=>
  rw[V]at k h
  dsimp only at k h
  obtain rfl:=k;refine aa ?_;refine aN λW r=>?_;rw[S];refine aa ?_;grind[η,κ,cH.of,ο]
 |some b=>
  rw[V]at k h;have hm:=AJ V
  dsimp only at k h
  by_cases D:α a.d.row=α b.aE+1
  .rw[if_pos D]at k h;obtain⟨T,o,rfl⟩:=k;obtain⟨I,K,M,_⟩:=o.all;have N:=P _ _ o;refine aa ?_;refine aN λW r=>?_;rw[S]
   dsimp only at h
   rw[if_pos rfl]at h;have O:G≠W:=by rintro rfl;rw[n]at r;cases r
   have l9:=O.symm;obtain⟨Q,X⟩:=o.k;obtain⟨Y,Z⟩:=o.z;have q:=u b hm;have n0:=q.c;have n1:=q.k.size;have k3:=B.sub (κ (Z:=.cells T) η r);have k4:=Hl _ p y z c d k3 f acq b T o (f b hm) a.d.row a.dy 128 129 _ _ acw acw (jL.a5c Q X acq acq acq D) (jL.a5e Y Z acq acq D);refine aa ?_;refine ag k4 ?_;rintro E n2⟨rfl,k5,k6⟩;refine aa ?_;exact⟨_,η,by rw[<-h];exact k5,(cH.of (ο H (κ η r))).trans k6⟩
  .rw[if_neg D]at k h;obtain⟨T,o,rfl⟩:=k;obtain⟨I,K,M,_⟩:=o.all;have N:=P _ _ o;refine aa ?_;refine aN λW r=>?_;rw[S];refine aa ?_
   dsimp only at h
   rw[if_neg acv]at h;grind[η,κ,cH.of,ο]
structure wz(c:ai)(d:Nat)(aV aU:Τ)(a:au)(rows:List Τ):Prop where
 one:α rows<=1
 sound:∀b∈rows,o9 c d aV aU a b
 full:rows=[]->eD aV aU a=ζ->∀b,¬o9 c d aV aU a b
def wA(a:ai)(b:Nat)(c d:Τ)(h:au):Prop:=∃k,mU a b c d h k/\eD c d h=ζ/\ei a b k=ε
structure AK where
 rows:List Τ
 us:Ψ
 L:R
 bI:List au
 es:Ψ
 pq:R
structure wB(c:ai)(d:Nat)(aV aU:Τ)(b:au)(A:ix)(B:U)(h:Nat)(x:AK)(o:U):Prop where
 at_:dT A B o h x.us x.L x.es x.pq
 wC:aB isRow x.rows x.us
 rd:∀a∈x.rows,α a=d
 AL:α x.rows<=1
 qE:aB s0 x.bI x.es
 rr:∀a∈x.rows,o9 c d aV aU b a
 or:∀k∈x.bI,mU c d aV aU b k/\eD aV aU b=ζ/\1<=cB k
 co:x.rows=[]->eD aV aU b=ζ->∀a,o9 c d aV aU b a->∃k∈x.bI,o9 c d aV aU k a
 rq:(x.bI.map cB).sum<=2097152
variable{c0:c4}{H:ai}
def mU.snoc{a:au}(c:mU H e t b8 j9 a)(b:ei H e a=β c0)(d:A∈c0.kids)(h:eD t b8 A=ζ):mU H e t b8 j9 A:=by
 induction c with
 |refl p=>exact .step b d h (.refl _)
 |step h1 k o _ ih=>exact .step h1 k o (ih b)
theorem AM:∀ {ks:List au},(∀a∈ks,1<=cB a)->α ks<=(ks.map cB).sum
 |[],_=>a8P _
 |a::ks,b=>by
  have:=AM (ks:=ks) λa c=>b a (by simp[c]);grind
def wB.len{c:ai}{d:Nat}{h k:Τ}{o:au}{p:ix}{r:U}{x:Nat}{b:AK}{y:U}(a:wB c d h k o p r x b y):α b.es<=2097152:=by rw[a.qE.len];exact a8W (AM λz C=>(a.or z C).2.2) a.rq
theorem a5g(Z:U)(k9 b04:Nat)(m:ai)(b54:bs Z k9 b04 m)(D:au)(n5 n9 a00:Own)(b05:α D.sum=32)(b55:D.cE)(p x:Τ)(a01 a02 a03:Own)(F:Nat)(t:cS p x F=ζ)(c32:D.size<=1048576)(b06:eD p x D=ζ->1<=D.size):
  AC γ 152 [.ptr k9 0,.agg (ab D n5 n9 a00),.agg (po p x a01 a02 a03),.v (.int .i64 (F:Int))] Z λa42 E=>Z.sub E/\
   ((wA m F p x D/\∃c f,a42=.aJ [.agg [c,f],.v (.int .i64 0),.v (.int .i64 21)])\/
   ∃rows I y u v,wz m F p x D rows/\av Z E 1 I y/\aB isRow rows I/\(∀h∈rows,α h=F)/\a42=.aJ [.agg [y,.v (.int .i64 u)],.v (.int .i64 v),.v (.int .i64 0)]):=by
 obtain⟨b07,c33,b08,a43⟩:=lI t;have b56:=(aT (M:=n5) (e7:=n9) (j0:=a00) b05).all;refine aL hm Pr ?_;refine bp λa47 c34=>?_;refine dk λb09 c35 c36 c37=>?_;refine gZ λa04 a48 c38 c2 aD aP=>?_;generalize l0:((Z.set a47 _).set b09 _).set a04 _=g;have a05:Z.sub g:=by subst l0;exact aR
 have bl:g a47=β (.cells (ab D n5 n9 a00)):=by subst l0;exact aR
 have bx:g b09=β (.cells (po p x a01 a02 a03)):=by subst l0;exact aR
 have bz:g a04=β (.cells [.J [] .nil,.v (.int .i64 0)]):=by subst l0;exact aR
 clear l0;have b57:=b54.mono a05;refine bh (a3F p x _ _ _ F acq g) ?_;rw[t];have b58:=ι bl;have b59:=ι bx;refine aa ?_;refine aN λd k3=>?_;have b10:a47≠d:=by rintro rfl;rw[k3]at bl;cases bl
 have b60:=b10.symm;have b61:a04≠d:=by rintro rfl;rw[k3]at bz;cases bz
 have c39:=b61.symm;refine aa ?_
 let a:ix:=⟨k9,p,x,a01,a02,a03,F⟩;have b11:dT a g (g.set d (.cells (lS k9 p x a01 a02 a03 F (.J [] .nil) 0 0 0 (.J [] .nil)))) d [] (.J [] .nil) [] (.J [] .nil):=
  ⟨k3,⟨0,0,0,μ _ _ _⟩,av.nil (κ η k3),⟨κ η k3,(λ_ b=>by cases b),.inl ⟨rfl,.inl rfl⟩⟩,(λb=>by cases b),(λb=>by cases b),λ_ b=>by cases b⟩
 refine ag (Gn a g _ d [] _ [] _ b11 D n5 n9 a00 b05 b55 (by show α p<=8;omega) acr) ?_;rintro _ b62⟨b63,b64,a52,k4⟩;have a06:∃b12,wB m F p x D a g d ⟨[],[],.J [] .nil,b12,b64,b63⟩ b62:=by
  have c40:cB D<=2097152:=by unfold cB;omega
  split at k4
  .rename_i w;obtain⟨b65,a56,rfl⟩:=k4;exact⟨[D],a52,trivial,(λ_ b=>by cases b),a8M _,⟨a56,trivial⟩,(λ_ b=>by cases b),(λz a57=>by
    obtain rfl:=a8B.1 a57;have:=b06 w;exact⟨.refl _,w,by unfold cB;omega⟩),(λ_ _ h r=>⟨D,acr,r⟩),by trivial⟩
  .rename_i w;subst k4;exact⟨[],a52,trivial,(λ_ b=>by cases b),a8M _,trivial,(λ_ b=>by cases b),(λ_ b=>by cases b),(λ_ b=>absurd b w),a8M _⟩
 obtain⟨b12,a06⟩:=a06;refine aa ?_;refine cd [0,3,8,11] (λ_:AK=>[]) (λc E=>wB m F p x D a g d c E) (λc=>(c.bI.map cB).sum) _ ⟨a06,aR⟩ ?_;clear a06 a52 k4 b11 b58 b59 b10 b60 bl bx b56 k3;rintro⟨rows,I,y,b13,a61,c41⟩ E o c42;have i:=o.at_
 dsimp only at i
 have c43:=i;obtain⟨u,v,l1,b14⟩:=i.x;obtain⟨c44,c45⟩:=i.w.len;have fl:=ι b14;refine aa ?_;refine aG (λa07=>?_) λa07=>?_;rotate_left;have a62:=o.qE.len
 .have c46:=a07;have b15:a61=[]:=a8q acq;have b66:b13=[]:=a8q (by rw[b15]at a62;exact a62.symm);subst b15;subst b66;have b67:=τ (i.l.1 _ _ bz);have c47:=fv i.l;refine aa ?_;refine⟨_,η,κ (ο a05 i.l.1) a48,.inr ⟨rows,I,y,u,v,⟨o.AL,o.rr,λT A h r=>?_⟩,av.other (i.l.base a05) a48 (λG=>?_),o.wC,o.rd,rfl⟩⟩
  .obtain⟨z,a57,_⟩:=o.co T A h r;cases a57
  .have:=av.fresh i.l G;rw[bz]at this;cases this
 have a62:=o.qE.len;have b68:a61≠[]:=by grind
 obtain⟨b16,b17,post,b18,b19,c48,b20⟩:=i.sort b68;obtain⟨c49,b21⟩:=pn.of (s:=E) (l:=b16) (g:=b17) (B:=post) (e1:=a61) (b5:=205) (ds:=[]) acx λa08 a63 a65 t=>by
  obtain⟨z,_,T⟩:=o.qE.mem a63;obtain⟨B,_,A⟩:=o.qE.mem t;obtain⟨a07,b69⟩:=a3E T A;exact⟨a07,λa68 _=>b69 _⟩
 rw[b18];clear fl b18;refine ag (Gk a3y a3s a3o a3q a3m a3k acq rfl b19 (a8W o.len acq) b21 λG K=>?_) ?_
 .obtain⟨z,_,T,_,L,P,S,c,f,id,b70,rfl⟩:=o.qE.mem K;obtain⟨M,N,_⟩:=w6 (M:=L) (e7:=P) (j0:=S) (e:=c) (i:=f) (id:=id) (b3:=b70) T;exact⟨M,by rw[hY,aQ,if_pos rfl,N]⟩
 rintro _ _⟨a68,k5,rfl⟩;have l2:=b20 a68 k5;obtain⟨b71,l3,b72⟩:=o.qE.perm k5
 match a68,b71,b72,k5,l3,l2 with
 |[],_,_,k5,_,_=>exact absurd k5.length_eq (by simp_all)
 |G::k6,z::O,⟨b73,b22⟩,k5,l3,l2=>
 obtain⟨u,v,l1,a69⟩:=l2.x;obtain⟨C,c50,c51,a71,c52,c53,b74,b23⟩:=l2.tail;generalize W E b16 b17 post (G::k6)=a09 at*;have fl:=ι a69;have a73:=τ a69;clear b20 b21 b19 b14;obtain⟨l4,b75,L,P,S,b76,b77,b78,b79,rfl⟩:=b73;have b24:=(w6 (M:=L) (e7:=P) (j0:=S) (e:=b76) (i:=b77) (id:=b78) (b3:=b79) l4).2.2.1;rw[hY,b24]at b23;have c54:=(aT (M:=L) (e7:=P) (j0:=S) l4).all;have b25:=lT (M:=L) (e7:=P) (j0:=S) l4;refine aa ?_;refine aN λk7 a74=>?_;have b26:d≠k7:=by rintro rfl;rw[a69]at a74;cases a74
 have b27:=b26.symm;refine aa ?_;have a81:(a09.set d (.cells (lS a.fV a.aV a.aU a.gN a.ev a.hz a.d y u v l1 C))) k7=none:=(ξ _ _ b27).trans a74;have b28:=(a71 u v l1).fresh a81;have b29:=(a71 u v l1).mono (κ (Z:=.cells (ab z L P S)) η a81);rw[U.dL a09 b26]at b29;have gV:((a09.set k7 (.cells (ab z L P S))).set d (.cells (lS a.fV a.aV a.aU a.gN a.ev a.hz a.d y u v l1 C))) k7=β (.cells (ab z L P S)):=(ξ _ _ b27).trans (μ _ _ _);generalize (a09.set k7 (.cells (ab z L P S))).set d _=a83 at*;clear a81 a71 b74 b23 b24 a73 fl l2 b25;obtain⟨b80,l5⟩:=b29.wide;have b81:res (km d y C) a83 k7=β (.cells (ab z L P S)):=by
  rw[pr];exact gV;rintro(b|b|b)
  .omega
  .exact b28.l b
  .exact b28.w b
 generalize res (km d y C) a83=b82 at*;have c55:(b13.map cB).sum=cB z+(O.map cB).sum:=by rw[<-(l3.map cB).sum_nat];simp
 have Q:=λB j=>o.or B (l3.mem_iff.1 j);have b83:=o.rq
 dsimp only at b83
 refine ag (a3I a b82 a83 d I rows y k6 C b80 o.wC o.rd a43 b07 z L P S l4) ?_;rintro _ b30⟨n,a65,rfl,b84⟩;have b85:=ι (n.l.1 _ _ b81);refine aa ?_;refine aG (λt=>?_) λt=>?_
 .have b06:=b84 t;refine⟨⟨rows,I,y,O,k6,C⟩,⟨n.base l5,o.wC,o.rd,o.AL,b22,o.rr,λB j=>Q B (by simp[j]),λb=>?_,?_⟩,?_⟩;simp_all
  .show(O.map cB).sum<= _;omega
  grind
 have b31:=(b57.mono l5).mono n.l.1;refine ag (vC b30 k9 b04 m b31 z L P S l4 (λ_=>b75) F b08 a43) ?_;rintro a42 X⟨a84,a10⟩;cases H:ei m F z with
 |none=>
  rw[H]at a10;obtain rfl:=a10;have b32:=a84 _ _ (n.l.1 _ _ (l5 _ _ bz));refine aa ?_;refine aN λl q=>?_;have b86:a04≠l:=by rintro rfl;rw[b32]at q;cases q
  have c56:=b86.symm;have b67:=τ b32;refine aa ?_;have b33:=ο a05 (ο l5 (ο n.l.1 a84));refine⟨_,η,κ (κ b33 (Ι b33 q)) a48,.inl ⟨⟨z,(Q z acr).1,(Q z acr).2.1,H⟩,_,_,rfl⟩⟩
 |some k=>
  rw[H]at a10;obtain⟨c,f,rfl,c57,c58,c59,k8,l6,a11,a86,_,_⟩:=a10;have a13:=n.mono a84;obtain⟨l7,Y,l8,a14⟩:=a13.x;have c60:=fv k8;have c61:=fv l6;refine aa ?_;refine aN λl q=>?_;have b34:d≠l:=by rintro rfl;rw[a14]at q;cases q
  have b35:=b34.symm;have fl:=ι a14;have a73:=τ a14;have a63:br .add (.int .i64 Y) (.int .i64 1)=β (.int .i64 (IntKind.i64.wrap (Y+1))):=rfl;have b36:=bS.dA k8 acq rfl (a11.cells λ_ _=>cZ.cells);have b87:=b36.len;rw[a11.len]at b87;have a88:(X.set d (.cells (lS a.fV a.aV a.aU a.gN a.ev a.hz a.d y l7 (IntKind.i64.wrap (Y+1)) l8 C))) l=none:=(ξ _ _ b35).trans q;have a89:=(a13.set l7 (IntKind.i64.wrap (Y+1)) l8).mono (κ (Z:=.cells [.v (.int .u8 (k.kind.toNat)),c,f]) η a88);rw[U.dL X b34]at a89;refine aa ?_;have lE:((X.set l (.cells [.v (.int .u8 (k.kind.toNat)),c,f])).set d (.cells (lS a.fV a.aV a.aU a.gN a.ev a.hz a.d y l7 (IntKind.i64.wrap (Y+1)) l8 C))) l=β (.cells [.v (.int .u8 (k.kind.toNat)),c,f]):=(ξ _ _ b35).trans (μ _ _ _);have b37:=(a13.set l7 (IntKind.i64.wrap (Y+1)) l8).fresh a88;have b88:∀h a15,X h=β a15->¬km d y C h->((X.set l (.cells [.v (.int .u8 (k.kind.toNat)),c,f])).set d (.cells (lS a.fV a.aV a.aU a.gN a.ev a.hz a.d y l7 (IntKind.i64.wrap (Y+1)) l8 C))) h=β a15:=λh a15 r hm=>by
   have L:h≠d:=λG=>hm (.inl G);have P:h≠l:=by rintro rfl;rw[q]at r;cases r
   rw[ξ _ _ L,ξ _ _ P];exact r
  generalize (X.set l (.cells [.v (.int .u8 (k.kind.toNat)),c,f])).set d _=a90 at*;have a92:∀ {a08:R}{h:Nat},cN a08=β h->b30 h=ε->¬km d y C h:=λt r hm=>by
   rcases hm with rfl|G|G
   .obtain⟨_,_,_,b⟩:=n.x;rw[r]at b;cases b
   .exact av.has n.l G r
   .exact n.w.has G r
  have a94:(res (km d y C) X).sub (res (km d y C) a90):=λh a15 r=>by
   grind[hm,km,s4,pr]
  have b89:=(bS.dA (av.res k8 λl9 V=>a92 V (av.fresh k8 V)) acq rfl (a11.cells λ_ _=>cZ.cells)).mono (ο (Gs l6.1) a94);have b38:=(bS.dA (av.res l6 λl9 V=>a92 V (Ι k8.1 (av.fresh l6 V))) acq rfl (a86.cells λ_ _=>Κ)).mono a94;obtain⟨b90,b91⟩:=a89.wide;have b92:res (km d y C) a90 l=β (.cells [.v (.int .u8 (k.kind.toNat:Int)),c,f]):=by
   rw[pr];exact lE;rintro(b|b|b)
   .trivial
   .exact b37.l b
   .exact b37.w b
  generalize res (km d y C) a90=n0 at*;have b93:=ο l5 b91;clear b88 a92 a94 b36 k8 l6 fl a73 a14 a13 a89 lE a63 q a88 b31 b85;have b39:=(vJ H).ok;obtain⟨b94,_,_⟩:=lG b39;refine cd [0,3,8,11,13,79,80] (λc:Nat×(List Τ)×Ψ×R=>[(81,.v (.int .i64 (c.1)))]) (λc E=>c.1<=α k.rows/\dT a n0 E d c.2.2.1 c.2.2.2 k6 C/\aB isRow c.2.1 c.2.2.1/\(∀h∈c.2.1,α h=F)/\α c.2.1<=1/\(∀h∈c.2.1,o9 m F p x D h)/\(c.2.1=[]->rows=[]/\∀h,(h,ζ)∈k.rows.take c.1->jx p x h=θ)) (λc=>α k.rows - c.1) (0,rows,I,y) ⟨⟨a8M _,b90,o.wC,o.rd,o.AL,o.rr,λb=>⟨b,λh r=>by simp at r⟩⟩,aR⟩ ?_;rintro⟨e,b40,a16,a18⟩ b95 ⟨b96,n1,a95,n2,a19,a27,a29⟩ c62
  dsimp only at b96 n1 a95 n2 a19 a27 a29
  refine aa ?_;refine aG (λc2=>?_) λc2=>?_
  .have a96:e<α k.rows:=acq;obtain⟨_,K,a97,rfl⟩:=a11.get (i:=e) (x:=k.rows.getD e ([],θ)) (by simp_all);obtain⟨l9,b97,V⟩:=b89.get e _ K;have b41:∀E,n0.sub E->du ζ 2 E l9=β (.agg [.J (af (k.rows.getD e ([],θ)).1) a97,.v (.bool (k.rows.getD e ([],θ)).2)]):=λE b=>V.ld E b ζ 2 acq (by simp[hY]);have b98:=b41 b95 n1.l.1;have hm:k.rows.getD e ([],θ)∈k.rows:=by simp_all
   have G:=fa (b:=([],θ)) a96;generalize k.rows.getD e ([],θ)=b99 at*;obtain⟨a30,a98⟩:=b99
   dsimp only at b98 G hm
   have b42:=b94 _ hm;clear b41 V K;refine aa ?_;refine aN λc63 c00=>?_;have c01:=n1.mono (κ (Z:=.cells [.J (af a30) a97,.v (.bool a98)]) η c00);refine aa ?_;refine ag (a3H a n0 _ d a16 b40 a18 k6 C c01 a95 n2 b08 a43 b07 a19 a30 a98 a97 b42) ?_;rintro _ c64⟨b43,c02,b44,b45,b46,a99⟩;refine aa ?_;have c03:a98=ζ->jx p x a30=ζ->o9 m F p x D a30:=λT A=>by subst T;exact⟨z,k,(Q z acr).1,H,hm,A⟩
   split at a99
   .rename_i a34;rw[Ξ]at a34;obtain⟨h,rfl,r⟩:=a99;refine⟨(e+1,[h],b43,b44),⟨a96,b45,b46,λc04 b=>?_,acr,λc04 b=>?_,λb=>by cases b⟩,rfl,acq⟩
    all_goals
     obtain rfl:=a8B.1 b;rcases r with rfl|r
    .exact b42
    .exact n2 _ r
    .exact c03 a34.1 a34.2
    .exact a27 _ r
   .rename_i a34;subst a99;refine⟨(e+1,c02,b43,b44),⟨a96,b45,b46,n2,a19,a27,λb=>⟨(a29 b).1,λh r=>?_⟩⟩,rfl,acq⟩;grind
  obtain rfl:e=α k.rows:=acq;rw[a8F]at a29;have c65:=ι (n1.l.1 _ _ b92);have c05:=b38.len;rw[a86.len]at c05;refine aa ?_;refine cd [0,3,8,11,90,91] (λc:Nat×Ψ×R=>[(92,.v (.int .i64 (c.1)))]) (λc E=>c.1<=α k.kids/\dT a n0 E d a16 a18 c.2.1 c.2.2/\aB s0 (O++(k.kids.take c.1).filter (eD p x)) c.2.1) (λc=>α k.kids - c.1) (0,k6,C) ⟨⟨a8M _,n1,by simpa using b22⟩,aR⟩ ?_;rintro⟨s,b00,b47⟩ b48 ⟨c06,a36,n3⟩ c66
  dsimp only at c06 a36 n3
  refine aa ?_;refine aG (λaD=>?_) λaD=>?_
  .have b49:s<α k.kids:=acq;obtain⟨_,K,b01,c07,M,N,n4,rfl⟩:=a86.get (i:=s) (x:=k.kids.getD s aw) (by simp_all);obtain⟨l9,b97,V⟩:=b38.get s _ K;have c08:=(aT (M:=M) (e7:=N) (j0:=n4) b01).all;have c67:du ζ 37 b48 l9=β (.agg (ab (k.kids.getD s aw) M N n4)):=by have:=V.ld b48 a36.l.1 ζ 37 acq (by rw[hY];omega);rw[this,aQ,if_pos rfl,hY,c08.2.1]
   have G:=fa (b:=aw) b49;have b25:=lT (M:=M) (e7:=N) (j0:=n4) b01;generalize k.kids.getD s aw=b02 at*;have c09:α b00<=100000000:=by have T:=n3.len;rw[Ρ]at T;have A:=AM (ks:=O) λB j=>(Q B (by simp[j])).2.2;grind
   clear V K;refine aa ?_;refine aN λc68 c19=>?_;have c21:=a36.mono (κ (Z:=.cells (ab b02 M N n4)) η c19);refine aa ?_;refine ag (Gn a n0 _ d a16 a18 b00 b47 c21 b02 M N n4 b01 c07 (by show α p<=8;omega) c09) ?_;rintro _ c69⟨c22,b50,k4,b51⟩;refine aa ?_;refine⟨(s+1,b50,c22),⟨b49,k4,?_⟩,rfl,acq⟩;show aB s0 (O++(k.kids.take (s+1)).filter (eD p x)) b50;rw[G,ab4,<-a8w];split at b51
   .rename_i w;obtain⟨b65,a56,rfl⟩:=b51;have w:eD p x b02=true:=w;rw[abQ w];exact n3.snoc a56
   grind
  .obtain rfl:s=α k.kids:=acq;rw[a8F]at n3;obtain⟨c70,c71⟩:=Gt (t:=p) (b8:=x) H;have c23:=tZ b39;refine⟨⟨b40,a16,a18,O++k.kids.filter (eD p x),b00,b47⟩,⟨a36.base b93,a95,n2,a19,n3,a27,λB j=>?_,λT A h r=>?_,?_⟩,?_⟩
   .rcases a8u.1 j with j|j
    .simp_all
    .obtain⟨a38,b03⟩:=aaZ.1 j;obtain⟨_,a08,a65⟩:=jE (c23 B a38);have:=a08 (a65 (A1 b03));exact⟨(Q z acr).1.snoc H a38 b03,(Q z acr).2.1,by unfold cB;omega⟩
   .obtain⟨a38,b03⟩:=a29 T;obtain⟨c72,b52,c24⟩:=o.co a38 A h r;rcases a8E.1 (l3.mem_iff.2 b52)with rfl|b52
    .obtain⟨c73,c74,c25,c26,c27,c28⟩:=c24;cases c25 with
     |refl=>simp_all
     |step b53 c29 c30 c31=>rw[H]at b53;obtain rfl:=Β b53;exact⟨_,aah _ (aaZ.2 ⟨c29,c30⟩),_,_,c31,c26,c27,c28⟩
    grind
   grind;grind
def AN(d:ai)(h:List aK)(k:Υ)(id:Int)(b:R):Prop:=match h.find? (λa=>decide (a.name=k))with
 |none=>b=.aJ [.J [] .nil,.v (.bool θ),.v (.int .i64 3)]
 |some a=>
  (wA d (α a.aE+1) (id::δ (α a.aE) iX) (id::δ (α a.aE) jy) a.bq/\b=.aJ [.J [] .nil,.v (.bool θ),.v (.int .i64 21)])\/
  ∃rows,wz d (α a.aE+1) (id::δ (α a.aE) iX) (id::δ (α a.aE) jy) a.bq rows/\(∀c∈rows,α c=α a.aE+1)/\
   ((rows=[]/\b=.aJ [.J [] .nil,.v (.bool θ),.v (.int .i64 0)])\/∃c o p,rows=c::o/\b=.aJ [.J (af c) p,.v (.bool ζ),.v (.int .i64 0)])
theorem a5h(a:c8 b4=ζ)(b:e8∈b4):fb (α e8.aE+1) e8.bq=true:=by simp only[c8,Ξ,a8A,a9C,decide_eq_true_eq]at a;obtain⟨c,d,rfl⟩:=a8S b;simp_all [fG]
theorem Hm(id:Int)(a:e<=7):cS (id::δ e iX) (id::δ e jy) (e+1)=true:=by have hm:iX<=jy:=acv;simp only[cS,a8m,aa4,Ξ,decide_eq_true_eq,a8A,a9C];grind
theorem a5i(x:U)(y n k3:Nat)(q:ai)(E:List aK)(s:dg x y n k3 q E)(k4:c8 E=ζ)(W:Υ)(id:Int):
  AC γ 124 [.ptr y 0,bc W,.v (.int .i64 id)] x λt a07=>x.sub a07/\AN q E W id t:=by
 obtain⟨a08,a94⟩:=hG k4;obtain⟨a09,a10,F,a11⟩:=s.x;have a95:=ι F;have a96:=gS.all.1;have u:∀a T,eL a T->putAt eV 0 T=T:=λa T v=>(ps v).2.2.1;have a13:=u _ _ gS;have w:=jG;have k:=find_spec E a09 a10 W a11 acq x;unfold Found at k;unfold AN;generalize eV=a97 at*;refine aL hm OJ ?_;refine ag k ?_;clear k;rintro t k5⟨rfl,k⟩;cases A:E.find? (λa=>decide (a.name=W))with
 |none=>rw[A]at k;obtain rfl:=k;refine aa ?_;refine aN λa98 a99=>?_;rw[w];exact aR
 |some a=>
  rw[A]at k;obtain⟨T,e,rfl⟩:=k;obtain⟨b00,b01,b02,b03,k6,k7,k8,k9,a14,a15,b04,b05,b06⟩:=e.all;have b07:=u _ _ e;have l0:=λx=>u1 a T e x;have hm:=AJ A;have l1:=a08 a hm;have a16:=l1.c;have a18:=l1.k.size;obtain⟨a19,a27⟩:=e.k;clear u a13;refine aa ?_;refine aN λz B=>?_;rw[w];clear w;have a29:y≠z:=by rintro rfl;rw[F]at B;cases B
  have b08:=a29.symm;have C:=κ (Z:=.cells T) (η) B;have de:=μ k5 z (.cells T);refine aa ?_;refine bh (l0 _) ?_;generalize k5.set z _=H at*;refine ag (a3j (α a.aE+1) acq acq H) ?_;rintro _ l2⟨b09,b10,rfl,b11,f,g⟩;have l3:(af (δ (α a.aE+1) iX)).length=α a.aE+1:=by rw[bM,aa4]
  have l4:(af (δ (α a.aE+1) jy)).length=α a.aE+1:=by rw[bM,aa4]
  obtain⟨aS,d,G,o,rfl,L,l5,a30,I,l6,b12,_⟩:=f.aq (λK=>by rw[K]at l3;simp at l3);obtain⟨b,c,D,p,rfl,M,l7,a34,N,l8,b13,_⟩:=g.aq (λK=>by rw[K]at l4;simp at l4);rw[a8Y]at a30 I l6 a34 N l8;have l9:=g.1 _ _ l5;have n0:aS≠b:=by rintro rfl;rw[l5]at M;cases M
  have a36:=n0.symm;have i:=ο f.1 g.1;have n1:=i _ _ de;have n2:=i _ _ (C _ _ F);have b14:=(s.sub C).sub i;have P:=Ι f.1 M;have b15:z≠aS:=by rintro rfl;rw[de]at L;cases L
  have b16:z≠b:=by rintro rfl;rw[de]at P;cases P
  have b17:y≠aS:=by rintro rfl;rw[C _ _ F]at L;cases L
  have b18:y≠b:=by rintro rfl;rw[C _ _ F]at P;cases P
  refine aa ?_;refine aN λr h=>?_;have a38:aS≠r:=by rintro rfl;rw[l9]at h;cases h
  have a42:b≠r:=by rintro rfl;rw[l7]at h;cases h
  have a43:z≠r:=by rintro rfl;rw[n1]at h;cases h
  have a47:y≠r:=by rintro rfl;rw[n2]at h;cases h
  have b19:=a38.symm;have b20:=a42.symm;have b21:=a43.symm;have b22:=a47.symm;have b23:cO 1 (.aq aS d G 1) (.v (.int .i64 0))=β (.ptr aS 0):=by grind[jj]
  have b24:cO 1 (.aq b c D 1) (.v (.int .i64 0))=β (.ptr b 0):=by grind[jj]
  have b25:=τ l9;have b26:=τ l7;have b27:=ι n1;have fl:=ι n2;have b28:1<=α o:=acq;have b29:1<=α p:=acq;have a48:(putAt o 0 [R.v (.int .i64 id)]).take d=af (id::δ (α a.aE) iX):=by
   have O:d=α a.aE+1:=acq;have S:(o.drop 1).take (d - 1)=af (δ (α a.aE) iX):=by rw[<-a9F,I];rfl
   have Q:d - 1=α a.aE:=acq;rw[Q]at S;show([]++[R.v (.int .i64 id)]++o.drop 1).take d= _;rw[a8y,O,ac5,aaD,S];rfl
  have a52:(putAt p 0 [R.v (.int .i64 id)]).take c=af (id::δ (α a.aE) jy):=by
   have O:c=α a.aE+1:=acq;have S:(p.drop 1).take (c - 1)=af (δ (α a.aE) jy):=by rw[<-a9F,N];rfl
   have Q:c - 1=α a.aE:=acq;rw[Q]at S;show([]++[R.v (.int .i64 id)]++p.drop 1).take c= _;rw[a8y,O,ac5,aaD,S];rfl
  have b30:(putAt o 0 [R.v (.int .i64 id)]).length=α o:=eF _ _ _ acs;have b31:(putAt p 0 [R.v (.int .i64 id)]).length=α p:=eF _ _ _ acs;have b32:(l2.set r (.cells [.aq aS d G 1,.aq b c D 1])) r=β (.cells [.aq aS d G 1,.aq b c D 1]):=μ _ _ _;clear f g I N l6 l8;refine aa ?_;generalize putAt o 0 [R.v (.int .i64 id)]=j at*;generalize putAt p 0 [R.v (.int .i64 id)]=l at*;refine bh (l0 _) ?_;generalize X:((l2.set r (.cells [.aq aS d G 1,.aq b c D 1])).set aS (.cells j)).set b (.cells l)=V;have a56:V aS=β (.cells j):=by subst X;rw[ξ _ _ n0,μ]
  have a57:V b=β (.cells l):=by subst X;rw[μ]
  have b33:=Ι i h;have a61:H.sub V:=by grind[κ]
  clear X;have n3:=View.aq (n:=d) (cap:=G) (k:=1) a56 acq;rw[jX,a48]at n3;have a62:(V.set aS (.ro j)) b=β (.cells l):=by rw[ξ _ _ a36];exact a57
  have n4:=View.aq (n:=c) (cap:=D) (k:=1) a62 acq;rw[jX,a52]at n4;have n5:H.sub ((V.set aS (.ro j)).set b (.ro l)):=κ (κ a61 L) P;have a63:=View.agg (a:=[]) (k:=[.aq b c D 1,.v (.int .u8 0),.v (.int .i64 0),.J [] .nil,.v (.int .i64 1),.v (.bool θ)]) rfl n3;have a65:=View.agg (a:=[.J (af (id::δ (α a.aE) iX)) .any]) (k:=[.v (.int .u8 0),.v (.int .i64 0),.J [] .nil,.v (.int .i64 1),.v (.bool θ)]) rfl n4;have a68:=a63.trans a65;have a69:=Hm id a16;have a71:eD (id::δ (α a.aE) iX) (id::δ (α a.aE) jy) a.bq=ζ->1<=a.bq.size:=λv=>by
   simp only[eD,Ξ,decide_eq_true_eq]at v;have b34:=jE (a5h k4 hm);simp_all
  have a73:=AC.lL (m:=γ) (g:=[.ptr n 0,.agg (ab a.bq k6 k7 k8)]) a68 (a5g _ n k3 q (s.hg.mono (ο C n5)) a.bq k6 k7 k8 a19 a27 _ _ .any .any .nil (α a.aE+1) a69 a18 a71);refine ag a73 ?_;rintro t a74⟨a81,a83⟩;have b35:=ο C (ο n5 a81);rcases a83 with⟨b36,b37,b38,rfl⟩|⟨rows,b39,Y,n9,b40,b41,Z,m,b42,rfl⟩
  .refine aa ?_;refine aN λa00 a01=>?_;refine aa ?_;simp
  .have b43:=fv Z;refine aa ?_;refine aN λa00 a01=>?_;have a84:=Z.src;obtain⟨a02,k9,a14,a15⟩:=a84;rw[a8Y]at k9;have a03:=m.len;refine aa ?_;cases rows with
   |nil=>
    have a04:a02=0:=by rw[a8s]at a03;omega
    subst a04;refine aa ?_;grind
   |cons a86 rest=>
    have a04:¬(a02:Int)=0:=by rw[a8m]at a03;omega
    obtain⟨_,a88,a89,rfl⟩:=m.get (i:=0) rfl;have a90:=bS.dA (Z.mono (κ (Z:=.cells [Y,.v (.int .i64 n9)]) (η) a01)) acq m.flat.symm (m.cells λ_ _=>υ);obtain⟨a05,a06,a92⟩:=a90.get 0 _ a88;have a06:cO 1 Y (.v (.int .i64 0))=β a05:=a06;have b44:du θ 1 (a74.set a00 (.cells [Y,.v (.int .i64 n9)])) a05=β (.J (af a86) a89):=a92.ld _ η θ 1 acq (by simp[ρ]);refine aa ?_;grind
variable{a7:aC}
theorem Hn{a:gM}(k:mP e i a)(r:0<i)(o:jK e a7 A)(d:ju e a.aS t):ju e (eA a A).aS t:=by
 have h:hl e a.aS:=by
  rcases k.aS with⟨b,_⟩|⟨_,b⟩
  .omega
  .exact b
 show ju e (cT a.aS (A.aV,A.aU)) t;rcases o.aS with⟨b,c,p⟩|⟨b,c⟩
 .rw[c,p,FM h];exact d
 .exact FN h c (.inl d)
def Ho{a:gM}(h:mP e i a)(k:jK e a7 A)(o:t∈a7.all)(d:ju e (A.aV,A.aU) t):ju e (eA a A).aS t:=by
 have x:=ab7 o;show ju e (cT a.aS (A.aV,A.aU)) t;rcases k.aS with⟨p,b,y⟩|⟨p,b⟩
 .omega
 rcases h.aS with⟨r,c⟩|⟨r,c⟩
 .rw[c,qo b];exact d
 .exact FN c b (.inr d)
theorem AO{b:Nat}(h:1<=b)(k:b<=8){c:Τ}:∀ {o:aC},o.c9 b->o.size<=1048576->c∈o.all->ju b ((bn o).aV,(bn o).aU) c
 |.nil,_,_,d=>by cases d
 |.node p live D E,d,F,a=>by
  simp only[Ζ]at F;have x:=eM h k d.a acq;have y:=eM h k d.b acq;have r:=zm h k d.r;have z:mP b (if live=ζ then 1 else 0) (ea ⟨0,1,([],[])⟩ (p,live)):=by
   cases live with
   |false=>exact⟨rfl,.inl ⟨rfl,rfl⟩⟩
   |true=>refine⟨rfl,.inr ⟨acv,?_⟩⟩;show hl b (cT ([],[]) (gp p));rw[qo r];exact r
  have C:=Ai z x;show ju b (eA (eA (ea ⟨0,1,([],[])⟩ (p,live)) (bn D)) (bn E)).aS c;simp only[aC.all,a8u]at a;rcases a with (a|a)|a
  .have:=ab7 a;exact Hn C acq y (Ho z x a (AO h k d.a acq a))
  .exact Ho C y a (AO h k d.b acq a)
  .have G:live=ζ/\c=p:=by simp_all
   obtain⟨rfl,rfl⟩:=G;have L:ju b (ea ⟨0,1,([],[])⟩ (c,ζ)).aS c:=by show ju b (cT ([],[]) (gp c)) c;rw[qo r];unfold gp;rw[if_pos (by have:=d.r.len;omega)];exact λP _=>⟨abU _,abU _⟩
   grind[Hn]
def Hp{a:Τ}(b:α a=e):jx t b8 a=ζ↔cS t b8 e=ζ/\ju e (t,b8) a:=by unfold jx;simp only[b,Ξ,a8A,a9C,decide_eq_true_eq];rfl
def AP(c:1<=e)(d:e<=8){h:Τ}(a:a7.c9 e)(k:a7.size<=1048576)(b:b8∈a7.all)(y:jx h t b8=ζ):eD h t (bn a7)=true:=by
 have o:=eM c d a k;have G:=ab7 b;have z:=(a b8 (aC.gB b)).len;obtain⟨p,C⟩:=(Hp z).1 y;have D:=AO c d a k b;have E:=lN.1 p;have F:cS (bn a7).aV (bn a7).aU e=true:=by
  rcases o.aS with⟨r,_⟩|⟨_,r⟩
  .omega
  .exact r.ok
 have L:=o.live;unfold eD kj pg;simp only[E.2.2.1,Ξ,a8A,a9C,decide_eq_true_eq];refine⟨acq,⟨p,F⟩,λx t=>?_⟩;have:=C x t;have:=D x t
 dsimp only at*
 unfold hF;omega
def Hq:ei H e aw=none:=by
 cases a:ei H e aw with
 |none=>rfl
 |some b=>have:=(Gt (t:=[]) (b8:=[]) a).2;have c:(aw).size=0:=rfl;omega
theorem Hr(r:1<=e)(x:e<=8)(y:mU H e t b8 A j9):∀ {a:aC},A=bn a->a.c9 e->a.size<=1048576->eg H a->∃b,j9=bn b/\b.c9 e/\b.size<=1048576/\eg H b/\(∀z∈b.all,z∈a.all)/\(eD t b8 A=ζ->eD t b8 j9=ζ):=by
 induction y with
 |refl C=>grind
 |@step C k W f c hk g i ih=>
  intro a o d p h;cases a with
  |nil=>rw[o,show bn .nil=aw from rfl,Hq]at c;cases c
  |node j live D E=>
   rw[o,u6 r x d p h]at c;obtain rfl:=Β c;simp only[Ζ]at p;have F:k=bn D\/k=bn E:=by simpa[cg] using hk
   rcases F with rfl|rfl
   .obtain⟨b,G,L,P,S,T,V⟩:=ih rfl d.a acq h.2.1;grind[aC.all]
   .obtain⟨b,G,L,P,S,T,V⟩:=ih rfl d.b acq h.2.2;grind[aC.all]
def Hs(a:1<=e)(b:e<=8)(d:a7.c9 e)(h:a7.size<=1048576)(k:eg H a7):¬wA H e t b8 (bn a7):=by
 rintro⟨D,o,p,c⟩;obtain⟨r,rfl,x,y,z,_,C⟩:=Hr a b o rfl d h k;cases r with
 |nil=>exact A1 (C p) rfl
 |node E live F G=>rw[u6 a b x y z]at c;cases c
def a5j(b:1<=e)(c:e<=8){d:Τ}(h:a7.c9 e)(k:a7.size<=1048576)(o:eg H a7)(p:o9 H e b8 d (bn a7) t):t∈a7.all/\jx b8 d t=true:=by
 obtain⟨G,L,r,a,hm,x⟩:=p;obtain⟨y,rfl,z,C,D,E,_⟩:=Hr b c r rfl h k o;refine⟨E t ?_,x⟩;cases y with
 |nil=>rw[show bn .nil=aw from rfl,Hq]at a;cases a
 |node F live P S=>
  rw[u6 b c z C D]at a;obtain rfl:=Β a;have:t=F/\live=true:=by simpa[cg] using hm
  obtain⟨rfl,rfl⟩:=this;simp[aC.all]
theorem AQ{E:ai}{o:Nat}(c:1<=o)(d:o<=8){F G p:Τ}:∀ {h:aC},h.c9 o->h.size<=1048576->eg E h->p∈h.all->jx F G p=ζ->o9 E o F G (bn h) p
 |.nil,_,_,_,b,_=>by cases b
 |.node P live T V,b,L,r,a,k=>by
  have x:=u6 c d b L r;simp only[Ζ]at L;simp only[aC.all,a8u]at a;rcases a with (a|a)|a
  .obtain⟨y,z,C,D⟩:=AQ c d b.a acq r.2.1 a k;exact⟨y,z,.step x (by simp[cg]) (AP c d b.a acq a k) C,D⟩
  .obtain⟨y,z,C,D⟩:=AQ c d b.b acq r.2.2 a k;exact⟨y,z,.step x (by simp[cg]) (AP c d b.b acq a k) C,D⟩
  .have S:live=ζ/\p=P:=by simp_all
   obtain⟨rfl,rfl⟩:=S;exact⟨_,_,.refl _,x,by simp[cg],k⟩
variable{X:List Τ}
theorem Ht(b:1<=e)(c:e<=8)(d:a7.c9 e)(h:a7.size<=1048576)(k:eg H a7)(o:wz H e t b8 (bn a7) X):(X=[]↔ ∀a∈a7.all,¬jx t b8 a=ζ):=by
 constructor
 .intro x a p r;exact o.full x (AP b c d h p r) a (AQ b c d h k p r)
 .intro y;cases X with
  |nil=>rfl
  |cons a rest=>obtain⟨z,C⟩:=a5j b c d h k (o.sound a acr);simp_all
theorem Hu{id:Int}(d:e<=7)(b:bU (e+1) t):jx (id::δ e iX) (id::δ e jy) t=ζ↔t.getD 0 0=id:=by
 rw[Hp b.len];constructor
 .rintro⟨_,c⟩;have:=c 0 acq;grind
 .intro h;refine⟨Hm id d,λa k=>?_⟩;cases a with
  |zero=>simp only[a8Q];omega
  |succ a=>have c:a<e:=acq;have o:=b.len;have hm:=b.kh (t.getD (a+1) 0) (by simp_all);simp only[a8V];simp only[a9c,List.getElem?_replicate,if_pos c,a9W];simp only[a9c]at hm;unfold iX jy;omega
def oh(b:ai)(d:List aK)(c:db)(h:Int×List aK×ai):Prop:=match d.find? (λa=>decide (a.name=c.table))with
 |none=>h=(3,d,b)
 |some a=>if α c.row=α a.aE+1 then
   (wA b (α a.aE+1) (c.row.getD 0 0::δ (α a.aE) iX) (c.row.getD 0 0::δ (α a.aE) jy) a.bq/\h=(21,d,b))\/
   ∃rows,wz b (α a.aE+1) (c.row.getD 0 0::δ (α a.aE) iX) (c.row.getD 0 0::δ (α a.aE) jy) a.bq rows/\(∀k∈rows,α k=α a.aE+1)/\
    ((rows=[]/\h=fX (λb=>od (α a.aE+1) c.row b a.bq) (λb=>jt (α a.aE+1) c.row b a.bu) b d a)\/(rows≠[]/\h=(8,d,b)))
  else h=(6,d,b)
def a5k(z:U)(p r x:Nat)(k:ai)(c:List aK)(l:dg z p r x k c)(m:∀d∈c,d.Fit)(n:c8 c=ζ)(a:df)(H:a.d.Fit):
  AC γ 61 [.ptr p 0,a.V] z λD E=>∃res,oh k c a.d res/\D=.v (.int .i64 res.1)/\dg E p r x res.2.2 res.2.1/\cH p r x z E:=by
 obtain⟨I,l9⟩:=hG n;have q:=λE C=>Hj E p r x k c C acq a H;have s:a.V=.agg [ah a.d.kind,bc a.d.table,.J (bB a.d.aE) a.gw,.J (af a.d.row) a.dy]:=rfl;obtain⟨n0,n1,K,n2⟩:=l.x;rw[s]at q|-;clear s;have n3:=ι K;have n4:=gS.all.1;refine aL hm MZ ?_;refine bp λP M=>?_;have t:=κ (Z:=.cells [ah a.d.kind,bc a.d.table,.J (bB a.d.aE) a.gw,.J (af a.d.row) a.dy]) (η) M;have aD:=μ z P (.cells [ah a.d.kind,bc a.d.table,.J (bB a.d.aE) a.gw,.J (af a.d.row) a.dy]);generalize z.set P _=N at*;have u:=l.sub t;refine ag (q N u) ?_;rintro D O⟨S,b⟩;have V:=S _ _ aD;have n5:=ι V;have W:=u.sub S;have e:=ο t S;have f:∀d T,eL d T->putAt eV 0 T=T:=λd T C=>(ps C).2.2.1;have n9:=gS.all.2.1;have a00:=f _ _ gS;have g:=jG;generalize eV=a01 at*;unfold px at b;unfold oh;cases F:c.find? (λd=>decide (d.name=a.d.table))with
 |none=>
  rw[F]at b
  dsimp only at b
  obtain rfl:=b;refine aa ?_;refine aN λG h=>?_;rw[g];refine aa ?_;refine⟨_,η,(3,c,k),rfl,rfl,W.sub (κ η h),cH.of (ο e (κ η h))⟩
 |some d=>
  rw[F]at b;have hm:=AJ F
  dsimp only at b
  by_cases y:α a.d.row=α d.aE+1
  .rw[if_pos y]at b;obtain⟨T,o,rfl⟩:=b;obtain⟨Q,X,Y,_⟩:=o.all;have Z:=f _ _ o;have k3:=@dY a.d.row;have a02:=bM (t:=a.d.row);refine aa ?_;refine aN λG h=>?_;rw[g];have k4:P≠G:=by rintro rfl;rw[V]at h;cases h
   have a03:=k4.symm;obtain⟨k5,k6⟩:=o.k;obtain⟨k7,k8⟩:=o.z;have v:=I d hm;have a04:=v.c;have a05:=v.k.size;have w:=W.sub (κ (Z:=.cells T) η h);have k9:=κ (Z:=.cells T) (η) h _ _ V;have l0:=μ O G (.cells T);have l1:=ο e (κ (Z:=.cells T) (η) h);have a06:cO 1 (.J (af a.d.row) a.dy) (.v (.int .i64 0))=β (.bZ [.v (.int .i64 (a.d.row.getD 0 0))]):=by have C:=k3 (b:=0) acq;have l2:(0:Int)<=0:=acq;rw[hX l2];show eG 1 (af a.d.row)[0]?= _;rw[C];rfl
   dsimp only
   simp only[if_pos y];refine aa ?_;refine ag (a5i _ p r x k c w n a.d.table (a.d.row.getD 0 0)) ?_;rintro D l3⟨L,b⟩;unfold AN at b;rw[F]at b
   dsimp only at b
   have i:=w.sub L;have j:=ο l1 L;have a07:=ι (L _ _ k9);have a08:=ι (L _ _ l0);rcases b with⟨a09,rfl⟩|⟨rows,A,B,⟨rfl,rfl⟩|⟨l4,l5,a10,rfl,rfl⟩⟩
   .refine aa ?_;exact⟨_,η,(21,c,k),.inl rfl,rfl,i,cH.of j⟩
   .have l6:=Hl l3 p r x k c i m acq d T o (m d hm) a.d.row a.dy 126 127 _ _ acw acw (jL.a5b k5 k6 acq acq acq y) (jL.a5d k7 k8 acq acq y);refine aa ?_;refine ag l6 ?_;rintro D a11⟨rfl,l7,l8⟩;refine aa ?_;exact⟨_,η,_,.inr ⟨[],A,B,.inl ⟨rfl,rfl⟩⟩,rfl,l7,(cH.of j).trans l8⟩
   .refine aa ?_;exact⟨_,η,(8,c,k),.inr ⟨l4::l5,A,B,.inr ⟨acr,rfl⟩⟩,rfl,i,cH.of j⟩
  .rw[if_neg y]at b;obtain⟨T,o,rfl⟩:=b;obtain⟨Q,X,Y,_⟩:=o.all;have Z:=f _ _ o;refine aa ?_;refine aN λG h=>?_;rw[g]
   dsimp only
   simp only[if_neg y];refine aa ?_;refine⟨_,η,(6,c,k),rfl,rfl,W.sub (κ η h),cH.of (ο e (κ η h))⟩
def fY(c:ai)(b:List aK)(a:db)(d:Int×List aK×ai):Prop:=
 if eU a=θ then d=(1,b,c)
 else if a.kind=1 then d=((iZ (kp b ⟨a.table,a.aE,aw,aw⟩) b).1,(iZ (kp b ⟨a.table,a.aE,aw,aw⟩) b).2,c)
 else if a.kind=2 then d=((iZ (cL b a.table) b).1,(iZ (cL b a.table) b).2,c)
 else if a.kind=3 then oh c b a d
 else d=lb c b a
theorem Hv(b:U)(d h k:Nat)(r:ai)(x:List aK)(Z:dg b d h k r x)(j:∀k3∈x,k3.Fit)(m:c8 x=ζ)(a:df)(l:a.d.Fit):
  AC γ 28 [.ptr d 0,a.V] b λg w=>∃res,fY r x a.d res/\g=.v (.int .i64 res.1)/\dg w d h k res.2.2 res.2.1/\cH d h k b w:=by
 have k6:=(hG m).2;have n:=λb=>G2 a l b;have A:=λb L=>a4X b d h k r x L j acq a l;have B:=λb L=>a4W b d h k r x L j acq a;have H:=λb L=>a5k b d h k r x L j m a l;have I:=λb L=>a5f b d h k r x L j m a l;have K:a.V=.agg [ah a.d.kind,bc a.d.table,.J (bB a.d.aE) a.gw,.J (af a.d.row) a.dy]:=rfl;rw[K]at n A B H I|-;clear K;refine aL hm Md ?_;refine bp λq k4=>?_;have e:=κ (Z:=.cells [ah a.d.kind,bc a.d.table,.J (bB a.d.aE) a.gw,.J (af a.d.row) a.dy]) (η) k4;have aD:=μ b q (.cells [ah a.d.kind,bc a.d.table,.J (bB a.d.aE) a.gw,.J (af a.d.row) a.dy]);generalize b.set q _=f at*;have i:=Z.sub e;have k7:=ι aD;cases cm:eU a.d with
 |false=>refine bh (n f) ?_;exact⟨_,η,(1,x,r),by unfold fY;rw[if_pos cm],rfl,i,cH.of e⟩
 |true=>
  refine bh (n f) ?_;rw[show δ 5 (R.v .nilFunc)=[.v .nilFunc,.v .nilFunc,.v .nilFunc,.v .nilFunc,.v .nilFunc]from rfl];have k8:∀z C D E F y:R,putAt [z,C,D,E,F] 1 [y]=[z,y,D,E,F]:=λ_ _ _ _ _ _=>rfl;have k9:∀z C D E F y:R,putAt [z,C,D,E,F] 2 [y]=[z,C,y,E,F]:=λ_ _ _ _ _ _=>rfl;have l0:∀z C D E F y:R,putAt [z,C,D,E,F] 3 [y]=[z,C,D,y,F]:=λ_ _ _ _ _ _=>rfl;have l1:∀z C D E F y:R,putAt [z,C,D,E,F] 4 [y]=[z,C,D,E,y]:=λ_ _ _ _ _ _=>rfl;have l2:∀z C D E F y M N O v:R,putAt [z,C,D,E,F] 0 [y,M,N,O,v]=[y,M,N,O,v]:=λ_ _ _ _ _ _ _ _ _ _=>rfl;have l3:∀Q X Y,(R.bL Q X Y).cells=[.bL Q X Y]:=λ_ _ _=>rfl;have P:a.d.kind.toNat=1\/a.d.kind.toNat=2\/a.d.kind.toNat=3\/a.d.kind.toNat=4:=by have L:=cm;simp only[eU,Ξ]at L;grind
  refine aa ?_;refine aN λc G=>?_;have k5:q≠c:=by rintro rfl;rw[aD]at G;cases G
  have l4:=k5.symm;rcases P with P|P|P|P
  .have s:my 1 5 (.ptr c 0) (ah a.d.kind)=β (.ptr c 1):=by have:=sO (e:=1) (i:=5) (v:=c) (O:=0) (e2:=.u8) (b3:=(a.d.kind.toNat)) acq acq;rw[a8N,show 0+a.d.kind.toNat*1=1 by omega]at this;exact this
   refine aa ?_;have t:a.d.kind=1:=a9f.1 P;generalize o:(f.set c _)=p;have S:dg p d h k r x:=by subst o;exact i.sub (κ η G)
   have T:cH d h k b p:=by subst o;exact cH.of (ο e (κ η G))
   clear o;refine fm acx (A p S) ?_;rintro g u⟨V,W,rfl⟩;refine aa ?_;refine⟨_,η,(_,_,r),?_,rfl,V,T.trans W⟩;unfold fY;grind
  .have s:my 1 5 (.ptr c 0) (ah a.d.kind)=β (.ptr c 2):=by have:=sO (e:=1) (i:=5) (v:=c) (O:=0) (e2:=.u8) (b3:=(a.d.kind.toNat)) acq acq;rw[a8N,show 0+a.d.kind.toNat*1=2 by omega]at this;exact this
   refine aa ?_;have t:a.d.kind=2:=a9f.1 P;generalize o:(f.set c _)=p;have S:dg p d h k r x:=by subst o;exact i.sub (κ η G)
   have T:cH d h k b p:=by subst o;exact cH.of (ο e (κ η G))
   clear o;refine fm acx (B p S) ?_;rintro g u⟨V,W,rfl⟩;refine aa ?_;refine⟨_,η,(_,_,r),?_,rfl,V,T.trans W⟩;simp_all [fY]
  .have s:my 1 5 (.ptr c 0) (ah a.d.kind)=β (.ptr c 3):=by have:=sO (e:=1) (i:=5) (v:=c) (O:=0) (e2:=.u8) (b3:=(a.d.kind.toNat)) acq acq;rw[a8N,show 0+a.d.kind.toNat*1=3 by omega]at this;exact this
   refine aa ?_;have t:a.d.kind=3:=a9f.1 P;generalize o:(f.set c _)=p;have S:dg p d h k r x:=by subst o;exact i.sub (κ η G)
   have T:cH d h k b p:=by subst o;exact cH.of (ο e (κ η G))
   clear o;refine fm acx (H p S) ?_;rintro g u⟨res,l5,rfl,V,W⟩;refine aa ?_;refine⟨_,η,res,?_,rfl,V,T.trans W⟩;simp_all [fY]
  .have s:my 1 5 (.ptr c 0) (ah a.d.kind)=β (.ptr c 4):=by have:=sO (e:=1) (i:=5) (v:=c) (O:=0) (e2:=.u8) (b3:=(a.d.kind.toNat)) acq acq;rw[a8N,show 0+a.d.kind.toNat*1=4 by omega]at this;exact this
   refine aa ?_;have t:a.d.kind=4:=a9f.1 P;generalize o:(f.set c _)=p;have S:dg p d h k r x:=by subst o;exact i.sub (κ η G)
   have T:cH d h k b p:=by subst o;exact cH.of (ο e (κ η G))
   clear o;refine fm acx (I p S) ?_;rintro g u⟨rfl,V,W⟩;refine aa ?_;refine⟨_,η,lb r x a.d,?_,rfl,V,T.trans W⟩;simp_all [fY]
theorem py:c8 b4=ζ↔(∀b∈b4,fG b=ζ)/\b4.Pairwise (λc d=>c7 c.name d.name=ζ)/\α b4<=8:=by
 constructor
 .intro a;have o:=AF a;simp only[c8,Ξ,a8A,a9C,decide_eq_true_eq]at a;refine⟨λb h=>?_,?_,a.2⟩
  .obtain⟨p,r,rfl⟩:=a8S h;simp_all
  grind[List.pairwise_iff_getElem,List.getD]
 .rintro⟨x,k,y⟩;rw[aa3]at k;simp only[c8,Ξ,a8A,a9C,decide_eq_true_eq,a9U];grind
theorem Hw{b:List aK}(c:c8 b4=ζ)(a:cL b4 w=.ok b):c8 b=true:=by
 unfold cL at a;rw[if_pos c]at a;split at a
 .obtain rfl:=Except.ok.inj a;obtain⟨d,h,k⟩:=py.1 c;have o:(b4.take (dc b4 w)++b4.drop (dc b4 w+1)).Sublist b4:=by grind[dc,List.Sublist.append_left,List.drop_drop,List.drop_sublist,List.take_append_drop]
  grind[py,Nat.le_trans]
 .cases a
theorem Hx{c:List aK}(a:kq b4 e8=.ok c):c8 c=true:=by
 unfold kq at a;split at a
 .rename_i b;simp only[Ξ]at b;obtain⟨b,p⟩:=b;split at a
  .rename_i d;obtain rfl:=Except.ok.inj a;simp only[gC,Ξ,decide_eq_true_eq]at d;obtain⟨h,r⟩:=d;obtain⟨x,k,o⟩:=py.1 b;have y:(b4[dc b4 e8.name]'h).name=e8.name:=by simp_all
   refine py.2 ⟨λz C=>?_,?_,by rw[aaI];exact o⟩;grind
   .rw[aa3]at k|-;grind
  .cases a
 .cases a
def Hy{c:aK->Bool}:∀ {d:List aK},∀b∈d.takeWhile c,c b=ζ
 |[],b,a=>by cases a
 |h::d,b,a=>by
  rw[a9G]at a;split at a
  .rcases a8E.1 a with rfl|a
   .assumption
   .exact Hy b a
  .cases a
theorem Hz{c:aK->Bool}:∀ {d:List aK}{b:aK}{h:List aK},d.dropWhile c=b::h->c b=θ
 |[],_,_,a=>by cases a
 |k::d,b,h,a=>by
  rw[aaE]at a;split at a
  .exact Hz a
  simp_all
theorem HA{o:List aK}(b:kp b4 e8=.ok o):c8 o=true:=by
 unfold kp at b;split at b
 .rename_i d;simp only[Ξ]at d;obtain⟨d,E⟩:=d;split at b
  .cases b
  rename_i F;split at b
  .cases b
  rename_i G;obtain rfl:=Except.ok.inj b;obtain⟨L,p,P⟩:=py.1 d;have r:b4.take (dc b4 e8.name)=b4.takeWhile λa=>c7 a.name e8.name:=by grind[List.takeWhile_append_dropWhile,c7,dc,List.take_left]
  have x:b4.drop (dc b4 e8.name)=b4.dropWhile λa=>c7 a.name e8.name:=by grind[List.takeWhile_append_dropWhile,c7,dc,List.drop_left]
  have el:=a9b (p:=λa:aK=>c7 a.name e8.name) (l:=b4);have S:∀a∈b4.takeWhile (λa=>c7 a.name e8.name),c7 a.name e8.name=true:=λa c=>Hy a c;have y:∀a∈b4.dropWhile (λa=>c7 a.name e8.name),c7 e8.name a.name=true:=by
   intro a c;cases h:b4.dropWhile (λa=>c7 a.name e8.name)with
   |nil=>rw[h]at c;cases c
   |cons k T=>
    have V:=Hz h;have W:dc b4 e8.name<α b4:=by grind
    have e:b4.getD (dc b4 e8.name) default=k:=by grind
    have f:k.name≠e8.name:=λg=>by
     simp_all [gC]
    have z:c7 e8.name k.name=true:=by grind[c7,absurd,Gy]
    rw[h]at c;rcases a8E.1 c with rfl|c
    .exact z
    grind[w9,List.pairwise_cons]
  rw[r,x];refine py.2 ⟨λa c=>?_,?_,?_⟩;grind
  .rw[<-el]at p;obtain⟨C,D,i⟩:=a9r.1 p;refine a9r.2 ⟨C,a8R.2 ⟨y,D⟩,λj l m n=>?_⟩;grind
  grind
 .cases b
end Go.Proofs.YtkafjfkjahgihaaGreat
namespace Go.bD
open Go
variable{n b6:R}{f s e5:U}{g B e1:Ψ}{e i v O e0 j6:Nat}
theorem View.obj(p:f e=β (.cells (B++ .aq i O e0 1::e1)))(z:f i=β (.cells g))(C:O*1<=α g)(D:e≠i):
  View f n ((f.set i (.ro g)).set e (.cells (B++ .J (eo 1 O g) .any::e1))) n:=λt u v E F=>by
 obtain⟨G,a⟩:=Step.freeze E z;have L:(f.set i (.ro g)) e=β (.cells (B++ .aq i O e0 1::e1)):=by rw[ξ _ _ D];exact p
 obtain⟨w,P,T,S,h,V⟩:=a.holds.cx e _ L;refine⟨G,⟨⟨a.holds.ro,λr W b=>?_⟩,a.le,a.os,a.tape,a.output,a.size,λ_ _ _=>rfl,λk A=>?_,a.nf,λk j l o=>?_⟩,F.mono a.le⟩
 .by_cases c:r=e
  .subst c;rw[μ]at b;obtain rfl:=Β b;refine⟨λH d=>?_,P,T,S,⟨by have:=h.1;simp_all,λx y m=>?_⟩,V⟩
   .simp only[a8u,a8E]at d;rcases d with d|rfl|d
    .simp_all
    .rfl
    .simp_all
   .by_cases q:x=α B
    .subst q;have s:y=.J (eo 1 O g) .any:=by simpa using m.symm
     subst s;exact bb.frozen a.holds (μ _ _ _) C (h.2 (α B) (.aq i O e0 1) acr)
    .refine h.2 x y ?_;grind
  .rw[ξ _ _ c]at b;exact a.holds.cx r W b
 grind[ξ]
 .have c:k≠e:=by rintro rfl;rw[p]at o;cases o
  rw[ξ _ _ c];exact a.jR k j l o
def AR(k o:U):Prop:=∀a b c d h,k a=β (.cells [.J b c,.J d h])->o a=β (.cells [.J b c,.J d h])
end Go.bD
namespace Go.Proofs.YtkafjfkjahgihaaGreat
open Go Go.bD
def bA.wD{r x:U}(d:AR r x):∀ {a:Nat}{b:a6.T a}{c:R},bA r a b c->bA x a b c
 |0,b,c,⟨h,y,k,ev,h1,o,p⟩=>⟨h,y,k,ev,h1,d _ _ _ _ _ o,p⟩
 |a+1,b,c,⟨h,z,k,ev,h1,o,p,C⟩=>⟨h,z,k,ev,h1,d _ _ _ _ _ o,p.mono λ_ _=>bA.wD d,C⟩
variable{e i v O e0 j6:Nat}
theorem a5l(r:Τ)(S:Own)(C:a6.T 0)(T:R)(o:U)(q:bA o 0 C T)(V:GT e 0 C)(Y:e<=8):
  AC γ 137 [T,.J (af r) S] o λy c=>o.sub c/\bA c 0 (a6.cL bF r 0 C) y:=by
 obtain⟨Z,k3,s,k4,rfl,W,G⟩:=q;obtain⟨d,rfl⟩:=a6.ik C;rw[a6.rK]at G;have f:=V.ok;have t:=V.dQ;rw[a6.kN]at f t;have k5:=G.len;show AC _ _ _ _ λy c=>o.sub c/\bA c 0 (a6.leaf (d.filter λa=>decide (a≠r))) y;refine AC.view (q:=λy c=>∃a h k,y=.ptr a 0/\o a=ε/\av (o.set a (.cells [h,.J [] .nil])) c 1 k h/\aB isRow (d.filter λa=>decide (a≠r)) k) ?_ ?_
 .have u:=ι W;refine aL hm CK ?_;refine bp λa z=>?_;refine cd [0,1,5] (λb:Nat=>[(6,.v (.int .i64 (b)))]) (λb c=>b<=α d/\∃h k,av (o.set a (.cells [h,.J [] .nil])) c 1 k h/\aB isRow ((d.take b).filter λa=>decide (a≠r)) k) (λb=>α d - b) 0 ⟨⟨acq,_,[],av.nil η,trivial⟩,aR⟩ ?_;rintro b v⟨k6,h,k,p,x⟩k7;have k8:=x.len;have w:=p.1 _ _ (μ _ _ _);have u:=rd (ο (κ η z) p.1) W;have L:=ι w;refine aa ?_;refine aG (λA=>?_) λA=>?_
  .obtain⟨_,k9,g,rfl⟩:=G.at [] (e:=b) acq;have B:=fa (a:=d) (b:=[]) (e:=b) acq;have l0:=(f (d.getD b []) (by grind)).len;generalize d.getD b []=D at*;refine nG (tL D r g S v acq) ?_;refine aG (λc2=>?_) λc2=>?_
   .have H:=abi (λa=>decide (a≠r)) (d.take b);rw[a8l]at H;refine Zy p (λ_ i l1 P=>?_);have l2:=τ (P.1 _ _ (μ _ _ _));have l3:=fv P;have j:=ka (Z:=.cells [i,.J [] .nil]) P (μ o a (.cells [h,.J [] .nil]));rw[ς]at j;refine aa ?_;exact⟨b+1,⟨acq,i,_,j,by rw[B,ab4,abQ (by simpa using c2),abT];exact x.snoc ⟨g,rfl⟩⟩,rfl,acq⟩
   grind
  .rw[Ο acq]at x;exact⟨_,η,a,h,k,rfl,z,p,x⟩
 .rintro y c⟨a,h,k,rfl,z,p,x⟩;have L:=p.1 _ _ (μ _ _ _);have l:=ο (κ η z) p.1;rcases p.2 with⟨rfl,I⟩|⟨m,K,l4,M,rfl,E,N,O,l5,l6,l7,l8⟩
  .refine⟨_,c,View.refl,l,?_⟩;rcases I with rfl|rfl<;>exact⟨a,[],_,.nil,rfl,L,x⟩
  .have Q:a≠m:=by rintro rfl;rw[μ]at E;cases E
   refine⟨_,_,View.obj (B:=[]) L N (by rw[O];omega) Q,?_,a,_,.any,.nil,rfl,μ _ _ _,?_⟩
   .intro D s F;have n:D≠a:=by rintro rfl;rw[z]at F;cases F
    have X:D≠m:=by rintro rfl;rw[ξ _ _ n,F]at E;cases E
    rw[ξ _ _ n,ξ _ _ X];exact l _ _ F
   .rw[jX,show M.take K=k by simp_all];exact x
def qF{d:U}{b:Nat}:∀ {h:List (a6.T b)}{a:Ψ},aB (bA d b) h a->flat a=a
 |[],[],_=>rfl
 |_:: _,k::a,c=>by
  obtain⟨o,p,r,rfl,_⟩:=bA.ptr c.1;have:=qF c.2;simp only[flat,a8I]at this|-;rw[this];rfl
variable{n b6:R}{f s e5:U}
def bA.shape{p:a6.T e}(r:bA f e p n):∃a k b d c,n=.ptr a 0/\f a=β (.cells [.J k b,.J d c])/\α k+α d=a6.len p/\(e=0->d=[])/\(e≠0->k=[]/\d≠[]):=by
 cases e with
 |zero=>obtain⟨a,x,b,c,rfl,o,h⟩:=r;exact⟨a,x,b,[],c,rfl,o,by rw[h.len];rfl,λ_=>rfl,λe=>absurd rfl e⟩
 |succ e=>obtain⟨a,y,b,c,rfl,o,h,z,_⟩:=r;refine⟨a,[],c,y,b,rfl,o,by rw[h.len];simp[a6.len],λe=>(by cases e),λ_=>⟨rfl,?_⟩⟩;rintro rfl;exact z (aB.z7 h)
variable{g B e1:Ψ}
theorem a5m{a:List (a6.T i)}(k:aB (bA f i) a g)(p:g≠[])(o:B.take e=g):∀b c d h,B≠[.J b c,.J d h]:=by
 rintro b c d h rfl;cases g with
 |nil=>trivial
 |cons r g=>
  cases a with
  |nil=>trivial
  |cons x a=>
   obtain⟨y,_,_,rfl,_⟩:=bA.ptr k.1;cases e with
   |zero=>cases o
   |succ e=>grind
theorem av.HB(b:av f s 1 g n):∃a,View s n a (.J g .any)/\f.sub a:=by grind[View.dA,jX,Γ]
theorem bA.rows{a:U}{b:a6.T 0}{c:Nat}{d h:Ψ}{k o:Own}(p:bA a 0 b (.ptr c 0))(r:a c=β (.cells [.J d k,.J h o])):aB isRow (a6.rows b) d:=by obtain⟨_,_,_,_,x,y,z⟩:=p;simp_all
theorem bA.kids{b:U}{a:Nat}{c:a6.T (a+1)}{d:Nat}{k h:Ψ}{o p:Own}(r:bA b (a+1) c (.ptr d 0))(x:b d=β (.cells [.J k o,.J h p])):aB (bA b a) (a6.kids c) h:=by obtain⟨_,_,_,_,y,z,a,_⟩:=r;simp_all
variable{M e7 j0:Own}
def sc(a:aW 1 g)(b:flat g=g):bT f 1 (.J g M)=β (α g,g):=by have:=(ke.J (o:=M) a).src f η;rwa[b]at this
def wE(k:av s f 1 g (.aq e v O 1))(a:g[i]?=β n):cO 1 (.aq e v O 1) (.v (.int .i64 (i:Int)))=β (.ptr e i)/\∃b,f.read e=β b/\re θ 1 i (β b)=β n:=by have y:=(a8p.1 a).1;obtain⟨z,C,D,b,c,E,o,p,d,r,F,G⟩:=k.aq (by rintro rfl;simp at a);simp only[R.aq.injEq,and_true]at c;obtain⟨rfl,rfl,rfl⟩:=c;rw[a8Y]at p d r;have h:=jj (b:=1) (c:=e) (d:=v) (h:=O) (k:=.i64) (a:=(i)) acq acq;rw[a8N,a8Y]at h;refine⟨h,b,ι o,?_⟩;rw[<-d,a9j acq]at a;obtain⟨x,rfl⟩:=a8p.1 a;rw[CW acq,a8G x];rfl
theorem a5n{a:List (a6.T i)}{b:a6.T i}(p:e<α a)(k:2<=α a)(o:¬2<=a6.len b):
  ∃d h,(a.set e b)[e - 1]?=β d/\(a.set e b)[e - 1+1]?=β h/\a6.lK a e b=(a.set e b).take (e - 1)++a6.kO d h++(a.set e b).drop (e - 1+2):=by
 rw[a6.lK,if_neg o];by_cases c:e=0
 .subst c;refine⟨b,a[1],abY acq,acr,?_⟩;rw[if_pos rfl,Μ k,ach acq];rfl
 .refine⟨a[e - 1],b,by grind,by grind,?_⟩;rw[if_neg c,Μ acq,ach acq,List.take_set_of_le acq];simp[c]
set_option maxHeartbeats 1000000 in
theorem a5o(l1:1<=e)(Q:e<=8)(r:Τ)(l2:Own)(X:bU e r):∀(a:Nat)(G:a6.T a)(C:R)(p:U),bA p a G C->GT e a G->
  AC γ 137 [C,.J (af r) l2] p λA c=>p.sub c/\bA c a (a6.cL bF r a G) A:=by
 have b48:=X.len;intro a
 induction a with
 |zero=>intro G C p u l;exact a5l r l2 G C p u l Q
 |succ a ih=>
 intro G C p u l;obtain⟨h,rfl⟩:=a6.gr G;have m:=l.kids l1 Q X;have l3:=FI h C r l2 p u acq λb L=>by
  obtain⟨v,_,b49,a92⟩:=m.gv b L;have:=v.dQ;have:=a92.len;grind
 obtain⟨b50,l4,b51,b52,rfl,Y,k,_,_⟩:=u;rw[a6.fw]at k;have b53:=k.len;obtain⟨a94,b54⟩:=m.two;obtain⟨b,L⟩:=m.at_;have Z:a6.cL bF r (a+1) (a6.node h)=a6.node (a6.lK h (a6.cU bF r (h.map (a6.cQ a))) (a6.cL bF r a b)):=by simp only[a6.cL,a6.fw];rw[L]
 obtain⟨_,_,a95,a96⟩:=a6.qm (gx l1 Q) X (a+1) (a6.node h) l.wf l.ej l.ok;rw[Z,a6.dR,a6.dR]at a95;rw[Z,a6.dR]at a96;rw[Z];rw[m.FJ]at l3;clear Z;generalize a6.cU bF r (h.map (a6.cQ a))=o at*;have a29:=(a8p.1 L).1;obtain⟨v,a97,_,_⟩:=m.gv b (a8r L);obtain⟨_,_,a98,a99⟩:=a6.qm (gx l1 Q) X a b v.wf v.ej v.ok;have a30:=λC p u=>ih b C p u v;have b00:=λb L=>(a6.hd.1 (m.gv b L).2.1).2.1;have b01:=(a6.hd.1 a97).1;have l5:=a5n (b:=a6.cL bF r a b) a29 a94;have l6:2<=a6.len (a6.cL bF r a b)->a6.lK h o (a6.cL bF r a b)=h.set o (a6.cL bF r a b):=λa=>by rw[a6.lK,if_pos a]
 clear m l;generalize a6.lK h o (a6.cL bF r a b)=l7 at*;generalize a6.cL bF r a b=B at*;refine AC.view (q:=λA c=>∃d x z D P,A=.ptr d 0/\p d=ε/\p x=ε/\d≠x/\c d=β (.cells [.J [] .nil,.aq x z D 1])/\(∃E,c x=β (.cells E)/\z<=α E/\E.take z=P)/\aB (bA c a) l7 P/\p.sub c) ?_ ?_;rotate_left
 .rintro A c⟨d,x,z,D,P,rfl,F,b02,b03,k3,⟨E,f,b55,b04⟩,b05,b06⟩;have b56:P≠[]:=by rintro rfl;grind[aB.z7]
  refine⟨_,_,View.obj (B:=[.J [] .nil]) k3 f acq b03,?_,d,_,.any,.nil,rfl,μ _ _ _,?_,?_,by rw[a6.fw];omega⟩
  .intro n a34 H;have b07:n≠d:=by rintro rfl;rw[F]at H;cases H
   have a36:n≠x:=by rintro rfl;rw[b02]at H;cases H
   rw[ξ _ _ b07,ξ _ _ a36];exact b06 _ _ H
  .rw[a6.fw,jX,b04];refine b05.mono λ_ _=>bA.wD λI b08 b09 b10 a34 K=>?_;have k4:I≠d:=by rintro rfl;rw[k3]at K;simp at K
   have l8:I≠x:=by rintro rfl;grind[a5m,bt.cells.inj,Option.some.inj]
   rw[ξ _ _ k4,ξ _ _ l8];exact K
  grind[a6.fw]
 have b11:=ι Y;have b57:¬(α h:Int)=0:=acq;have l9:=bA.c k;refine aL hm CK ?_;refine cl l3 ?_;rintro _ a38⟨M,rfl⟩;have b12:=rd M Y;have n0:=k.mono λ_ _=>bA.mono M;refine vg (sc l9 (qF k)) λb58 b13 N=>?_;obtain⟨g,z,D,b59,rfl,a36,a42,b14,b15,b16,b60,b61⟩:=av.aq N (by grind);obtain rfl:z=α h:=acq;have a43:=N.1;have b17:=rd (ο M a43) Y;obtain⟨_,a47,n1⟩:=n0.get L;obtain⟨b18,_,_,rfl,_⟩:=n1.ptr;refine cl (a30 _ b13 (bA.mono a43 n1)) ?_;rintro A n2⟨n3,n4⟩;obtain⟨i,_,_,rfl,_⟩:=n4.ptr;obtain⟨n5,a48,a52,-,y⟩:=av.put (a:=.ptr i 0) (by rw[qF n0];exact N.mono n3) acq l9 a47 rfl;have b19:=(wE (N.mono n3) a47).1;have b20:=τ a48;rw[a8Y]at y a52;have aD:n5.take (α h)=l4:=by have I:=n3 _ _ a42;simp_all
 obtain⟨S,n9⟩:∃S,n2.set g (.cells (putAt n5 o [.ptr i 0]))=S:=⟨_,rfl⟩;have a56:AR n2 S:=λI b08 b09 b10 a34 K=>by
  have l8:I≠g:=by grind
  rw[<-n9,ξ _ _ l8];exact K
 change av a38 (n2.set g (.cells (putAt n5 o [.ptr i 0]))) 1 _ _ at y;rw[n9]at y;have T:=aB.set o (n0.mono λ_ _ k3=>bA.mono y.1 k3) (bA.wD a56 n4);rw[qF T]at y;have b21:=T.len;rw[aaI,aaI]at b21;have a57:(l4.set o (.ptr i 0))[o]?=β (.ptr i 0):=abY acq;have a61:(h.set o B)[o]?=β B:=by simp[a29]
 clear aD a56 n4 k l9 b11 b12 b17 a42 b14 b15 b16 N;generalize b62:h.set o B=a62 at*;generalize l4.set o (.ptr i 0)=a63 at*;have b63:α a62=α h:=by grind
 have a65:=ο M y.1;have a00:∀b∈a62,a6.len b<=4:=λb L=>by
  grind
 obtain⟨b64,b22,b23⟩:=(wE y a57).2;obtain⟨b24,cu,b25,a68,a01,a69,a71,b26,_,_⟩:=(T.get a61|>.elim λC a=>by simp_all:bA S a B (.ptr i 0)).shape;obtain rfl:i=b24:=by simpa using a69
 clear a69 a30 ih l3;have b27:=ι a71;have a73:∀(a02 c)(P)(q)(d),p.sub a02->av a02 c 1 P q->aB (bA c a) l7 P->c d=ε->
   ∃k5 x z D a74,R.ptr d 0=.ptr k5 0/\p k5=ε/\p x=ε/\k5≠x/\(c.set d (.cells [.J [] .nil,q])) k5=β (.cells [.J [] .nil,.aq x z D 1])/\(∃E,(c.set d (.cells [.J [] .nil,q])) x=β (.cells E)/\z<=α E/\E.take z=a74)/\aB (bA (c.set d (.cells [.J [] .nil,q])) a) l7 a74/\p.sub (c.set d (.cells [.J [] .nil,q])):=λa02 c P q d a03 a04 k F=>by
  have a05:=κ (Z:=.cells [.J [] .nil,q]) η F;obtain⟨x,z,D,E,rfl,a06,a81,b65,b66,b67,b68,_⟩:=a04.aq (λs=>by grind[aB.z7]);exact⟨d,x,z,D,P,rfl,Ι (ο a03 a04.1) F,Ι a03 a06,(λs=>by rw[s,a81]at F;cases F),μ _ _ _,⟨E,a05 _ _ a81,acq,by simp_all⟩,k.mono λ_ _ a=>bA.mono a05 a,ο a03 (ο a04.1 a05)⟩
 by_cases c2:2<=a6.len B
 .have aD:(1)<(α cu)+(α a68:Int):=acq;obtain rfl:=l6 c2;clear l6 l5;have b28:=fv y;refine aa ?_;refine bp λd F=>?_;exact⟨_,η,a73 a38 S a63 _ d M y T F⟩
 obtain⟨a83,a84,a07,k6,rfl⟩:=l5 c2;have aD:¬(1)<(α cu)+(α a68:Int):=acq;clear l6 c2 l5;refine aa ?_;clear aD a71 b26 b27 b23 b22 a57 a61 b19 b20 a48 a52;refine oX [0,7,8] (λ_:Unit=>[(9,.v (.int .i64 ((o - 1:Nat))))]) (λ_ c=>c=S) (λb=>?_) (λb=>?_) ?_
 .have b:=of_decide_eq_true b;have s:((o - 1:Nat):Int)=0:=acq;exact aR
 .have b:=of_decide_eq_false b;have s:(o) - 1=((o - 1:Nat):Int):=acq;exact aR
 clear n9;rintro _ S rfl b29;generalize o - 1=j at*;have b69:=(a8p.1 k6).1;have b70:=a00 _ (a8r a07);have b71:=a00 _ (a8r k6);obtain⟨_,b30,a08⟩:=T.get a07;obtain⟨_,b31,a09⟩:=T.get k6;obtain⟨b72,b73,b74,b75,b76,rfl,w,b77,_,_⟩:=a08.shape;obtain⟨x,b78,b79,cf,b80,rfl,f,b81,_,_⟩:=a09.shape;obtain⟨b32,b82,b83,b84,b85,s,b33,_,b34,b35⟩:=(bA.mono y.1 n1).shape;obtain rfl:b18=b32:=by simpa using s
 obtain⟨b86,b87,b36,b88⟩:=wE y b30;obtain⟨a86,b89,a10,b90⟩:=wE y b31;have a86:cO 1 (.aq g (α h) D 1) (.v (.int .i64 ((j)+1)))=β (.ptr g (j+1)):=a86;have b91:=ι b33;have b92:=rd a65 Y;rw[b36]at a10;obtain rfl:=Β a10;clear s a10 a00 a98 a99 b00 b01 a07 k6;refine aa ?_;refine oX [8,9] (λn:Ψ×Own=>[(12,.J n.1 n.2)]) (λn c=>S.sub c/\aB (bA c a) (a6.kO a83 a84) n.1) (λde=>?_) (λde=>?_) ?_
 .have de:=of_decide_eq_true de;cases a with
  |succ a=>exact absurd (a8q acq) (b35 acq).2
  |zero=>have k:=a08.rows w;have V:=a09.rows f;have b37:=k.len;have b38:=V.len;have a11:=ι w;have a13:=ι f;refine vg (sc (iU k) (nU k)) λa5 b39 t=>?_;have a11:=rd t.1 w;have a13:=rd t.1 f;refine ru t (sc (iU V) (nU V)) λdB b40 a14=>?_;obtain⟨a15,a16,k7⟩:=av.HB a14;refine cl (AC.lL (g:=[]) a16 (FC _ _ .any a15 (k.append V) (by rw[Ρ];omega))) ?_;rintro _ a18⟨a19,k8,k9,rfl,W⟩;refine aa ?_;exact⟨(k8,k9),⟨ο k7 a19,W⟩,rfl⟩
 .have de:=of_decide_eq_false de;cases a with
  |zero=>exact absurd (by rw[b34 rfl];rfl) de
  |succ a=>have k:=a08.kids w;have V:=a09.kids f;have b37:=k.len;have b38:=V.len;have a11:=ι w;have a13:=ι f;refine vg (sc (bA.c k) (qF k)) λa5 b39 t=>?_;have a11:=rd t.1 w;have a13:=rd t.1 f;refine ru t (sc (bA.c V) (qF V)) λdB b40 a14=>?_;obtain⟨a15,a16,k7⟩:=av.HB a14;refine cl (AC.lL (g:=[]) a16 (zh S _ _ .any a15 (k.append V) (by rw[Ρ];omega) k7)) ?_;rintro _ a18⟨a19,k8,k9,rfl,W⟩;refine aa ?_;exact⟨(k8,k9),⟨ο k7 a19,W⟩,rfl⟩
 rintro⟨k8,k9⟩ a18 ⟨a27,W⟩ b29
 dsimp only at W|-
 have b93:=W.len;have b94:(a6.kO a83 a84).length<=4:=by grind
 have a88:=y.mono a27;have b41:=T.len;have b25:=hZ (e:=1) (O:=g) (e0:=α h) (i:=D) (v:=j) (e2:=.i64) acq;obtain⟨b95,b96,b42,_⟩:=(a88.first (i:=j) acq).src;obtain⟨_,_,_,b97,k4,_,b43,b98,b44,_,_,_⟩:=a88.aq (by rintro rfl;simp at b41;omega);simp only[R.aq.injEq,and_true]at k4;obtain⟨rfl,rfl,rfl⟩:=k4;refine vg b42 (λb99 c00 b45=>?_) (x:=by rw[a8l];omega);refine ru b45 (sc (bA.c W) (qF W)) (λc01 b46 a89=>?_) (y:=by rw[a8l];omega);obtain⟨a06,a01,_,l0⟩:=pb (i:=1) (j6:=g) (O:=α h) (e:=j+2) (e2:=.i64) acq acq;have l0:=l0 b46 _ a63 (a89.1 _ _ b43) acq b44;rw[a8Y]at l0;have a01:ck 1 (.aq g (α h) D 1) (β (.v (.int .i64 ((j)+2)))) ε ε=β a06:=a01;refine ru a89 l0 (λc02 b47 O=>?_) (x:=by rw[a8z];omega) (y:=by grind);have b28:=fv O;have a90:=λ{G:a6.T a}{C:R}=>bA.mono (t:=G) (a:=C) (ο a27 O.1);refine aa ?_;refine bp λd F=>?_;rw[a8Y]at O;exact⟨_,η,a73 a18 b47 _ _ d (ο a65 a27) O ((((T.take j).mono λ_ _ a=>a90 a).append (W.mono λ_ _ a=>bA.mono O.1 a)).append ((T.drop (j+2)).mono λ_ _ a=>a90 a)) F⟩
variable{X:List Τ}
def AS:(dH 0 (a6.leaf X)).rows.map Α=X:=by rw[a2a];show(X.map λa=>(a,ζ)).map Α=X;rw[aae];exact List.map_id' X
def HC:(dH 0 (a6.leaf X)).kind=2:=rfl
def AT{a:a6.T (e+1)}:¬(dH (e+1) a).kind=2:=by show¬(3)=2;decide
def HD(c:1<=i)(d:i<=8){a:List (a6.T e)}(h:dI i (e+1) (a6.node a))(b:Τ):hB b (dH (e+1) (a6.node a))=a6.cU bF b (a.map (a6.cQ e)):=by unfold hB;rw[zn];congr 1;show(a.map (bQ e)).map (·.key)= _;rw[aae];exact a9R λk o=>a2d c d (h.gv k o).1
def HE{a:List (a6.T e)}:(dH (e+1) (a6.node a)).kids[i]?=a[i]?.map (bQ e):=by rw[zn];show(a.map (bQ e))[i]?= _;simp
variable{t b8:Τ}
theorem HF(r:1<=i)(x:i<=8){a:List (a6.T e)}(c:GT i (e+1) (a6.node a))(y:bU i t){b:a6.T e}(d:a[a6.cU bF t (a.map (a6.cQ e))]?=β b):t∈a6.bd (e+1) (a6.node a)↔t∈a6.bd e b:=by obtain⟨h,D,z,E⟩:=c.wf;rw[a6.dR]at h;have F:∀b∈a,a6.WF e b:=z;have k:=c.ej;have o:=c.ok;rw[a6.fP]at k o|-;obtain⟨G,p,L,P⟩:=a6.vO (gx r x) y (by intro C;subst C;simp at h) (λb d=>by grind[a6.hd]) k o;rw[d]at p;obtain rfl:=Β p;have S:=a6.rO d;grind[a6.cU,bF,a6.cQ,tN]
theorem HG{D:Nat}(p:1<=D)(r:D<=8){c:Τ}(z:bU D c):∀(a:Nat)(y:a6.T a)(C:ai)(F:Nat),GT D a y->gd C a y->a<F->c∉a6.bd a y->Laid C a (a6.ff bF c a y) (gu D c F C (bQ a y))
 |0,y,C,F+1,h,G,_,f=>by
  obtain⟨L,rfl⟩:=a6.ik y;obtain⟨s,t,_⟩:=h.wf;rw[a6.il]at s t;have S:=h.ok;have g:(dH 0 (a6.leaf L)).rows.map Α=L:=AS;rw[gu,s9 p r h.iW G];simp only;rw[if_pos HC,g,Aa (X:=L) p r h.ej S z,decide_eq_false (p:=c∈L) f,if_neg acv,a4e (X:=L) p r h.ej S z];exact GG p r C (a6.ec bF L c) (by rw[a6.p9];omega) (by rw[a6.p9];omega) λE k=>by
   rcases a6.tF.1 k with rfl|k
   .exact z
   .exact S E k
 |a+1,y,C,F+1,h,G,H,f=>by
  obtain⟨b,rfl⟩:=a6.gr y;have i:=h.kids p r z;obtain⟨d,P⟩:=i.at_;have j:=a8r P;have l:c∉a6.bd a d:=λx=>f ((HF p r h z P).2 x);obtain⟨I,K⟩:=i.two;have T:=(i.gv d j).1;obtain⟨u,M,N,O⟩:=a6.rP (gx p r) z a d T.wf T.ej T.ok l;have ih:=HG p r z a d C F T (G.2 d j) acq l;rw[gu,s9 p r h.iW G];simp only;rw[if_neg AT,HD p r h.iW,HE,P];simp only[a9q];have m:a6.ff bF c (a+1) (a6.node b)=(a6.chunks (b.take (a6.cU bF c (b.map (a6.cQ a)))++a6.ff bF c a d++b.drop (a6.cU bF c (b.map (a6.cQ a))+1))).map a6.node:=by simp only[a6.ff,a6.fw];rw[P]
  rw[m];clear m;have Q:=(a8p.1 P).1;have X:=a6.rO P;generalize a6.cU bF c (b.map (a6.cQ a))=o at*;generalize gu D c F C (bQ a d)=E at*;obtain⟨Y,v⟩:=E;obtain⟨n,V,q⟩:=ih;simp only at n V q;subst n;simp only;have g:(dH (a+1) (a6.node b)).kids.take o++((a6.ff bF c a d).map (bQ a)++(dH (a+1) (a6.node b)).kids.drop (o+1))=(b.take o++a6.ff bF c a d++b.drop (o+1)).map (bQ a):=by rw[zn];show(b.map (bQ a)).take o++(_++(b.map (bQ a)).drop (o+1))= _;simp
  rw[g];have w:∀E∈(b.take o++a6.ff bF c a d++b.drop (o+1)).flatMap (a6.bd a),bU D E:=λE k=>by
   rw[a9a,a9a,u,a8u,a8u]at k;have S:=h.ok;rw[a6.fP]at S;rcases k with (k|k)|k;grind
   .rcases a6.tF.1 k with rfl|k
    .exact z
    .exact T.ok E k
   grind
  have A:((b.take o++a6.ff bF c a d++b.drop (o+1)).flatMap (a6.bd a)).length=(a6.bd (a+1) (a6.node b)).length+1:=by grind[a6.fP,ω,a6.p9]
  have Z:=h.dQ;have k3:∀d∈b,a6.WF a d:=h.wf.2.2.1;have:=A7 p r v (b.take o++a6.ff bF c a d++b.drop (o+1)) (by grind) (by grind) (λW x=>by
   grind) w (by rw[A];omega) (λk4 e B W x=>by
   simp only[a8u]at x;rcases x with (x|x)|x
   .exact(G.2 W (a8v x)).mono (V.trans e)
   .exact(q (e.zero B) W x).mono e
   .exact(G.2 W (a8O x)).mono (V.trans e))
  exact⟨this.ok,V.trans this.le,this.ins⟩
def hI:dP->au
 |none=>aw
 |some ⟨a,b⟩=>bQ a b
def lY(a:ai):dP->Prop
 |none=>True
 |some ⟨b,c⟩=>gd a b c
def lY.mono{a b:ai}(c:a.le b){t:dP}(d:lY a t):lY b t:=by
 match t with
 |none=>trivial
 |some ⟨_,_⟩=>exact gd.mono c d
structure qG(a:ai)(t:dP)(r:Except Int au×ai):Prop where
 ok:r.1=.ok (hI t)
 le:a.le r.2
 ins:r.2.one=θ->lY r.2 t
variable{H:ai}
def a5p(F:1<=i)(G:i<=8){r:ai}{a:List (a6.T e)}(L:1<=α a)(P:α a<=2)(k:Laid r e a (.ok (a.map (bQ e)),H))(S:∀b∈a,a6.WF e b)(T:∀o∈a.flatMap (a6.bd e),bU i o)(V:(a.flatMap (a6.bd e)).length<=1048576):
  qG r (qn a) (iS i ((a.map (bQ e)).length+1) H (a.map (bQ e))):=by
 match a,L,P with
 |[b],_,_=>
  have p:iS i (([b].map (bQ e)).length+1) H ([b].map (bQ e))=(.ok (bQ e b),H):=by rw[iS];rfl
  rw[p];exact⟨rfl,k.le,λc=>k.ins c b acr⟩
 |[d,h],_,_=>
  have x:=A7 F G H [d,h] acr acr S T V (λg y c W f=>(k.ins (y.zero c) W f).mono y);rw[a6.qi acr acr]at x;rw[iS,if_pos acr];generalize kd H i ([d,h].map (bQ e))=o at*;obtain⟨j,z⟩:=o;obtain⟨C,D,E⟩:=x;simp only at C D E;subst C;simp only;have p:iS i (([d,h].map (bQ e)).length) z (([[d,h]].map a6.node).map (bQ (e+1)))=(.ok (bQ (e+1) (a6.node [d,h])),z):=by rfl
  rw[p];exact⟨rfl,k.le.trans D,λc=>E c _ acr⟩
variable{b9:dP}
def a5q(c:1<=e)(d:e<=8)(h:bU e t)(D:hj e b9)(E:lY H b9)(F:t∉ek b9):qG H (kT b9 t) (jt e t H (hI b9)):=by
 match b9 with
 |none=>have G:=vP c d (X:=[t]) acr acr (by simpa using h);unfold jt;show qG H _ (if aw=aw then _ else _);rw[if_pos rfl,s8 G.pd];exact⟨rfl,lV _ _,λL=>s7 L⟩
 |some ⟨a,b9⟩=>
  have b:GT e a b9:=D;have o:t∉a6.bd a b9:=F;have y:=o1 c d b.iW;have g:=dI.high a b9 b.iW;have i:=y.size;have j:=b.dQ;have P:=HG c d h a b9 H ((bQ a b9).size.toNat+1) b E acq o;obtain⟨z,S,T,V⟩:=a6.rP (gx c d) h a b9 b.wf b.ej b.ok o;have p:kT (β ⟨a,b9⟩) t=qn (a6.ff bF t a b9):=by simp only[kT];rw[if_neg o]
  rw[p];unfold jt;show qG H _ (if bQ a b9=aw then _ else(match gu e t ((bQ a b9).size.toNat+1) H (bQ a b9)with|(.error p,r)=>(.error p,r)|(.ok bI,r)=>iS e (α bI+1) r bI));rw[if_neg y.ne];generalize gu e t ((bQ a b9).size.toNat+1) H (bQ a b9)=x at*;obtain⟨l,m⟩:=x;obtain⟨C,W,f⟩:=P;simp only at C;subst C;simp only;refine a5p c d T V ⟨rfl,W,f⟩ S (λx k=>?_) (by rw[z,a6.p9];omega);rw[z]at k;rcases a6.tF.1 k with rfl|k
  .exact h
  .exact b.ok x k
theorem a5r(y:1<=e)(z:e<=8)(d:bU e t)(P:hj e b9)(S:(ek b9).length<1000):hj e (kT b9 t)/\(ek (kT b9 t)).length<=(ek b9).length+1:=by
 match b9 with
 |none=>
  refine⟨⟨⟨?_,?_,trivial,λa=>by omega⟩,?_,?_,?_⟩,?_⟩
  .simp[a6.il]
  .simp[a6.il]
  .rw[a6.kN];simp
  .rw[a6.kN];simpa using d
  .rw[a6.kN];simp
  .show(a6.bd 0 (a6.leaf [t])).length<= _;rw[a6.kN];simp
 |some ⟨a,b9⟩=>
  have c:GT e a b9:=P;have W:(a6.bd a b9).length<1000:=S;simp only[kT];by_cases k:t∈a6.bd a b9;simp_all;rw[if_neg k];obtain⟨o,h,T,V⟩:=a6.rP (gx y z) d a b9 c.wf c.ej c.ok k;have C:=a6.a0Y (gx y z) c.ej c.ok d k;have D:∀p∈a6.ec bF (a6.bd a b9) t,bU e p:=λp r=>by
   rcases a6.tF.1 r with rfl|r
   .exact d
   .exact c.ok p r
  have f:=a6.p9 (lt:=bF) (j5:=a6.bd a b9) (h8:=t);generalize a6.ec bF (a6.bd a b9) t=E at*
  match F:a6.ff bF t a b9,T,V with
  |[x],_,_=>
   rw[F]at o h;have b:a6.bd a x=E:=by rw[<-o];simp
   refine⟨⟨a6.kb.of (h x acr),by rw[b];exact C,by rw[b];exact D,by rw[b];omega⟩,?_⟩;show(a6.bd a x).length<=(a6.bd a b9).length+1;rw[b];omega
  |[G,L],_,_=>
   rw[F]at o h;have b:a6.bd (a+1) (a6.node [G,L])=E:=by trivial
   refine⟨⟨⟨by rw[a6.dR];simp,by rw[a6.dR];simp,h,λ_=>by rw[a6.dR];simp⟩,by rw[b];exact C,by rw[b];exact D,by rw[b];omega⟩,?_⟩;show(a6.bd (a+1) (a6.node [G,L])).length<=(a6.bd a b9).length+1;rw[b];omega
def fy:(a:Nat)->a6.T a->im
 |0,b=>⟨ζ,a6.rows b,[]⟩
 |a+1,b=>⟨θ,[],(a6.kids b).map (bQ a)⟩
def pz(b:ai):(a:Nat)->a6.T a->Prop
 |0,_=>True
 |a+1,c=>∀d∈a6.kids c,gd b a d
def pz.mono{b c:ai}(h:b.le c):∀ {a:Nat}{d:a6.T a},pz b a d->pz c a d
 |0,_,_=>trivial
 |_+1,_,a=>λk o=>gd.mono h (a k o)
def gd.p:∀ {a:Nat}{b:a6.T a},gd H a b->pz H a b
 |0,_,_=>trivial
 |_+1,_,a=>a.2
def a5s:∀ {b:Nat}{a:a6.T b},(fy b a).rows.length+(fy b a).kids.length=a6.len a
 |0,a=>rfl
 |b+1,a=>by show 0+((a6.kids a).map (bQ b)).length= _;rw[a8o,a8J];rfl
def HH:∀ {b:Nat}{a:a6.T b},hh (dH b a)=fy b a
 |0,a=>by
  obtain⟨c,rfl⟩:=a6.ik a;unfold hh;rw[AS];rfl
 |b+1,a=>rfl
def AU:∀ {a:Nat}{b:a6.T a},mN H e (fy a b).leaf (fy a b).rows (fy a b).kids=dG H e (dH a b)
 |0,b=>rfl
 |a+1,b=>rfl
theorem HI(C:1<=e)(D:e<=8)(k:ai):∀ {c:Nat} (a b:a6.T c),a6.lJ c a->a6.lJ c b->2<=a6.len a+a6.len b->a6.len a+a6.len b<=5->(∀d∈a6.bd c a,bU e d)->(∀d∈a6.bd c b,bU e d)->
  (a6.bd c a).length+(a6.bd c b).length<=1048576->(∀h,k.le h->h.one=θ->pz h c a/\pz h c b)->Laid k c (a6.kO a b) (kQ k e (fy c a) (fy c b))
 |0,a,b,_,_,p,r,x,y,_,_=>by
  obtain⟨a,rfl⟩:=a6.ik a;obtain⟨b,rfl⟩:=a6.ik b;rw[a6.il,a6.il]at p r;exact GG C D k (a++b) (by rw[Ρ];omega) (by rw[Ρ];omega) λd E=>(a8u.1 E).elim (x d) (y d)
 |c+1,a,b,c3,cm,p,r,x,y,F,G=>by
  obtain⟨a,rfl⟩:=a6.gr a;obtain⟨b,rfl⟩:=a6.gr b;rw[a6.dR,a6.dR]at p r;rw[a6.fP]at x y F;rw[a6.fP]at F;have:=A7 C D k (a++b) (by rw[Ρ];omega) (by rw[Ρ];omega) (λo z=>(a8u.1 z).elim (c3 o) (cm o)) (λd E=>by
   grind) (by simp_all) (λh L P o z=>(a8u.1 z).elim ((G h L P).1 o) ((G h L P).2 o))
  rw[a9i]at this;exact this
theorem a5t(C:1<=i)(D:i<=8)(o:ai){d:List (a6.T e)}{c:a6.T e}(m:v<α d)(B:2<=α d)(z:∀b∈d,dI i e b/\a6.WF e b/\gd o e b)(H:1<=a6.len c)(n:a6.len c<=4)(T:a6.lJ e c)
  (V:∀E∈a6.bd e c,bU i E) (q:∀b∈d,(a6.bd e b).length+(a6.bd e c).length<=1048576) (W:∀r,o.le r->r.one=θ->pz r e c):Laid o e (a6.lK d v c) (kg o i (d.map (bQ e)) v (fy e c)):=by
 unfold kg a6.lK;rw[a5s];have s:(a6.bd e c).length<=1048576:=by have:=q _ (a8L m);omega
 by_cases F:2<=a6.len c
 .rw[if_pos F,if_pos F,AU];have t:=a6.hd.2 ⟨F,n,T⟩;have u:=(o0 C D e c (GF t V s)).1;rw[s8 u.pd];simp only;refine⟨?_,lV _ _,λk b a=>?_⟩
  .rw[<-tO,aco]
  .rcases aai a with a|rfl
   .exact(z b a).2.2.mono (lV _ _)
   .have S:=s7 k;have f:=W _ (lV o (cY (dH e b))) k
    match e,b,S,f with
    |0,b,S,f=>exact S
    |e+1,b,S,f=>trivial
 .rw[if_neg F,if_neg F];have I:a6.len c=1:=acq;by_cases l:v=0
  .subst l;simp only[if_true];have x:d[1]?=β d[1]:=Μ acq;rw[a8H,x];generalize d[1]=y at x;have h:=z y (a8r x);have g:=a6.hd.1 h.2.1;simp only[a9q];rw[s9 C D h.1 h.2.2];simp only;rw[HH];have j:=HI C D o c y T g.2.2 acq acq V h.1.ok (by grind) (λr G k=>⟨W r G k,(h.2.2.mono G).p⟩);generalize kQ o i (fy e c) (fy e y)=E at*;obtain⟨w,A⟩:=E;obtain⟨L,p,P⟩:=j;simp only at L p P;subst L;simp only;refine⟨acr,p,λk b a=>?_⟩;simp only[a8u]at a;rcases a with (a|a)|a;simp_all
   .exact P k b a
   .exact(z b (a8O a)).2.2.mono p
  .simp only[if_neg l];have x:d[v - 1]?=β d[v - 1]:=Μ acq;rw[a8H,x];generalize d[v - 1]=y at x;have h:=z y (a8r x);have g:=a6.hd.1 h.2.1;simp only[a9q];rw[s9 C D h.1 h.2.2];simp only;rw[HH];have j:=HI C D o y c g.2.2 T acq acq h.1.ok V (by grind) (λr G k=>⟨(h.2.2.mono G).p,W r G k⟩);generalize kQ o i (fy e y) (fy e c)=E at*;obtain⟨w,A⟩:=E;obtain⟨L,p,P⟩:=j;simp only at L p P;subst L;simp only;refine⟨acr,p,λk b a=>?_⟩;simp only[a8u]at a;rcases a with (a|a)|a
   .exact(z b (a8v a)).2.2.mono p
   .exact P k b a
   .exact(z b (a8O a)).2.2.mono p
structure a5u(a:ai)(h:Nat)(t:a6.T h)(r:Except Int im×ai):Prop where
 ok:r.1=.ok (fy h t)
 le:a.le r.2
 ins:r.2.one=θ->pz r.2 h t
theorem HJ{p:Nat}(c:1<=p)(d:p<=8){b:Τ}(y:bU p b):∀(a:Nat)(k:a6.T a)(r:ai)(z:Nat),GT p a k->gd r a k->a<z->b∈a6.bd a k->a5u r a (a6.cL bF b a k) (iq p b z r (bQ a k))
 |0,k,r,z+1,h,E,_,T=>by
  obtain⟨F,rfl⟩:=a6.ik k;have V:(dH 0 (a6.leaf F)).rows.map Α=F:=AS;rw[iq,s9 c d h.iW E];simp only;rw[if_pos HC,V,Aa (X:=F) c d h.ej h.ok y,decide_eq_true (p:=b∈F) T,if_pos rfl,a4f (X:=F) c d h.ej h.ok y T];exact⟨rfl,ai.le_refl,λ_=>trivial⟩
 |a+1,k,r,z+1,h,E,O,T=>by
  obtain⟨x,rfl⟩:=a6.gr k;have C:=h.kids c d y;obtain⟨o,G⟩:=C.at_;have e:=a8r G;have t:=(HF c d h y G).1 T;obtain⟨u,Q⟩:=C.two;obtain⟨D,v,_,_⟩:=C.gv o e;have X:=a6.hd.1 v;obtain⟨w,A,Y,B⟩:=a6.qm (gx c d) y a o D.wf D.ej D.ok;have ih:=HJ c d y a o r z D (E.2 o e) acq t;rw[iq,s9 c d h.iW E];simp only;rw[if_neg AT,HD c d h.iW,HE,G];simp only[a9q];have f:a6.cL bF b (a+1) (a6.node x)=a6.node (a6.lK x (a6.cU bF b (x.map (a6.cQ a))) (a6.cL bF b a o)):=by simp only[a6.cL,a6.fw];rw[G]
  rw[f];clear f;have H:=(a8p.1 G).1;generalize a6.cU bF b (x.map (a6.cQ a))=I at*;generalize iq p b z r (bQ a o)=L at*;obtain⟨K,g⟩:=L;obtain⟨i,W,j⟩:=ih;simp only at i W j;subst i;simp only;have Z:=D.dQ;have k3:(a6.bd a (a6.cL bF b a o)).length<=1000:=by grind
  have M:=a5t c d g H u (λP S=>⟨(C.gv P S).1.iW,(C.gv P S).2.1,(E.2 P S).mono W⟩) acq B A (λL l=>by
   rw[w]at l;exact D.ok L (aaZ.1 l).1) (λP S=>by have:=(C.gv P S).1.dQ;omega) (λk4 m N=>(j (m.zero N)).mono m)
  have V:(dH (a+1) (a6.node x)).kids=x.map (bQ a):=rfl;rw[V];generalize kg g p (x.map (bQ a)) I (fy a (a6.cL bF b a o))=L at*;obtain⟨K,k5⟩:=L;obtain⟨n,q,s⟩:=M;simp only at n q s;subst n;simp only;exact⟨rfl,W.trans q,s⟩
def wF:(b:Nat)->a6.T b->dP
 |0,a=>if a6.len a=0 then ε else β ⟨0,a⟩
 |b+1,a=>match a6.kids a with
  |[c]=>β ⟨b,c⟩
  |_=>β ⟨b+1,a⟩
def jM(a:dP)(c:Τ):dP:=
 match a with
 |none=>ε
 |some ⟨b,a⟩=>if c∈a6.bd b a then wF b (a6.cL bF c b a)else β ⟨b,a⟩
theorem a5v(C:1<=e)(D:e<=8)(j:bU e t)(l:hj e b9)(m:lY H b9)(S:t∈ek b9):qG H (jM b9 t) (lM e t H (hI b9)):=by
 match b9 with
 |none=>cases S
 |some ⟨a,b9⟩=>
  have d:GT e a b9:=l;have T:t∈a6.bd a b9:=S;have V:=o1 C D d.iW;have h:=dI.high a b9 d.iW;have w:=V.size;have A:=d.dQ;have B:=HJ C D j a b9 H ((bQ a b9).size.toNat+1) d m acq T;obtain⟨n,r,x,o⟩:=a6.qm (gx C D) j a b9 d.wf d.ej d.ok;have q:jM (β ⟨a,b9⟩) t=wF a (a6.cL bF t a b9):=by simp only[jM];rw[if_pos T]
  have s:hI (β ⟨a,b9⟩)=bQ a b9:=rfl;rw[q];unfold lM;rw[s,if_neg V.ne];have p:∀E∈a6.bd a (a6.cL bF t a b9),bU e E:=λE u=>by
   rw[n]at u;exact d.ok E (aaZ.1 u).1
  have z:(a6.bd a (a6.cL bF t a b9)).length<=1000:=by grind
  have P:=d.wf;clear w V m q s l;generalize iq e t ((bQ a b9).size.toNat+1) H (bQ a b9)=E at*;generalize a6.cL bF t a b9=b at*;obtain⟨K,M⟩:=E;obtain⟨v,F,k⟩:=B;simp only at v F k;subst v;simp only;clear S T d h A n
  match a,b9,b,r,x,o,p,z,k,P with
  |0,b9,b,r,x,o,p,z,k,P=>
   show qG H (if a6.len b=0 then ε else β ⟨0,b⟩) _;have W:¬((fy 0 b).leaf=θ/\(fy 0 b).kids.length=1):=λh=>absurd h.1 (show¬ζ=θ by decide);by_cases c:a6.len b=0
   .rw[if_pos c,if_pos (⟨rfl,c⟩)];exact⟨rfl,F,λ_=>trivial⟩
   .have f:¬((fy 0 b).leaf=ζ/\(fy 0 b).rows.length=0):=λh=>c h.2;rw[if_neg c,if_neg f,if_neg W,AU];have g:=(o0 C D 0 b ⟨⟨acq,o,trivial,λh=>by omega⟩,p,acq⟩).1;rw[s8 g.pd];exact⟨rfl,F.trans (lV _ _),λc=>s7 c⟩
  |a+1,b9,b,r,x,o,p,z,k,P=>
   have N:=P.2.2.2 acq;have f:¬((fy (a+1) b).leaf=ζ/\(fy (a+1) b).rows.length=0):=λh=>absurd h.1 (show¬θ=ζ by decide);rw[if_neg f];obtain⟨y,rfl⟩:=a6.gr b;rw[a6.dR]at x o
   match y,x,o,r,p,z,k with
   |[],x,_,_,_,_,_=>simp at x;omega
   |[i],_,_,r,p,z,k=>rw[if_pos (⟨rfl,rfl⟩)];exact⟨rfl,F,λc=>k c i (by simp[a6.fw])⟩
   |G::L::y,_,o,r,p,z,k=>
    have W:¬((fy (a+1) (a6.node (G::L::y))).leaf=θ/\(fy (a+1) (a6.node (G::L::y))).kids.length=1):=λh=>by
     have:=h.2;rw[show(fy (a+1) (a6.node (G::L::y))).kids=(G::L::y).map (bQ a)from rfl]at this;simp at this
    rw[if_neg W,AU];have g:=(o0 C D (a+1) (a6.node (G::L::y)) ⟨⟨by rw[a6.dR];simp,by rw[a6.dR];exact o,r,λ_=>by rw[a6.dR];simp⟩,p,acq⟩).1;rw[s8 g.pd];exact⟨rfl,F.trans (lV _ _),λc=>⟨s7 c,λi I=>(k ((lV _ _).zero c) i I).mono (lV _ _)⟩⟩
theorem a5w(P:1<=e)(S:e<=8)(T:bU e t)(F:hj e b9):hj e (jM b9 t)/\(ek (jM b9 t)).length<=(ek b9).length:=by
 match b9 with
 |none=>exact⟨trivial,a8P _⟩
 |some ⟨c,b9⟩=>
  have d:GT e c b9:=F;simp only[jM];by_cases G:t∈a6.bd c b9
  .rw[if_pos G];obtain⟨b,h,o,k⟩:=a6.qm (gx P S) T c b9 d.wf d.ej d.ok;have i:=abi (λa=>decide (a≠t)) (a6.bd c b9);have y:=d.ej.filter λa=>decide (a≠t);have z:∀C∈(a6.bd c b9).filter (λa=>decide (a≠t)),bU e C:=λC V=>d.ok C (aaZ.1 V).1;have j:=d.dQ;have p:=d.wf;show hj e _/\ _<=(a6.bd c b9).length;generalize (a6.bd c b9).filter (λa=>decide (a≠t))=W at*;generalize a6.cL bF t c b9=a at*;generalize (a6.bd c b9).length=r at*;clear G F d
   match c,a,b9,b,h,o,k,p with
   |0,a,b9,b,h,o,k,p=>
    show hj e (if a6.len a=0 then ε else β ⟨0,a⟩)/\(ek (if a6.len a=0 then ε else β ⟨0,a⟩)).length<=r;by_cases L:a6.len a=0
    .rw[if_pos L];exact⟨trivial,by simp[ek]⟩
    .rw[if_neg L];refine⟨⟨⟨acq,k,trivial,λl=>by omega⟩,by rw[b];exact y,by rw[b];exact z,by rw[b];omega⟩,?_⟩;show(a6.bd 0 a).length<=r;rw[b];omega
   |c+1,a,b9,b,h,o,k,p=>
    have m:=p.2.2.2 acq;obtain⟨D,rfl⟩:=a6.gr a;rw[a6.dR]at o k
    match D,o,k,h,b with
    |[],o,_,_,_=>simp at o;omega
    |[E],_,_,h,b=>
     have x:a6.bd c E=W:=by rw[<-b,a6.fP];simp
     refine⟨⟨a6.kb.of (h E (by simp[a6.fw])),by rw[x];exact y,by rw[x];exact z,by rw[x];omega⟩,?_⟩;show(a6.bd c E).length<=r;rw[x];omega
    |f::g::D,_,k,h,b=>refine⟨⟨⟨by rw[a6.dR];simp,by rw[a6.dR];exact k,h,λ_=>by rw[a6.dR];simp⟩,by rw[b];exact y,by rw[b];exact z,by rw[b];omega⟩,?_⟩;show(a6.bd (c+1) (a6.node (f::g::D))).length<=r;rw[b];omega
  simp_all
def a5x(q:1<=e)(s:e<=8)(b:Τ)(S:Own)(t:bU e b)(a:dP)(o:R)(p:U)(C:fF p a o)(H:hj e a):
  AC γ 67 [o,.J (af b) S] p λT u=>p.sub u/\∃v h,T=.aJ [v,.v (.bool h)]/\fF u (jM a b) v:=by
 have D:∀o h:R,aQ θ 1 [o,h]=o:=λ_ _=>rfl;have E:∀o h:R,aQ θ 1 ([o,h].drop 1)=h:=λ_ _=>rfl;refine bg hm Nb acr ?_
 match a with
 |none=>obtain rfl:=C;refine bX ?_;refine ag (a1S p) ?_;rintro _ p⟨rfl,rfl⟩;refine bX ?_;refine ag (zj [] [] .nil S b p trivial acr acr) ?_;rintro _ _⟨rfl,rfl⟩;have I:decide (b∈([]))=false:=acr;refine al @I ?_;exact⟨_,η,η,_,_,rfl,rfl⟩
 |some ⟨c,a⟩=>
  obtain⟨h,k7,k8,rfl,k9⟩:=bA.ptr C;have r:GT e c a:=H;have l0:=r.dQ;refine bX ?_;refine ag (zi c a (.ptr h 0) p C acq) ?_;rintro _ l⟨V,K,M,rfl,N⟩;refine bX ?_;refine ag (zj _ K M S b l N acq λT O=>by have:=(r.ok T O).len;omega) ?_;rintro _ l⟨rfl,rfl⟩;by_cases W:b∈a6.bd c a
  .refine al @W ?_;refine ag (a5o q s b S t c a (.ptr h 0) l (bA.mono V C) r) ?_;rintro T m⟨Q,z⟩;have X:jM (β ⟨c,a⟩) b=wF c (a6.cL bF b c a):=by simp only[jM];rw[if_pos W]
   rw[X];obtain⟨_,l1,l2,F⟩:=a6.qm (gx q s) t c a r.wf r.ej r.ok;have l3:=r.wf;have f:=ο V Q;generalize a6.cL bF b c a=x at*;cases c with
   |zero=>
    obtain⟨Y,g,w,Z,rfl,k,d⟩:=id z;have G:=d.len;have l4:α g<=4:=by rw[G];exact F
    have L:(([]:Ψ).length:Int)=0:=rfl;have y:¬((0:Int)=1):=acq;refine al (bl (ι k) @D @E @L @y) ?_;by_cases A:(α g:Int)=0
    .have n:(0)+(α g:Int)=0:=acq;refine al (cb (ι k) @D @E @L @y @A @n) ?_;refine⟨_,η,f,_,_,rfl,?_⟩;show fF m (if a6.len x=0 then ε else β ⟨0,x⟩) _;rw[if_pos (by show(a6.rows x).length=0;omega)];rfl
    .have n:¬((0)+(α g:Int)=0):=acq;refine al (cb (ι k) @D @E @L @y @A @n) ?_;refine⟨_,η,f,_,_,rfl,?_⟩;show fF m (if a6.len x=0 then ε else β ⟨0,x⟩) _;rw[if_neg (by show¬(a6.rows x).length=0;omega)];exact z
   |succ c=>
    obtain⟨B,rfl⟩:=a6.gr x;obtain⟨Y,i,w,Z,rfl,k,d,j,_⟩:=id z;rw[a6.fw]at d j;have G:=d.len;rw[a6.dR]at F
    match B,i,d,j,G,k,z,F with
    |[],_,_,j,_,_,_,_=>exact absurd rfl j
    |[k3],[l5],d,_,_,k,_,_=>
     have l6:=d.1.cells;obtain⟨P,l7,l8,rfl,_⟩:=bA.ptr d.1;have k4:cO 1 (.J [.ptr P 0] w) (.v (.int .i64 0))=β (.bZ [.ptr P 0]):=by rw[hX acq];rfl
     have k5:du θ 1 m (.bZ [.ptr P 0])=β (.ptr P 0):=rfl;have y:(([R.ptr P 0]).length)=1:=rfl;refine al (bx (ι k) @D @E @y @k4 @k5) ?_;refine⟨_,η,f,_,_,rfl,?_⟩;exact d.1
    |k3::c2::B,i,d,_,G,k,z,F=>simp only[a8m]at G F;have y:¬((α i:Int)=1):=acq;have L:(([]:Ψ).length)=0:=rfl;have k6:¬((α i:Int)+0=0):=acq;refine al (bx (ι k) @D @E @L @y @k6) ?_;refine⟨_,η,f,_,_,rfl,?_⟩;exact z
  .refine al @W ?_;refine⟨_,η,V,_,_,rfl,?_⟩;simp only[jM,if_neg W];exact bA.mono V C
structure ba where
 name:Υ
 aE:List Υ
 rows:List Τ
 bq:aC
 bu:dP
instance:Inhabited ba:=⟨⟨[],[],[],.nil,ε⟩⟩
def ba.bG(a:ba):aK:=⟨a.name,a.aE,bn a.bq,hI a.bu⟩
def cw(a:List ba)(b:Υ):Nat:=a.findIdx λc=>decide (c.name=b)
def jN(a:List ba)(b:Υ):Nat:=(a.takeWhile λc=> !c7 b c.name).length
def c5(a:Τ):Int:=a.getD 0 0
def hp(a:Τ)(c:List Τ):List Τ:=c.takeWhile (λb=> !decide (c5 a<c5 b))++a::c.dropWhile (λb=> !decide (c5 a<c5 b))
def sd(a:List Τ):List Τ:=a.foldl (λb c=>hp c b) []
def ba.put(a:ba)(b:Τ):ba:=⟨a.name,a.aE,sd (a.rows++[b]),(da (α a.aE+1) b a.bq 0).1,kT a.bu b⟩
def ba.del(a:ba)(b:Τ):ba:=⟨a.name,a.aE,a.rows.filter (λc=>decide (c≠b)),(lP (α a.aE+1) b a.bq).1,jM a.bu b⟩
def hJ(a:List ba)(b:db):Int×List ba:=
 if eU b=θ then(1,a)
 else if b.kind=1 then(if cw a b.table<α a then(4,a)else if 7<α a then(10,a)else(0,a.take (jN a b.table)++⟨b.table,b.aE,[],.nil,ε⟩::a.drop (jN a b.table)))
 else if α a<=cw a b.table then(3,a)
 else if b.kind=2 then(0,a.eraseIdx (cw a b.table))
 else if α b.row≠(a.getD (cw a b.table) default).aE.length+1 then(6,a)
 else if b.kind=4 then(if b.row∈(a.getD (cw a b.table) default).rows then(0,a.set (cw a b.table) ((a.getD (cw a b.table) default).del b.row))else(9,a))
 else if(a.getD (cw a b.table) default).rows.any (λc=>decide (c5 c=c5 b.row))=ζ then(8,a)
 else(0,a.set (cw a b.table) ((a.getD (cw a b.table) default).put b.row))
structure eN(n:Nat)(t:ba):Prop where
 right:eU ⟨1,t.name,t.aE,[]⟩=ζ
 dw:lX (α t.aE+1) n t.bq
 fE:t.bq.all.Perm t.rows
 go:hj (α t.aE+1) t.bu
 om:(ek t.bu).Perm t.rows
 ej:t.rows.Pairwise (λa b=>c5 a<c5 b)
 dQ:α t.rows<=n
variable{h9:ba}
theorem eN.c(a:eN e h9):1<=α h9.aE/\α h9.aE<=7:=by have b:=a.right;simp_all [eU,o2]
def eN.row(a:eN e h9)(b:t∈h9.rows):bU (α h9.aE+1) t:=a.dw.fq t (aC.gB (a.fE.mem_iff.2 b))
def eN.le(a:eN e h9)(b:e<=i):eN i h9:=⟨a.right,⟨a.dw.fq,a.dw.wq,by have:=a.dw.ch;omega⟩,a.fE,a.go,a.om,a.ej,by have:=a.dQ;omega⟩
structure dK(n:Nat)(cM:List ba):Prop where
 ok:∀t∈cM,eN n t
 ej:cM.Pairwise (λa b=>c7 a.name b.name=ζ)
 dQ:α cM<=8
theorem dK.nil{n:Nat}:dK n []:=⟨λb a=>(by cases a),.nil,acr⟩
def AV(b:1<=e)(c:e<=8)(a:hj e b9):(b9=ε/\hI b9=aw)\/(b9≠ε/\jv e (ek b9).length (hI b9)):=by
 match b9,a with
 |none,_=>exact .inl ⟨rfl,rfl⟩
 |some ⟨d,b9⟩,a=>exact .inr ⟨acr,o1 b c (GT.iW a)⟩
theorem eN.bG{d:Nat}{h:ba}(a:eN d h)(x:d<=1000):fG h.bG=true:=by
 have y:=a.c;have c:=eM acq acq a.dw.fq (by have:=a.dw.ch;omega);have z:=a.dw.ch;have C:=a.fE.length_eq;have k:=a.om.length_eq;have D:=a.dQ;have o:=c.live;unfold fG ba.bG
 dsimp only
 simp only[Ξ,a9U,decide_eq_true_eq];rcases AV acq acq a.go with⟨p,b⟩|⟨p,b⟩
 .have r:(aw).live=0:=rfl;rw[p]at k;refine⟨a.right,c.ok acq,?_,?_,by rw[c.key];rfl,.inl b⟩
  .rw[b];unfold fb;rfl
  .rw[b,o,r];simp[ek]at k;omega
 .refine⟨a.right,c.ok acq,b.ok acq,?_,by rw[c.key];rfl,.inr ⟨b.key.len,?_⟩⟩
  .rw[o,b.live];omega
  .rw[b.size,b.live]
variable{a8:List ba}
def dK.cat(a:dK e a8)(b:e<=1000):c8 (a8.map ba.bG)=true:=by
 refine py.2 ⟨λk c=>?_,?_,by rw[a8o];exact a.dQ⟩
 .obtain⟨d,h,rfl⟩:=a8D.1 c;exact(a.ok d h).bG b
 .rw[aaz];exact a.ej
theorem AW:∀ {a:List aK}{nm:Υ},a.Pairwise (λh k=>c7 h.name k.name=ζ)->(a.findIdx λb=>decide (b.name=nm))<α a->dc a nm=a.findIdx λb=>decide (b.name=nm)
 |[],nm,_,c=>by rfl
 |b::a,nm,o,c=>by
  obtain⟨x,p⟩:=a8R.1 o;rw[List.findIdx_cons]at c|-;unfold dc;rw[a9G];by_cases d:b.name=nm
  .rw[decide_eq_true d];simp[d,A4]
  .rw[decide_eq_false d]at c|-;simp only[cond_false,a8m]at c|-;have ih:=AW (nm:=nm) p acq;have r:c7 b.name nm=true:=by grind
   rw[if_pos r,a8m];unfold dc at ih;rw[ih]
variable{w j8:Υ}
theorem wG:((a8.map ba.bG).findIdx λa=>decide (a.name=w))=cw a8 w:=by rw[List.findIdx_map];rfl
theorem wH(a:cw a8 w<α a8):(a8.getD (cw a8 w) default).name=w:=by have:=List.findIdx_getElem (w:=a);rw[a9c,Μ a];exact of_decide_eq_true this
theorem AX(a:cw a8 w<α a8):a8.getD (cw a8 w) default∈a8:=by simp_all
def HK(b:α a8<=cw a8 w):∀a∈a8,a.name≠w:=λa c d=>by
 have:=List.findIdx_lt_length_of_exists (p:=λa:ba=>decide (a.name=w)) ⟨a,c,decide_eq_true d⟩;have h:α a8<=a8.findIdx λa=>decide (a.name=w):=b;omega
theorem AY(c:dK e a8):gC (a8.map ba.bG) w=decide (cw a8 w<α a8):=by
 have d:(a8.map ba.bG).Pairwise (λh k=>c7 h.name k.name=ζ):=by rw[aaz];exact c.ej
 by_cases a:cw a8 w<α a8
 .have b:=AW d (by rw[wG,a8o];exact a);rw[wG]at b;unfold gC;rw[b,decide_eq_true a,a8o,decide_eq_true a,a9N];refine decide_eq_true ?_;have:=wH a;rw[a9c,Μ (by rw[a8o];exact a),a9W,abM];rw[a9c,Μ a,a9W]at this;exact this
 .rw[decide_eq_false a];unfold gC;rw[abh];by_cases c2:dc (a8.map ba.bG) w<(a8.map ba.bG).length
  .right;refine decide_eq_false λb=>?_;rw[a9c,Μ c2,a9W,abM]at b;exact HK acq _ (a8L (by rw[a8o]at c2;exact c2)) b
  .left;simp_all
theorem HL(a:dK e a8)(d:cw a8 w<α a8):dc (a8.map ba.bG) w=cw a8 w:=by
 have h:(a8.map ba.bG).Pairwise (λb c=>c7 b.name c.name=ζ):=by rw[aaz];exact a.ej
 grind[wG,AW,List.length_map]
def HM:(a8.map ba.bG).find? (λa=>decide (a.name=w))=(a8[cw a8 w]?).map ba.bG:=by rw[List.find?_eq_getElem?_findIdx,wG,a8H]
theorem a5y(a:w≠j8):(!c7 j8 w)=c7 w j8:=by grind[c7,absurd,Gy,w9,A4]
theorem a5z(a:α a8<=cw a8 w):dc (a8.map ba.bG) w=jN a8 w:=by
 have b:=HK a;clear a;unfold dc jN
 induction a8 with
 |nil=>rfl
 |cons c a8 ih=>have d:=a5y (b c acr);have ih:=ih λh k=>b h (by simp[k]);rw[a8C,a9G,a9G,d];show(if c7 c.name w=ζ then _ else _:List aK).length= _;grind
def iz(c:Nat)(d h:U):Prop:=∀b a,d b=β (.cells a)->α a≠c->h b=β (.cells a)
theorem iz.of{s:U}(a:iI s f):iz e s f:=λb c d _=>a b c d
theorem iz.set{c a:Nat}{b:U}{d:Ψ}{h:bt}(p:b a=β (.cells d))(r:α d=c):iz c b (b.set a h):=λk x o y=>by
 have:k≠a:=by grind
 rw[ξ _ _ this];exact o
def dS.iA{n:Nat}{c d:U}(a:n≠4)(b:iz n c d):∀ {h:aC}{k:R},dS c h k->dS d h k
 |.nil,_,o=>o
 |.node _ _ _ _,_,⟨p,r,x,y,h1,z,C,D⟩=>⟨p,r,x,y,h1,b _ _ z (by simpa using a.symm),C.iA a b,D.iA a b⟩
def fF.HN(b:AR f s)(a:fF f b9 n):fF s b9 n:=by
 match b9 with
 |none=>exact a
 |some ⟨_,_⟩=>exact bA.wD b a
def fF.iA{n:Nat}(a:n≠2)(b:iz n f s)(c:fF f b9 b6):fF s b9 b6:=c.HN λh k o p r d=>b _ _ d (by simpa using a.symm)
variable{Z:bt}
theorem qH(a:bf f s i g M)(d:f e=ε)(b:s e=β (.cells B)):bf f (s.set e Z) i g M:=by
 refine⟨κ a.1 d,?_⟩;have c:=a.2;cases M with
 |buf h k=>
  have o:h≠e:=by rintro rfl;rw[c.2]at b;cases b
  grind[ξ]
 |_=>exact c
theorem fF.cells{d:U}{b:dP}{a:R}(c:fF d b a):a.cells=[a]:=by
 match b with
 |none=>obtain rfl:a=.v (.pointer ε):=c;rfl
 |some ⟨_,_⟩=>obtain⟨h,k,o,rfl,_⟩:=bA.ptr c;rfl
def hq(b:U)(a:ba)(o:R):Prop:=∃c p d r h k,o=.ptr c 0/\b c=β (.cells [bc a.name,.J (bB a.aE) p,.J d r,h,k])/\aB isRow a.rows d/\dS b a.bq h/\fF b a.bu k
def hq.iA{b c:U}(a:iz 1 b c){d:ba}{h:R}(k:hq b d h):hq c d h:=by obtain⟨o,p,r,x,y,z,C,D,E,F,G⟩:=k;exact⟨o,p,r,x,y,z,C,a _ _ D acr,E,F.iA acv a,G.iA acv a⟩
def hq.sub(a:f.sub s)(b:hq f h9 n):hq s h9 n:=b.iA (iz.of (U.tg a))
def hK(a:U)(c:Nat)(d:List ba):Prop:=∃b h,a c=β (.cells [.J b h])/\aB (hq a) d b
def hK.sub{b c:U}(d:b.sub c){h:Nat}{k:List ba}(a:hK b h k):hK c h k:=by obtain⟨o,p,r,x⟩:=a;exact⟨o,p,d _ _ r,x.mono λy z a=>a.sub d⟩
def HO(a:aB (hq f) a8 g):aW 1 g:=λk c=>by
 obtain⟨d,h,rfl⟩:=a8S c;have o:=a.len;obtain⟨p,b,r,_,_,_,_,_,rfl,_⟩:=a.get (Μ (show d<α a8 by omega));rw[Μ h]at b;rw[Β b];rfl
theorem a5A(b:e<α a8)(c:∀a<e,(a8.getD a default).name≠w)(d:(a8.getD e default).name=w):cw a8 w=e:=by grind[cw,List.findIdx_eq,List.getElem?_eq_getElem,decide_eq_true,decide_eq_false]
theorem a5B(b:∀a<α a8,(a8.getD a default).name≠w):α a8<=cw a8 w:=by grind[Nat.lt_or_ge,cw,absurd,wH]
def qI(a:List ba)(b:Υ):Int:=if cw a b<α a then(cw a b:Int)else -1
theorem a5C(h:U)(k:Nat)(b:List ba)(o:hK h k b)(d:Υ)(P:α b<=1000):
  AC γ 64 [.ptr k 0,bc d] h λz C=>C=h/\z=.v (.int .i64 (qI b d)):=by
 obtain⟨S,T,D,p⟩:=o;have V:=p.len;have W:=ι D;refine aL hm N5 ?_;refine gX [0,1] (λa:Nat=>[(5,.v (.int .i64 a))]) (λa=>a<=α b/\∀c<a,(b.getD c default).name≠d) (λa=>α b - a) 0 ⟨a8M _,λc o=>by omega⟩ aR ?_;rintro a⟨e,r⟩f;refine aa ?_;refine aG (λE=>?_) λE=>?_
 .have x:a<α b:=acq;have F:b[a]?=β (b.getD a default):=by simp_all
  obtain⟨_,g,i,j,l,m,n,q,rfl,G,_,_,_⟩:=p.get F;have s:=ι G;have t:=(wa (b.getD a default).name d).1;refine aa ?_;refine aG (λc2=>?_) λc2=>?_
  .have y:=a5A x r c2;unfold qI;rw[y,if_pos x]
  .exact⟨a+1,⟨acq,λc L=>by grind⟩,rfl,acq⟩
 .have y:=a5B λc L=>r c acq;unfold qI;simp_all
def AZ(c d:Own):Prop:=∀a h b k,c=.buf a h->d=.buf b k->a≠b
variable{q Y:R -> U -> Prop}
def HP{F:cC q}(r:bf s f e g e7)(x:bf s f e e1 M)(y:AZ e7 M)(G:aW e g)(L:aW e B)(P:(α g+α B)*i<=140737488355328)(S:α g+α B<=9223372036854775807)
  (T:∀c b,bf s b e (g++B) c->bf s b e e1 M->AZ c M->iI f b->q (.J (g++B) c) b):mz e i f (.J g e7) (.J B j0) (bR q F):=by
 obtain⟨j,V,l,z,k⟩:=r.nJ;refine dW V G L P S λc b d=>T c b (d.base z) ⟨ο z d.sub,?_⟩ ?_ λW m o=>d.sub _ _ ?_
 .have a:=x.2;cases M with
  |buf h C=>refine⟨a.1,d.sub _ _ ?_⟩;rw[k h λD E p=>y _ _ _ _ p rfl];exact a.2
  |_=>exact a
 .rintro h C D E rfl rfl rfl;have a:=d.2.1;rw[k h λD E p=>y _ _ _ _ p rfl,x.2.2]at a;cases a
 .rw[k W (λh C a=>by subst a;rintro rfl;rw[r.2.2]at o;cases o)];exact o
theorem HQ{a:Int->Int->Int}(b:e<α t)(c:e<α b8):(φ a t b8).take (e+1)=(φ a t b8).take e++[a (t.getD e 0) (b8.getD e 0)]:=by rw[a9w (by rw[aa0];omega),List.getElem_zipWith];simp_all
theorem HR(C D:Τ×Τ)(j l m n:Own)(T:U)(l3:α C.1<=1000000)(l4:α D.1<=1000000):
  AC γ 213 [eT C.1 C.2 j l,eT D.1 D.2 m n] T λl5 G=>T.sub G/\∃l6 r,l5=eT (cT C D).1 (cT C D).2 l6 r:=by
 obtain⟨b,h⟩:=C;obtain⟨c,d⟩:=D
 dsimp only at*
 have a03:=bM (t:=b);have a04:=bM (t:=c);have X:=@dY b;have Y:=@dY h;have Z:=@dY c;have k3:=@dY d;have p:(if cS b h (α b)=ζ then
  (if cS c d (α c)=ζ then(if α b=α c then(φ min b c,φ max h d)else([],[]))else(b,h))
  else if cS c d (α c)=ζ then(c,d)else([],[]))=cT (b,h) (c,d):=rfl
 generalize cT (b,h) (c,d)=a05 at*;refine aL hm Re ?_;refine bp λq a06=>?_;refine dk λs a07 a08 k4=>?_;refine gZ λt a09 a10 V a11 W=>?_;refine bh (Gx b h _ _ _ _ l3) ?_;refine bh (Gx c d _ _ _ _ l4) ?_;cases qx:cS b h (α b) with
 |false=>
  cases iw:cS c d (α c) with
  |false=>rw[qx,iw,if_neg acr,if_neg acr]at p;refine aa ?_;exact⟨.nil,.nil,by rw[<-p];rfl⟩
  |true=>rw[qx,iw,if_neg acr,if_pos rfl]at p;refine aa ?_;exact⟨m,n,by rw[<-p]⟩
 |true=>
  cases iw:cS c d (α c) with
  |false=>rw[qx,iw,if_pos rfl,if_neg acr]at p;refine aa ?_;exact⟨j,l,by rw[<-p]⟩
  |true=>
   rw[qx,iw,if_pos rfl,if_pos rfl]at p;by_cases cl:α b=α c
   .rw[if_pos cl]at p;have a13:=lI qx;have a14:=lI iw;refine aa ?_;refine aN λr k=>?_;generalize L:((T.set q _).set s _).set t _=E at*;have l7:T.sub E:=by subst L;exact aR
    have u:E q=β (.cells [.J (af b) j,.J (af h) l]):=by subst L;exact aR
    have v:E s=β (.cells [.J (af c) m,.J (af d) n]):=by subst L;exact aR
    have aP:E t=β (.cells [.J [] .nil,.J [] .nil]):=by subst L;exact aR
    have a15:t≠r:=by rintro rfl;rw[aP]at k;cases k
    have a16:q≠r:=by rintro rfl;rw[u]at k;cases k
    have a18:s≠r:=by rintro rfl;rw[v]at k;cases k
    clear L qx iw;have k5:=λa P w=>HQ (a:=min) (t:=b) (b8:=c) (e:=a) P w;have k6:=λa P w=>HQ (a:=max) (t:=h) (b8:=d) (e:=a) P w;have a19:(φ min b c).length=α b:=by rw[aa0];omega
    have a27:(φ max h d).length=α b:=by rw[aa0];omega
    generalize φ min b c=y at*;generalize φ max h d=z at*;refine aa ?_;refine cd [2,3,4,7] (λa:Nat=>[(8,.v (.int .i64 (a)))]) (λa G=>a<=α b/\∃S x,G r=β (.cells [.J (af (y.take a)) S,.J (af (z.take a)) x])/\bf E G 1 (af (y.take a)) S/\bf E G 1 (af (z.take a)) x/\AZ S x) (λa=>α b - a) 0
     ⟨⟨a8M _,.nil,.nil,μ _ _ _,Ν (κ η k),Ν (κ η k),λ_ _ _ _ P=>by cases P⟩,aR⟩ ?_
    rintro a a29⟨a30,S,x,A,o,F,B⟩a34;have rm:=ι (o.sub _ _ u);have nH:=ι (o.sub _ _ v);have l8:=ι A;have a36:(af (y.take a)).length=a:=by rw[bM,a8l];omega
    have a38:(af (z.take a)).length=a:=by rw[bM,a8l];omega
    by_cases a42:a<α b
    .have a43:=X acq;have a47:=Y (b:=a) acq;have a48:=Z (b:=a) acq;have a52:=k3 (b:=a) acq;have k7:=k5 a acq acq;have k8:=k6 a acq acq;clear X Y Z k3 k5 k6;generalize b.getD a 0=e at*;generalize c.getD a 0=f at*;generalize h.getD a 0=a3 at*;generalize d.getD a 0=a4 at*;have k9:(a)<(α c:Int):=acq;have B0:aW 1 (af (y.take a)):=λk4 H=>by obtain⟨l9,_,rfl⟩:=a8D.1 H;rfl
     have B1:aW 1 (af (z.take a)):=λk4 H=>by obtain⟨l9,_,rfl⟩:=a8D.1 H;rfl
     have l0:af (y.take (a+1))=af (y.take a)++[.v (.int .i64 (min e f))]:=by rw[k7];simp[af]
     have l1:af (z.take (a+1))=af (z.take a)++[.v (.int .i64 (max a3 a4))]:=by rw[k8];simp[af]
     clear k7 k8;generalize af (y.take a)=I at*;generalize af (z.take a)=K at*;refine aa ?_;refine dD η (by simp[aW,ρ]) λa56 a57 M=>?_;refine aa ?_;refine HP (o.mono M.sub) (F.mono M.sub) B B0 (by simp[aW,ρ]) acs acs λg l2 o F B n0=>?_;have i:=n0 _ _ (M.sub _ _ A);have aF:=τ i;have rm:=ι (o.sub _ _ u);have nH:=ι (o.sub _ _ v);refine aa ?_;have n1:=qH (Z:=.cells [.J (I++[.v (.int .i64 (min e f))]) g,.J K x]) o k i;have n2:=qH (Z:=.cells [.J (I++[.v (.int .i64 (min e f))]) g,.J K x]) F k i;have n3:=μ l2 r (.cells [.J (I++[.v (.int .i64 (min e f))]) g,.J K x]);clear i aF rm nH o F A l8;generalize l2.set r _=a61 at*;refine dD η (by simp[aW,ρ]) λa62 a63 N=>?_;refine aa ?_;refine HP (n2.mono N.sub) (n1.mono N.sub) (λn4 k9 n5 n9 V W O=>B _ _ _ _ W V O.symm) B1 (by simp[aW,ρ]) acs acs λa00 a65 F o a01 a02=>?_;have Q:=a02 _ _ (N.sub _ _ n3);have aF:=τ Q;refine aa ?_;refine⟨a+1,⟨acq,g,a00,?_,?_,?_,λn4 k9 n5 n9 V W O=>a01 _ _ _ _ W V O.symm⟩,rfl,acq⟩
     .rw[l0,l1]
     .rw[l0];exact qH o k Q
     .rw[l1];exact qH F k Q
    .obtain rfl:a=α b:=acq;have a68:=τ (o.sub _ _ aP);refine aa ?_;refine iJ ?_;exact⟨ο l7 o.sub,S,x,by grind⟩
   .rw[if_neg cl]at p;refine aa ?_;refine iJ ?_;exact⟨.nil,.nil,by rw[<-p];rfl⟩
def ja(a:au)(b c d:Own)(k:α a.sum=32):(ab a b c d).length=37/\aQ ζ 2 ((ab a b c d).drop 32)=eT a.aV a.aU b c/\aQ θ 1 ((ab a b c d).drop 34)=.v (.int .i64 a.live)/\aQ θ 1 ((ab a b c d).drop 35)=.v (.int .i64 a.size)/\aQ θ 1 ((ab a b c d).drop 36)=.J (af a.key) d/\aQ ζ 37 (ab a b c d)=.agg (ab a b c d):=by have h:=aT (M:=b) (e7:=c) (j0:=d) k;refine⟨h.len,by rw[h.d32];rfl,by rw[h.d34];rfl,by rw[h.d35];rfl,by rw[h.d36];rfl,?_⟩;show R.agg ((ab a b c d).take 37)= _;rw[h.t37]
theorem HS(a:c4)(S V:Ψ)(l m:Own)(y:U)(Z:aB cZ a.rows S)(k3:aB bC a.kids V)(a73:α a.rows<=4)(a74:α a.kids<=4)
  (k8:∀o∈a.rows,1<=α o.1/\α o.1<=8) (n0:∀c∈a.kids,c.hA/\α c.sum=32/\c.cE) (a05:(eJ a).size<=1048576) (a06:a.kind=2->a.rows≠[]) (a07:a.kind=3->a.kids≠[]):
  AC γ 158 [gO a (.J S l) (.J V m)] y λo F=>y.sub F/\∃h k H,o=.aJ [.agg (ab (dF a) h k H),.v (.bool ζ)]:=by
 have a81:=Z.len;have a83:=k3.len;have a84:(cY a).length<=3000:=by have n1:=rF λo r=>yJ (k8 o r).2;grind[zO,cY,ω,List.length_cons]
 have eX:=ja aw .nil .nil .nil bm;have x:(eb (cY a)).length=32:=p4 _;have z:(⟨eb (cY a),(eJ a).aS.1,(eJ a).aS.2,(eJ a).live,(eJ a).size,keyOf a⟩)=dF a:=rfl;have k4:=λa08 y r=>a3Q (cY a) a08 y r acq;have n2:=λy=>a2W a S V l m y Z k3 acq acq (λo r=>(k8 o r).2) n0;generalize eb (cY a)=p at*;generalize dF a=G at*;have a86:(bo p).cells=p.map ah:=rfl;have a88:(p.map ah).length=32:=by simp[x]
 have a89:putAt (ab aw .nil .nil .nil) 0 (p.map ah)=ab (fN p ⟨0,0,([],[])⟩) .nil .nil .nil:=tz bm x;have n:∀c:au,α c.sum=32->∀h k H,putAt (ab aw .nil .nil .nil) 0 (ab c h k H)=ab c h k H:=λc r h k H=>cF bm r;have a90:=n (fN p ⟨0,0,([],[])⟩) x .nil .nil .nil;have P:=λd h k=>ja (fN p d) h k .nil x;have a92:=P ⟨0,0,([],[])⟩ .nil .nil;refine aL hm PA ?_;refine bp λv a09=>?_;refine dk λI a10 a94 a11=>?_;rw[cr];have n3:((y.set v (.cells [.v (.int .u8 a.kind.toNat),.J S l,.J V m])).set I (.cells (ab aw .nil .nil .nil))) v=β (.cells [.v (.int .u8 a.kind.toNat),.J S l,.J V m]):=by rw[ξ _ _ a11,μ]
 have n4:=μ (y.set v (.cells [.v (.int .u8 a.kind.toNat),.J S l,.J V m])) I (.cells (ab aw .nil .nil .nil));have n5:y.sub ((y.set v (.cells [.v (.int .u8 a.kind.toNat),.J S l,.J V m])).set I (.cells (ab aw .nil .nil .nil))):=κ (κ η a09) a10;generalize (y.set v _).set I _=a13 at*;refine ib (n2 a13) λa14 w k9=>?_;have k4:=k4 a14 w (oa.aq k9);have k5:=k9.sub;refine bh k4 ?_;clear k4 n2;refine aN λf g=>?_;have l0:=k5 _ _ n3;have c2:=k5 _ _ n4;have a95:v≠f:=by rintro rfl;rw[l0]at g;cases g
 have a96:I≠f:=by rintro rfl;rw[c2]at g;cases g
 have a15:=ο n5 k5;clear k5 n3 n4 n5 k9;refine aa ?_;refine cd [1,2,4] (λb:Nat=>[(5,.v (.int .i64 (b)))]) (λb F=>b<=α a.rows/\w.sub F/\(0<=((a.rows.take b).foldl ea ⟨0,α a.rows,([],[])⟩).live/\((a.rows.take b).foldl ea ⟨0,α a.rows,([],[])⟩).live<=b/\((a.rows.take b).foldl ea ⟨0,α a.rows,([],[])⟩).aS.1.length<=8/\((a.rows.take b).foldl ea ⟨0,α a.rows,([],[])⟩).aS.2.length<=8)/\
   ∃h k,F f=β (.cells (ab (fN p ⟨((a.rows.take b).foldl ea ⟨0,α a.rows,([],[])⟩).live,b,((a.rows.take b).foldl ea ⟨0,α a.rows,([],[])⟩).aS⟩) h k .nil))) (λb=>α a.rows - b) 0 ⟨⟨a8M _,κ (κ η g) g,acr,.nil,.nil,μ _ _ _⟩,aR⟩ ?_
 rintro b l1⟨a16,i,⟨a97,a98,a18,a19⟩,h,k,aP⟩a27;have K:=λr=>fa (a:=a.rows) (b:=([],θ)) (e:=b) r;have C:=λr=>congrArg (List.foldl ea ⟨0,α a.rows,([],[])⟩) (K r);generalize k6:(a.rows.take b).foldl ea ⟨0,α a.rows,([],[])⟩=d at*;have n9:=ι (i _ _ l0);have M:=ι aP;have N:=P ⟨d.live,b,d.aS⟩ h k;have a00:putAt (ab (fN p ⟨d.live,b,d.aS⟩) h k .nil) 35 [.v (.int .i64 ((b)+1))]=ab (fN p ⟨d.live,(b)+1,d.aS⟩) h k .nil:=rI x;have q:=τ aP
 dsimp only at N
 refine aa ?_;refine aG (λO=>?_) λO=>?_
 .have A:b<α a.rows:=acq;have Q:a.rows[b]?=β (a.rows.getD b ([],θ)):=by simp_all
  obtain⟨_,j,W,rfl⟩:=Z.get Q;have k7:=k8 _ (a8r Q);have C:=C A;rw[aaa,k6]at C;generalize a.rows.getD b ([],θ)=o at*;have a01:eG 2 S[b]?=β (.bZ [.J (af o.1) W,.v (.bool o.2)]):=by rw[j];rfl
  obtain⟨o,a29⟩:=o
  dsimp only at k7 a01
  have l2:=P ⟨d.live,(b)+1,d.aS⟩ h k
  dsimp only at l2
  cases a29 with
  |false=>
   refine aa ?_;have s:(a.rows.take (b+1)).foldl ea ⟨0,α a.rows,([],[])⟩=d:=by rw[C];rfl
   refine⟨b+1,⟨A,?_,h,k,?_⟩,rfl,acq⟩;grind
   .rw[s];push_cast;rfl
  |true=>
   have a30:putAt (ab (fN p ⟨d.live,(b)+1,d.aS⟩) h k .nil) 34 [.v (.int .i64 (d.live+1))]=ab (fN p ⟨d.live+1,(b)+1,d.aS⟩) h k .nil:=rH x;have e:=P ⟨d.live+1,(b)+1,d.aS⟩ h k
   dsimp only at e
   refine aa ?_;generalize t:l1.set f _=u;have l3:u f=β (.cells (ab (fN p ⟨d.live+1,(b)+1,d.aS⟩) h k .nil)):=by subst t;exact μ _ _ _
   have l4:w.sub u:=by subst t;exact κ i g
   clear t q M;refine ag (HR d.aS (o,o) h k W W u acq (by dsimp only;omega)) ?_;rintro _ a34⟨X,D,E,rfl⟩;have l5:=X _ _ l3;have q:=τ l5;have a36:cT d.aS (gp o)=cT d.aS (o,o):=by unfold gp;rw[if_pos k7]
   have a38:putAt (ab (fN p ⟨d.live+1,(b)+1,d.aS⟩) h k .nil) 32 [.J (af (cT d.aS (o,o)).1) D,.J (af (cT d.aS (o,o)).2) E]=ab (fN p ⟨d.live+1,(b)+1,cT d.aS (o,o)⟩) D E .nil:=yL x;have a42:=p7 d.aS (o,o) 8 a18 a19 k7.2 k7.2;refine aa ?_;have s:(a.rows.take (b+1)).foldl ea ⟨0,α a.rows,([],[])⟩=⟨d.live+1,d.size,cT d.aS (o,o)⟩:=by rw[C];show ea d (o,ζ)= _;rw[ea,if_pos rfl,a36]
   refine⟨b+1,⟨A,ο l4 X,?_,D,E,?_⟩,rfl,acq⟩;grind
   .rw[s];push_cast;rfl
 obtain rfl:b=α a.rows:=acq;rw[a8F]at k6;have a43:d.size=α a.rows:=by rw[<-k6,z8]
 have a47:(⟨d.live,α a.rows,d.aS⟩)=d:=by rw[<-a43]
 rw[a47]at aP;clear C K O M N a00 q n9;refine cd [1,2,4] (λb:Nat=>[(6,.v (.int .i64 (b)))]) (λb F=>b<=α a.kids/\w.sub F/\(0<=((a.kids.take b).foldl eA d).live/\((a.kids.take b).foldl eA d).live<=4+b*1048576/\0<=((a.kids.take b).foldl eA d).size/\((a.kids.take b).foldl eA d).size<=4+b*1048576/\((a.kids.take b).foldl eA d).aS.1.length<=8/\((a.kids.take b).foldl eA d).aS.2.length<=8)/\
   ∃h k,F f=β (.cells (ab (fN p ((a.kids.take b).foldl eA d)) h k .nil))) (λb=>α a.kids - b) 0 ⟨⟨a8M _,i,acs,h,k,aP⟩,aR⟩ ?_
 clear aP i;rintro b l1⟨a16,i,⟨a99,b00,b01,b02,a48,a52⟩,h,k,aP⟩a27;have K:=λr=>fa (a:=a.kids) (b:=aw) (e:=b) r;have C:=λr=>congrArg (List.foldl eA d) (K r);generalize l6:(a.kids.take b).foldl eA d=T at*;have n9:=ι (i _ _ l0);have M:=ι aP;have N:=P T h k;have q:=τ aP
 dsimp only at N
 refine aa ?_;refine aG (λO=>?_) λO=>?_
 .have A:b<α a.kids:=acq;have Q:a.kids[b]?=β (a.kids.getD b aw):=by simp_all
  obtain⟨_,j,l7,a56,D,E,L,rfl⟩:=k3.get Q;obtain⟨a57,_,_⟩:=n0 _ (a8r Q);obtain⟨n1,a61,b03,b04,b05,b06,b07⟩:=a57;have C:=C A;rw[aaa,l6]at C;generalize a.kids.getD b aw=c at*;have l8:=ja c D E L l7;have a01:eG 37 V[b]?=β (.bZ (ab c D E L)):=by rw[j];exact lC l8.1
  have a00:putAt (ab (fN p T) h k .nil) 35 [.v (.int .i64 (T.size+c.size))]=ab (fN p ⟨T.live,T.size+c.size,T.aS⟩) h k .nil:=rI x;have a30:putAt (ab (fN p ⟨T.live,T.size+c.size,T.aS⟩) h k .nil) 34 [.v (.int .i64 (T.live+c.live))]=ab (fN p ⟨T.live+c.live,T.size+c.size,T.aS⟩) h k .nil:=rH x;have l2:=P ⟨T.live,T.size+c.size,T.aS⟩ h k;have e:=P ⟨T.live+c.live,T.size+c.size,T.aS⟩ h k
  dsimp only at l2 e
  generalize ab c D E L=a62 at*;clear j;refine aa ?_;generalize t:l1.set f _=u;have l3:u f=β (.cells (ab (fN p ⟨T.live+c.live,T.size+c.size,T.aS⟩) h k .nil)):=by subst t;exact μ _ _ _
  have l4:w.sub u:=by subst t;exact κ i g
  clear t q M;refine ag (HR T.aS (c.aV,c.aU) h k D E u acq (by dsimp only;omega)) ?_;rintro _ a34⟨X,cu,cp,rfl⟩;have l5:=X _ _ l3;have q:=τ l5;have a38:putAt (ab (fN p ⟨T.live+c.live,T.size+c.size,T.aS⟩) h k .nil) 32 [.J (af (cT T.aS (c.aV,c.aU)).1) cu,.J (af (cT T.aS (c.aV,c.aU)).2) cp]=ab (fN p ⟨T.live+c.live,T.size+c.size,cT T.aS (c.aV,c.aU)⟩) cu cp .nil:=yL x;have a42:=p7 T.aS (c.aV,c.aU) 8 a48 a52 n1 a61;refine aa ?_;have s:(a.kids.take (b+1)).foldl eA d=⟨T.live+c.live,T.size+c.size,cT T.aS (c.aV,c.aU)⟩:=by rw[C];rfl
  refine⟨b+1,⟨A,ο l4 X,?_,cu,cp,?_⟩,rfl,acq⟩;grind
  .rw[s]
 obtain rfl:b=α a.kids:=acq;rw[a8F]at l6;have a63:eJ a=T:=by unfold eJ;rw[k6,l6]
 rw[a63]at a05 z;have b08:=τ (i _ _ c2);have b09:∀F:U,w.sub F->y.sub F:=λF r=>ο a15 r;clear C K O;have B:α G.sum=32:=by rw[<-z];exact x
 have l9:G.size=T.size:=by rw[<-z]
 by_cases g2:a.kind=2
 .have bp:(a.kind.toNat:Int)=2:=by rw[g2];rfl
  obtain⟨o,b10,a02⟩:=aaf (a06 g2);obtain⟨_,j,W,rfl⟩:=Z.get (i:=0) (by rw[a02];rfl);have Y:keyOf a=o.1:=by unfold keyOf;rw[if_pos g2,a02];rfl
  rw[Y]at z;have a65:cO 2 (.J S l) (.v (.int .i64 0))=β (.bZ [.J (af o.1) W,.v (.bool o.2)]):=by show cO 2 _ (.v (.int .i64 ((0:Nat))))= _;rw[oV,j];rfl
  have a68:putAt (ab (fN p T) h k .nil) 36 [.J (af o.1) W]=ab G h k W:=by rw[<-z];exact rJ x
  have e:=ja G h k W B;have a03:=n G B h k W;rw[l9]at e;generalize o.1=a69 at*;clear P n z;refine iJ ?_;refine iJ ?_;grind
 have bp:¬(a.kind.toNat:Int)=2:=λs=>g2 (a9f.1 (by grind));refine iJ ?_;by_cases g3:a.kind=3
 .have gZ:(a.kind.toNat:Int)=3:=by rw[g3];rfl
  obtain⟨c,b11,a04⟩:=aaf (a07 g3);obtain⟨_,j,l7,a56,D,E,L,rfl⟩:=k3.get (i:=0) (by rw[a04];rfl);have Y:keyOf a=c.key:=by unfold keyOf;rw[if_neg g2,if_pos g3,a04];rfl
  rw[Y]at z;have l8:=ja c D E L l7;have a65:cO 37 (.J V m) (.v (.int .i64 0))=β (.bZ (ab c D E L)):=by show cO 37 _ (.v (.int .i64 ((0:Nat))))= _;rw[oV,j];exact lC l8.1
  have a68:putAt (ab (fN p T) h k .nil) 36 [.J (af c.key) L]=ab G h k L:=by rw[<-z];exact rJ x
  have e:=ja G h k L B;have a03:=n G B h k L;rw[l9]at e;generalize ab c D E L=a62 at*;generalize c.key=a69 at*;clear P n z;refine iJ ?_;refine iJ ?_;grind
 .have gZ:¬(a.kind.toNat:Int)=3:=λs=>g3 (a9f.1 (by grind));have Y:keyOf a=[]:=by unfold keyOf;simp_all
  rw[Y]at z;have a71:fN p T=G:=z;rw[a71]at M N q;have e:=ja G h k .nil B;have a03:=n G B h k .nil;rw[l9]at e;clear P n z;refine iJ ?_;refine iJ ?_;grind
def a5D:∀(a:List (a6.T e)),ek (qn a)=a.flatMap (a6.bd e)
 |[]=>rfl
 |[b]=>by simp[qn,ek]
 |c::d::h=>rfl
theorem a5E:∀(a:Nat)(b:a6.T a),ek (wF a b)=a6.bd a b
 |0,b=>by
  obtain⟨d,rfl⟩:=a6.ik b;show ek (if a6.len (a6.leaf d)=0 then ε else β ⟨0,a6.leaf d⟩)= _;by_cases c:a6.len (a6.leaf d)=0
  .rw[if_pos c];rw[a6.il]at c;rw[a6.kN,a8q c];rfl
  .rw[if_neg c];rfl
 |a+1,b=>by
  obtain⟨h,rfl⟩:=a6.gr b;show ek (match a6.kids (a6.node h)with
   |[k]=>β ⟨a,k⟩
   |_=>β ⟨a+1,a6.node h⟩)= _
  grind[a6.fw,a6.fP,ek]
def a5F(d:1<=e)(h:e<=8)(k:bU e t)(o:hj e b9)(p:t∉ek b9):(ek (kT b9 t)).Perm (t::ek b9):=by
 match b9 with
 |none=>show(a6.bd 0 (a6.leaf [t])).Perm _;rw[a6.kN];rfl
 |some ⟨a,b9⟩=>have b:GT e a b9:=o;have c:t∉a6.bd a b9:=p;simp only[kT];rw[if_neg c,a5D];rw[(a6.rP (gx d h) k a b9 b.wf b.ej b.ok c).1];unfold a6.ec;exact aaC.trans (.cons _ (List.Perm.of_eq a9b))
def a5G(d:1<=e)(h:e<=8)(k:bU e t)(o:hj e b9)(c:t∈ek b9):ek (jM b9 t)=(ek b9).filter λp=>decide (p≠t):=by
 match b9 with
 |none=>cases c
 |some ⟨a,b9⟩=>have b:GT e a b9:=o;have r:t∈a6.bd a b9:=c;simp only[jM];rw[if_pos r,a5E];exact(a6.qm (gx d h) k a b9 b.wf b.ej b.ok).1
theorem HT(a:Τ)(b:List Τ):(hp a b).Perm (a::b):=by grind[List.takeWhile_append_dropWhile,decide,c5,hp,List.perm_middle]
theorem HU{b:Τ}:∀ {a:List Τ},a.Pairwise (λk o=>c5 k<c5 o)->(∀c∈a,c5 b≠c5 c)->(hp b a).Pairwise (λk o=>c5 k<c5 o)
 |[],_,_=>by simp[hp]
 |c::a,r,x=>by
  obtain⟨z,C⟩:=a8R.1 r;have D:=x c acr;by_cases y:c5 b<c5 c
  .have p:hp b (c::a)=b::c::a:=by simp[hp,y]
   rw[p];refine a8R.2 ⟨λh d=>?_,r⟩;grind
  .have p:hp b (c::a)=c::hp b a:=by simp[hp,y]
   rw[p];refine a8R.2 ⟨λh d=>?_,HU C λh d=>x h (by simp[d])⟩;rcases a8E.1 ((HT b a).mem_iff.1 d)with rfl|d
   .omega
   .exact z h d
theorem HV:∀(b a:List Τ),(a++b).Pairwise (λh k=>c5 h≠c5 k)->a.Pairwise (λh k=>c5 h<c5 k)->(b.foldl (λo c=>hp c o) a).Perm (a++b)/\(b.foldl (λo c=>hp c o) a).Pairwise (λh k=>c5 h<c5 k)
 |[],a,_,d=>by simpa using d
 |c::b,a,d,p=>by
  have r:=((HT c a).append_right b).trans aaC.symm;obtain⟨D,E,x⟩:=a9r.1 d;obtain⟨F,G⟩:=HV b (hp c a) (r.symm.pairwise d λd=>d.symm) (HU p λy z C=>x y z c acr C.symm);grind
theorem a5H(c:X.Pairwise (λa b=>c5 a<c5 b))(p:∀d∈X,c5 t≠c5 d):(sd (X++[t])).Perm (t::X)/\(sd (X++[t])).Pairwise (λa b=>c5 a<c5 b):=by
 have h:([]++(X++[t])).Pairwise (λa b=>c5 a≠c5 b):=by rw[a8y];refine a9r.2 ⟨c.imp λc=>by omega,acr,λa r b x=>?_⟩;grind
 obtain⟨k,o⟩:=HV (X++[t]) [] h .nil;exact⟨k.trans (List.perm_append_singleton _ _),o⟩
def eN.put{d:Nat}{a:ba}(b:eN d a)(G:d<900){c:Τ}(h:bU (α a.aE+1) c)(o:∀y∈a.rows,c5 y≠c5 c):eN (d+1) (a.put c)/\(da (α a.aE+1) c a.bq 0).2=ζ/\c∉ek a.bu:=by
 have L:=b.c;have p:c∉a.rows:=λhm=>o c hm rfl;have r:(da (α a.aE+1) c a.bq 0).2=true:=by
  cases z:(da (α a.aE+1) c a.bq 0).2 with
  |true=>rfl
  |false=>exact absurd (b.fE.mem_iff.1 (Ay z)) p
 have x:c∉ek a.bu:=λhm=>p (b.om.mem_iff.1 hm);obtain⟨k,C⟩:=a5H b.ej λD E F=>o D E F.symm;have P:=b.om.length_eq;have S:=b.dQ;refine⟨⟨b.right,b.dw.ins h,?_,(a5r acq acq h b.go acq).1,?_,C,?_⟩,r,x⟩
 .exact(Ax h b.dw.fq r).trans ((b.fE.cons c).trans k.symm)
 .exact(a5F acq acq h b.go x).trans ((b.om.cons c).trans k.symm)
 .show(sd (a.rows++[c])).length<=d+1;rw[k.length_eq,a8m];omega
theorem a5I{b:List Τ}(d:X.Pairwise (·≠ ·))(a:X.Perm (t::b)):b.Perm (X.filter λc=>decide (c≠t)):=by have h:=(a.filter λc=>decide (c≠t)).symm;have k:(t::b).Pairwise (·≠ ·):=a.pairwise d λa=>a.symm;obtain⟨o,_⟩:=a8R.1 k;rw[abf,if_neg acr]at h;grind[decide,List.filter_eq_self,decide_eq_true]
def eN.qD(a:eN e h9):h9.rows.Pairwise (·≠ ·):=a.ej.imp λa b=>by subst b;omega
theorem eN.del{k:Nat}{b:ba}(a:eN k b){c:Τ}(d:c∈b.rows):eN k (b.del c)/\(cn (α b.aE+1) c b.bq 0).2=ζ/\c∈ek b.bu:=by
 have z:=a.c;have h:=a.row d;have o:(cn (α b.aE+1) c b.bq 0).2=true:=by
  cases r:(cn (α b.aE+1) c b.bq 0).2 with
  |true=>rfl
  |false=>exact absurd (a.fE.mem_iff.2 d) (Az h.len a.dw.fq a.dw.wq r)
 have p:=a.om.mem_iff.2 d;have x:=a4G a.dw o;refine⟨⟨a.right,a.dw.del,?_,(a5w acq acq h a.go).1,?_,a.ej.filter _,a8W (abi _ _) a.dQ⟩,o,p⟩
 .exact a5I a.qD (a.fE.symm.trans x)
 .show(ek (jM b.bu c)).Perm (b.rows.filter λy=>decide (y≠c));rw[a5G acq acq h a.go p];exact a.om.filter _
def eN.none(a:eN e h9)(d:α t=α h9.aE+1)(b:t∉h9.rows):(cn (α h9.aE+1) t h9.bq 0).2=false:=by
 cases c:(cn (α h9.aE+1) t h9.bq 0).2 with
 |false=>rfl
 |true=>exact absurd (a.fE.mem_iff.1 ((wm c).mem_iff.2 acr)) b
variable{h6:db}
theorem HW(a:eU h6=ζ)(b:h6.kind=1):eU ⟨1,h6.table,h6.aE,[]⟩=true:=by unfold eU at a|-;simp_all
variable{h5:List Υ}
def HX(a:eU ⟨1,w,h5,[]⟩=ζ):eN e ⟨w,h5,[],.nil,ε⟩:=⟨a,lX.nil,.refl _,trivial,.refl _,.nil,a8M _⟩
theorem add_eq(a:dK e a8)(c:e<=1000)(d:eU ⟨1,w,h5,[]⟩=ζ):
  kp (a8.map ba.bG) ⟨w,h5,aw,aw⟩=if cw a8 w<α a8 then .error 4 else if 7<α a8 then .error 10 else .ok ((a8.take (jN a8 w)++⟨w,h5,[],.nil,ε⟩::a8.drop (jN a8 w)).map ba.bG):=by
 have h:fG ⟨w,h5,aw,aw⟩=true:=(HX d).bG acq;unfold kp;rw[a.cat c,h,Bool.and_self,if_pos rfl]
 dsimp only
 rw[AY a,a8o];by_cases b:cw a8 w<α a8;simp_all
 .rw[if_neg (by simpa using b),if_neg b,a5z acq];by_cases c2:7<α a8
  .grind
  .rw[if_neg acq,if_neg c2,a9i,a8C,ab8,aaV];rfl
theorem HY(a:dK e a8)(c:e<=1000):cL (a8.map ba.bG) w=if cw a8 w<α a8 then .ok ((a8.eraseIdx (cw a8 w)).map ba.bG)else .error 3:=by
 unfold cL;rw[a.cat c,if_pos rfl,AY a];by_cases b:cw a8 w<α a8
 .rw[if_pos (decide_eq_true b),if_pos b,HL a b,aaj,a9i,ab8,aaV]
 grind
theorem q6(a:dK e a8)(b:e<=1000)(c:eN i h9)(d:i<=1000)(h:cw a8 h9.name<α a8):kq (a8.map ba.bG) h9.bG=.ok ((a8.set (cw a8 h9.name) h9).map ba.bG):=by unfold kq;rw[a.cat b,c.bG d,Bool.and_self,if_pos rfl];show(if gC (a8.map ba.bG) h9.name=ζ then _ else _)= _;rw[AY a,if_pos (decide_eq_true h)];grind[ba.bG,set,dc,HL,List.map_set]
def dK.B2(c:∀d∈a8,eN e d)(h:c8 (a8.map ba.bG)=ζ):dK e a8:=by obtain⟨_,a,b⟩:=py.1 h;rw[aaz]at a;rw[a8o]at b;exact⟨c,a,b⟩
def dK.le{b c:Nat}{d:List ba}(a:dK b d)(h:b<=c):dK c d:=⟨λk o=>(a.ok k o).le h,a.ej,a.dQ⟩
theorem dK.set{b:Nat}{a:List ba}(d:dK b a)(x:b<1000){c:ba}(h:eN (b+1) c)(k:cw a c.name<α a):dK (b+1) (a.set (cw a c.name) c):=
 dK.B2 (λo p=>by
  rcases aai p with r|rfl
  .exact(d.ok o r).le acq
  .exact h) (Hx (q6 d acq h acq k))
def B3(a:eU h6=ζ)(h:h6.kind≠1)(k:h6.kind≠2):(h6.kind=3\/h6.kind=4):=by
 have a:=a;simp only[eU,Ξ]at a;have a:=a.2;have c:∀d:UInt8,h6.kind.toNat=d.toNat->h6.kind=d:=λd b=>a9f.1 b;split at a
 .rename_i b;exact absurd (c 1 b) h
 split at a
 .rename_i b;exact absurd (c 2 b) k
 split at a
 .rename_i b;exact b.imp (c 3) (c 4)
 .cases a
theorem B4(d:dK e a8)(y:e<900)(o:dm h6.row):dK (e+1) (hJ a8 h6).2:=by
 have b:=d.le (show e<=e+1 by omega);unfold hJ;by_cases p:eU h6=θ
 .rw[if_pos p];exact b
 rw[if_neg p];have z:eU h6=true:=by simp_all
 by_cases c1:h6.kind=1
 .rw[if_pos c1];have r:=HW z c1;have h:=add_eq d acq r;by_cases c2:cw a8 h6.table<α a8
  .rw[if_pos c2];exact b
  rw[if_neg c2]at h|-;by_cases aD:7<α a8
  .rw[if_pos aD];exact b
  rw[if_neg aD]at h|-;refine dK.B2 (λc a=>?_) (HA h);simp only[a8u,a8E]at a;rcases a with a|rfl|a
  .exact b.ok c (a8v a)
  .exact HX r
  .exact b.ok c (a8O a)
 rw[if_neg c1];by_cases c2:α a8<=cw a8 h6.table
 .rw[if_pos c2];exact b
 rw[if_neg c2];have k:cw a8 h6.table<α a8:=acq;by_cases aD:h6.kind=2
 .rw[if_pos aD];have h:=HY (w:=h6.table) d acq;rw[if_pos k]at h;exact dK.B2 (λc a=>b.ok c (ab5 a)) (Hw (d.cat acq) h)
 rw[if_neg aD];have a:=d.ok _ (AX k);have C:=wH k;generalize a8.getD (cw a8 h6.table) default=c at*;by_cases aP:α h6.row≠α c.aE+1
 .rw[if_pos aP];exact b
 rw[if_neg aP];have D:bU (α c.aE+1) h6.row:=⟨acq,o⟩;rw[<-C]at k|-;by_cases bl:h6.kind=4
 .rw[if_pos bl];by_cases bx:h6.row∈c.rows
  .rw[if_pos bx];exact d.set acq ((a.del bx).1.le acq) k
  .rw[if_neg bx];exact b
 .rw[if_neg bl];by_cases bx:c.rows.any (λx=>decide (c5 x=c5 h6.row))=ζ
  .rw[if_pos bx];exact b
  .rw[if_neg bx];refine d.set acq (a.put y D λx o E=>bx ?_).1 k;simp_all
def lf(a:Τ):Nat:=(c5 a+9223372036854775808).toNat
theorem B5(a:dm t): -9223372036854775808<=c5 t/\c5 t<9223372036854775808:=by
 unfold c5;rw[a9c];cases b:t[0]? with
 |none=>simp
 |some c=>exact a c (a8r b)
theorem B6(a:dm t):IntKind.u64.wrap (IntKind.u64.wrap (c5 t)+9223372036854775808)=(lf t:Int)/\(lf t:Int)=c5 t+9223372036854775808:=by grind[B5,lf,c5,Int.toNat_of_nonneg,kG]
theorem HZ(c d:Own)(a:Τ)(b:U)(k:ph a)(o:dm a):AC γ 194 [fU.V c,.J (af a) d] b λp r=>r=b/\p=.aJ [iv 0 (lf a),.v (.bool ζ)]:=by
 obtain⟨x,y⟩:=B6 o;obtain⟨C,D⟩:=k;have E:=bM (t:=a);have F:=mT (t:=a) acq d;have z:fU.ok (α a)=true:=by rw[rY];simp_all
 have h:=λb=>G9 fU c (α a) b acq acr;rw[z]at h;unfold c5 at x;clear y;refine aL hm QH ?_;refine bp λG L=>?_;refine dk λP S T V=>?_;refine bh (h _) ?_;rfl
theorem a5J(r x y:Own)(a b:Τ)(c:U)(F:ph a)(l:α b=α a)(z:dm a)(C:dm b):AC γ 139 [fU.V r,.J (af a) x,.J (af b) y] c λk o=>o=c/\k=.v (.bool (decide (c5 a<c5 b))):=by
 have T:ph b:=by unfold ph at*;omega
 have fE:=(B6 z).2;have V:=(B6 C).2;have G:=λc=>HZ r x a c F z;have L:=λc=>HZ r y b c T C;obtain⟨m,n⟩:=F;have q:=bM (t:=a);have s:=bM (t:=b);have W:=mT (t:=a) acq x;have e:=mT (t:=b) acq y;have P:a.getD 0 0=c5 a:=rfl;have S:b.getD 0 0=c5 b:=rfl;rw[P]at W;rw[S]at e;have t:lf a<lf b↔c5 a<c5 b:=acq;have u:lf a=lf b↔c5 a=c5 b:=acq;have cf:lf a<18446744073709551616/\lf b<18446744073709551616:=by have G:=B5 z;have L:=B5 C;omega
 clear P S fE V;generalize lf a=d at*;generalize lf b=h at*;generalize c5 a=D at*;generalize c5 b=f at*;have E:∀p:Nat,p<18446744073709551616->di [(2,c6.int IntKind.u64)] [R.v (Value.int IntKind.u64 0),R.v (Value.int IntKind.u64 (p))]:=λp v=>by
  simp[di,c6.uw]
 have w:=E d cf.1;have A:=E h cf.2;clear E;have g:peq (R.agg [R.v (Value.int IntKind.u64 0),R.v (Value.int IntKind.u64 (d))]) (R.agg [R.v (Value.int IntKind.u64 0),R.v (Value.int IntKind.u64 (h))])=decide (d=h):=by grind[peq]
 refine aL hm P7 ?_;refine bp λB H=>?_;refine bh (G _) ?_;refine dk λI K p M=>?_;refine bh (L _) ?_;refine gZ λN O cp Q X Y=>?_;have i:∀c,AC γ 195 [iv 0 d,iv 0 h] c λk o=>o=c/\k=.v (.bool (decide (D<f))):=λc=>(a2X 0 d 0 h c).mono λk o j=>⟨j.1,by simp_all⟩;rw[g];refine aG (λD=>?_) λD=>?_
 .refine bh (i _) ?_;trivial
 .trivial
theorem a5K(c:∀a<e,¬c5 t<c5 (X.getD a []))(b:e<=α X)(d:e<α X->c5 t<c5 (X.getD e [])):hp t X=X.take e++t::X.drop e:=by
 induction X generalizing e with
 |nil=>simp at b;subst b;rfl
 |cons h X ih=>
  cases e with
  |zero=>grind[c5,hp,List.takeWhile_cons,List.dropWhile_cons]
  |succ e=>have o:¬c5 t<c5 h:=c 0 acq;have:=ih (λa p=>c (a+1) acq) (by simpa using b) (λk=>d (by simpa using k));simp_all [hp]
theorem a5L(d:List Τ)(m:Ψ)(w z:Own)(F:Nat)(C:U)(g:aB isRow d m)(n:∀G∈d,bU F G)(k5:1<=F)(k6:F<=8)(n5:α d<=100000):
  AC γ 68 [fU.V z,.J m w] C λG L=>C.sub L/\∃A k7,aB isRow (sd d) A/\G=.J A k7:=by
 have n9:=g.len;have k8:∀C,AC γ 138 [fU.V z,.v (.int .i64 (F:Int))] C λG L=>L=C/\G=.v (.bool ζ):=λC=>by
  have:=G9 fU z F C acq acr;rw[rY,decide_eq_true ⟨k5,k6⟩]at this;exact this
 have a00:(fU.V z).cells=[.v (.int .u8 0),.v (.int .i64 0),.J (af []) z]:=rfl;refine aL hm Nd ?_;refine bp λq k9=>?_;have B:∀S,(C.set q (.cells (fU.V z).cells)).sub S->S.read q=β [.v (.int .u8 0),.v (.int .i64 0),.J (af []) z]:=λS k=>ι (k _ _ (μ _ _ _));have l0:=κ (Z:=.cells (fU.V z).cells) (η) k9;generalize C.set q _=H at*;refine gX [1,2,5] (λh:Nat=>[(6,.v (.int .i64 h))]) (λh=>h<=α d) (λh=>α d - h) 0 acq aR ?_
 .rintro h I K;have l1:=B H η;refine aa ?_;refine aG (λs=>?_) λs=>?_
  .have T:d[h]?=β (d.getD h []):=by simp_all
   have M:d[0]?=β (d.getD 0 []):=by grind
   obtain⟨_,l2,i,rfl⟩:=g.get T;obtain⟨_,l3,D,rfl⟩:=g.get M;have l4:=(n _ (a8r T)).len;have a01:=(n _ (a8r M)).len;have a02:=bM (t:=d.getD h []);have a03:=bM (t:=d.getD 0 []);generalize d.getD h []=r at*;generalize d.getD 0 []=b at*;refine aa ?_;have a04:cO 1 (.J m w) (.v (.int .i64 0))=β (.bZ [.J (af b) D]):=by show cO 1 _ (.v (.int .i64 ((0:Nat))))= _;rw[oV,l3];rfl
   refine bh (k8 _) ?_;exact⟨h+1,acq,rfl,acq⟩
  .refine cd [1,2] (λb:Nat×Ψ×Own=>[(7,.v (.int .i64 b.1)),(5,.J b.2.1 b.2.2)]) (λb L=>H.sub L/\b.1<=α d/\∃c,(d.take b.1).foldl (λc r=>hp r c) []=c/\α c=b.1/\(∀G∈c,bU F G)/\aB isRow c b.2.1) (λb=>α d - b.1) (0,[],.nil) ⟨⟨η,acq,[],rfl,rfl,acr,trivial⟩,aR⟩ ?_;rintro⟨h,E,bH⟩ S ⟨j,I,c,V,l5,N,x⟩ K
   dsimp only at I V l5 x|-
   have a05:=x.len;refine aa ?_;refine aG (λs=>?_) λs=>?_
   .have T:d[h]?=β (d.getD h []):=by simp_all
    obtain⟨_,l2,i,rfl⟩:=g.get T;have O:=n _ (a8r T);have l4:=O.len;have l6:=O.kh;have Q:=fa (a:=d) (b:=[]) (e:=h) acq;generalize d.getD h []=r at*;have el:∀a,a<α c->∃D,E[a]?=β (.J (af (c.getD a [])) D):=λa W=>by
     obtain⟨_,o,D,rfl⟩:=x.get (i:=a) (x:=c.getD a []) (by simp_all);exact⟨D,o⟩
    have l7:∀a,a<α c->(c.getD a []).length=F:=λa W=>(N _ (by simp_all)).len;have l8:∀a,a<α c->dm (c.getD a []):=λa W=>(N _ (by simp_all)).kh;refine cd [1,2,5,7] (λb:Nat×Ψ×Own=>[(9,.v (.int .i64 b.1)),(8,.J b.2.1 b.2.2)]) (λb L=>b.1<=α c/\(∀X<b.1,¬c5 r<c5 (c.getD X []))/\aB isRow (c.take b.1) b.2.1/\bf S L 1 b.2.1 b.2.2) (λb=>α c - b.1) (0,[],.nil) ⟨⟨acq,λX k=>by simp at k,trivial,Ν η⟩,aR⟩ ?_;rintro⟨a,l,on⟩ l9 ⟨W,Y,y,e⟩ K
    dsimp only at W Y y e|-
    have l1:=B l9 (ο j e.sub);have a06:α l=a:=by rw[y.len,a8l];omega
    have Z:¬(a<α c/\¬c5 r<c5 (c.getD a []))->hp r c=c.take a++r::c.drop a:=λk=>a5K Y W λn0=>Classical.not_not.1 λP=>k ⟨n0,P⟩;by_cases kf:(a)<(h:Int)
    .obtain⟨D,a07⟩:=el a acq;have a08:=l7 a acq;have n1:=l8 a acq;have n2:=fa (a:=c) (b:=[]) (e:=a) acq;generalize a09:c.getD a []=b at*;refine aa ?_;refine bh (a5J z i D r b _ (by unfold ph;omega) acq l6 n1) ?_;refine aG (λc2=>?_) λc2=>?_
     .refine ic (λk3 f=>?_);refine dW (e.mono (κ η f)) (y.cells λ_ _=>υ) (λo p=>by rw[a8B]at p;subst p;rfl) acs acs λt k4 P=>?_;refine aa ?_;refine⟨(a+1,l++[.J (af b) D],t),⟨by simp only;omega,?_,?_,P⟩,⟨rfl,rfl⟩,by simp only;omega⟩;grind
      .simp only[n2];exact y.snoc ⟨_,rfl⟩
     .have o:=Z acq;refine ic (λk3 f=>?_);refine dW (e.mono (κ η f)) (y.cells λ_ _=>υ) (λo p=>by rw[a8B]at p;subst p;rfl) acs acs λt k4 P=>?_;have n3:dX 1 (.J E bH) (β (.v (.int .i64 (a)))) ε=β (.J (E.drop a) .any):=q0 acq (x.cells λ_ _=>υ);refine aa ?_;refine dW P (λo p=>by rcases a8u.1 p with k|k;exact y.cells (λ_ _=>υ) o k;rw[a8B]at k;subst k;rfl) ((x.drop a).cells λ_ _=>υ) acs acs λu n4 v=>?_;refine aa ?_;refine⟨(h+1,l++[.J (af r) i]++E.drop a,u),⟨ο j v.sub,by simp only;omega,_,rfl,?_,?_,?_⟩,⟨rfl,rfl⟩,by simp only;omega⟩;grind;grind
      .simp only[Q,aaa,V,a9e,aas,o];rw[abe];exact(y.snoc ⟨_,rfl⟩).append (x.drop a)
    .have o:=Z acq;refine aa ?_;refine ic (λk3 f=>?_);refine dW (e.mono (κ η f)) (y.cells λ_ _=>υ) (λo p=>by rw[a8B]at p;subst p;rfl) acs acs λt k4 P=>?_;have n3:dX 1 (.J E bH) (β (.v (.int .i64 (a)))) ε=β (.J (E.drop a) .any):=q0 acq (x.cells λ_ _=>υ);refine aa ?_;refine dW P (λo p=>by rcases a8u.1 p with k|k;exact y.cells (λ_ _=>υ) o k;rw[a8B]at k;subst k;rfl) ((x.drop a).cells λ_ _=>υ) acs acs λu n4 v=>?_;refine aa ?_;refine⟨(h+1,l++[.J (af r) i]++E.drop a,u),⟨ο j v.sub,by simp only;omega,_,rfl,?_,?_,?_⟩,⟨rfl,rfl⟩,by simp only;omega⟩;grind;grind
     .simp only[Q,aaa,V,a9e,aas,o];rw[abe];exact(y.snoc ⟨_,rfl⟩).append (x.drop a)
   .obtain rfl:h=α d:=acq;rw[a8F]at V;refine⟨ο l0 j,E,bH,by rw[sd,V];exact x,rfl⟩
def a5M{a:Nat->Bool}:(χ (e+1)).all a=(a 0&&(χ e).all λb=>a (b+1)):=by rw[abW,List.all_cons,acm];rfl
theorem I0(b:Υ):∀(c a:Nat),α b<c+a->lQ ⟨b.toArray⟩ c a=(χ (α b - a)).all λk=>o3 (a+k) (b.getD (a+k) 0)
 |0,a,o=>by
  rw[show α b - a=0 by omega];rfl
 |c+1,a,o=>by
  have p:(⟨b.toArray⟩:ByteArray).size=α b:=rfl;rw[lQ,p];by_cases d:a<α b
  .rw[if_pos d];obtain⟨h,hm⟩:∃h,α b - a=h+1:=⟨α b - a - 1,acq⟩;rw[hm,a5M,aab];have r:b.getD a 0=b[a]:=by simp[d]
   rw[r];by_cases cm:b[a].toNat<128
   .rw[G0 b a d cm]
    dsimp only
    rw[I0 b c (a+1) acq,show α b -(a+1)=h by omega];have x:fS a (b[a].toNat)=o3 a b[a]:=by unfold fS o3;grind
    grind
   grind[decode_high,fS,Utf8.decode,decide_eq_false,o3]
  simp_all
theorem I1(a:Υ):o4 a=ki a:=by unfold o4 ki;rw[I0 a (α a+1) 0 acq];grind
theorem a5N(a:e<α h5):lR h5 e=mQ h5 e:=by unfold lR mQ;rw[I1];congr 2;rw[aaG];simp only[a8A,a9C,a9M,decide_eq_false_iff_not];grind[hm,List.getElem_of_mem,List.length_take,List.getD,List.mem_iff_getElem]
theorem a5O(a:List Υ):(χ (α a)).all (lR a)=(χ (α a)).all (mQ a):=by rw[aaG];grind[List.all_eq_true,a5N]
theorem a5P(a:db):pf a=eU a:=by
 unfold pf eU zE o2;rw[I1,a5O];congr 1;by_cases b:a.kind.toNat=1
 .rw[if_pos b,if_pos b,Bool.and_assoc];grind
 rw[if_neg b,if_neg b];by_cases c:a.kind.toNat=2;simp_all;grind
def eE(c:Nat)(d h:U):Prop:=∀a b,a≠c->d a=β b->h a=β b
theorem eE.of{s:U}(a:s.sub f):eE e s f:=λb c _ d=>a b c d
theorem eE.trans(d:eE e f s)(h:eE e s e5):eE e f e5:=λa b c k=>h a b c (d a b c k)
theorem eE.set{a:Nat}{b c:U}{h:bt}(k:eE a b c):eE a b (c.set a h):=λo p d r=>by rw[ξ _ _ d];exact k o p d r
def fA(a:Ψ)(b:Nat)(d:R)(c:Nat):Ψ:=if c<=b then a.take c else(a.take b++d::a.drop b).take (c+1)
def a5Q(b:e<i)(a:g[e]?=β b6):fA g i n (e+1)=fA g i n e++[b6]:=by unfold fA;rw[if_pos acq,if_pos acq];obtain⟨c,rfl⟩:=a8p.1 a;simp
theorem a5R(a:g[e]?=β b6):fA g e n (e+1)=fA g e n e++[n]++[b6]:=by unfold fA;obtain⟨b,rfl⟩:=a8p.1 a;rw[if_neg acq,if_pos acq,a8G b];grind
theorem a5S(b:e<i)(a:g[i]?=β b6):fA g e n (i+1)=fA g e n i++[b6]:=by unfold fA;obtain⟨c,rfl⟩:=a8p.1 a;rw[if_neg acq,if_neg acq];have d:(g.take e++n::g.drop e).length=α g+1:=acs;rw[a9w (show i+1<(g.take e++n::g.drop e).length by omega)];congr 2;grind
def a5T(a:e<=α g):(if e<α g then fA g e n (α g) else fA g e n (α g)++[n])=g.take e++n::g.drop e:=by
 split
 .unfold fA;rw[if_neg acq,Ο acs]
 .obtain rfl:e=α g:=acq;unfold fA;rw[if_pos acq];simp
def a5U(a:aB (hq f) a8 g)(h:α n.cells=1):aW 1 (fA g e n i):=λc b=>by
 have d:=HO a;unfold fA at b;split at b
 .exact d c (a8v b)
 .have:=a8v b;rcases a8u.1 this with a|a
  .exact d c (a8v a)
  .rcases a8E.1 a with rfl|a
   .exact h
   .exact d c (a8O a)
theorem a5V:(fA g i n e).length<=e+1:=by unfold fA;grind
theorem a5W:∀a<jN a8 w,c7 w (a8.getD a default).name=false:=by
 unfold jN
 induction a8 with
 |nil=>intro a b;simp at b
 |cons d a8 ih=>
  intro a b;rw[a9G]at b;cases c:c7 w d.name with
  |true=>simp[c]at b
  |false=>
   simp only[c,a8U,if_true,a8m]at b;cases a with
   |zero=>trivial
   |succ a=>simp_all
def a5X:jN a8 w<=α a8:=(List.takeWhile_sublist _).length_le
theorem a5Y(a:jN a8 w<α a8):c7 w (a8.getD (jN a8 w) default).name=true:=by
 induction a8 with
 |nil=>simp at a
 |cons b a8 ih=>
  unfold jN at a|-;rw[a9G]at a|-;cases c:c7 w b.name with
  |true=>simp[c]
  |false=>simp_all [if_true,jN]
theorem a5Z(a:List ba)(b:Υ):(cw a b<α a->qI a b=(cw a b:Int))/\(α a<=cw a b->qI a b= -1):=by simp_all [qI,if_pos,if_neg]
def a6a(a:UInt8)(b:Int):jk BinOp.eql (ah a) (R.v (Value.int IntKind.u8 b))=β (.v (.bool (decide ((a.toNat:Int)=b)))):=by simp only[ah,sP];rfl
theorem a6b(a:g[e]?=β n)(b:e≠i):(g.take (e+1)).eraseIdx i=(g.take e).eraseIdx i++[n]:=by obtain⟨c,rfl⟩:=a8p.1 a;grind[List.take_succ_eq_append_getElem,Nat.lt_or_ge,List.eraseIdx_append_of_lt_length,List.length_take,List.eraseIdx_of_length_le]
theorem a6c:(g.take (e+1)).eraseIdx e=(g.take e).eraseIdx e:=by grind[List.eraseIdx_eq_take_drop_succ,List.drop_eq_nil_of_le,List.length_take,Nat.min_eq_left,Nat.min_self]
variable{b2:Type}
def aB.erase{b:b2->R->Prop}{c:List b2}(a:Nat)(d:aB b c g):aB b (c.eraseIdx a) (g.eraseIdx a):=by rw[aaj,aaj];exact(d.take a).append (d.drop (a+1))
def B7(a:f e=β (.cells [n]))(b:aB (hq f) a8 g):hK (f.set e (.cells [.J g M])) e a8:=
 ⟨g,M,μ _ _ _,b.mono λ_ _ c=>c.iA (iz.set a rfl)⟩
def I2(a:f e=β (.cells [bc w,.J (bB h5) M,.J [] .nil,.v (.pointer ε),.v (.pointer ε)])):hq f ⟨w,h5,[],.nil,ε⟩ (.ptr e 0):=⟨e,M,[],.nil,_,_,rfl,a,trivial,rfl,rfl⟩
theorem a6d(a:aB (hq f) a8 g):bT s 1 (.J g M)=β (α g,g):=by
 have p:∀b∈g,b.cells=[b]:=λb d=>by
  obtain⟨h,k,rfl⟩:=a8S d;have r:=a.len;obtain⟨o,c,x,_,_,_,_,_,rfl,_⟩:=a.get (Μ (show h<α a8 by omega));rw[Μ k]at c;rw[Β c];rfl
 have y:flat g=g:=by
  unfold flat;clear a
  induction g with
  |nil=>rfl
  |cons o g ih=>simp_all
 simp_all [bT,if_pos,a8A,decide_eq_true]
def kr(a:Nat)(p c:U)(r:List ba):Prop:=∃b d,aB (hq b) r d/\(∃x,b a=β (.cells [x]))/\eE a p b/\eE a b c/\
 ((∃y,c a=β (.cells [.J d y]))\/∃h k z o,b h=ε/\c a=β (.cells [.aq h k z 1])/\c h=β (.cells o)/\k<=α o/\eo 1 k o=d)
theorem kr.of{s:U}{ds:List ba}(a:hK f e ds)(c:eE e s f):kr e s f ds:=by obtain⟨d,h,b,k⟩:=a;exact⟨f,d,k,⟨_,b⟩,c,λ_ _ _ a=>a,.inl ⟨h,b⟩⟩
set_option maxHeartbeats 1000000 in
theorem a6e(M:U)(w a74:Nat)(k:List ba)(c:hK M w k)(a81:dK a74 k)(b53:a74<900)(x:df)(a83:x.d.Fit)(X:dm x.d.row):
  AC γ 29 [.ptr w 0,x.V] M λy n=>kr w M n (hJ k x.d).2/\y=.v (.int .i64 (hJ k x.d).1):=by
 have h:=(hJ.eq_1 k x.d).symm;generalize hJ k x.d=b16 at*;have Y:=λM=>a2t x a83 M;rw[a5P]at Y;have a84:=a81.dQ;obtain⟨E,a19,a86,a88⟩:=c;have a01:=a88.len;have a89:x.V=.agg [ah x.d.kind,bc x.d.table,.J (bB x.d.aE) x.gw,.J (af x.d.row) x.dy]:=rfl;rw[a89]at Y|-;clear a89;obtain⟨b54,b55,b56,b57⟩:=a83;generalize a27:x.d.kind=V at*;generalize b58:x.d.table=G at*;generalize b59:x.d.aE=l5 at*;generalize b60:x.d.row=z at*;refine aL hm Mf ?_;refine bp λa02 a29=>?_;have W:=κ (Z:=.cells [ah V,bc G,.J (bB l5) x.gw,.J (af z) x.dy]) (η (f:=M)) a29;have aD:=μ M a02 (.cells [ah V,bc G,.J (bB l5) x.gw,.J (af z) x.dy]);have b61:w≠a02:=by rintro rfl;rw[a86]at a29;cases a29
 generalize M.set a02 _=e at*;have F:=W _ _ a86;have S:aB (hq e) k E:=a88.mono λ_ _ c=>c.sub W;have a90:=a5C e w k ⟨E,a19,F,S⟩ G acq;have j:=ι aD;have eQ:=ι F;obtain⟨a92,b17⟩:=a5Z k G;have Z:hK e w k:=⟨E,a19,F,S⟩;cases cm:eU x.d with
 |false=>rw[cm]at Y;rw[if_pos cm]at h;refine bh (Y e) ?_;exact⟨_,η,kr.of (by rw[<-h];exact Z) (eE.of W),by rw[<-h]⟩
 |true=>
  rw[cm]at Y;rw[if_neg (by rw[cm];simp)]at h;refine bh (Y e) ?_;generalize qI k G=b18 at*;refine bh a90 ?_;clear Y a90;refine aG (λa94=>?_) λa94=>?_
  .have a03:V=1:=a9f.1 (by grind);rw[if_pos a03]at h;refine aG (λq=>?_) λq=>?_
   .rw[if_pos acq]at h;exact⟨_,η,kr.of (by rw[<-h];exact Z) (eE.of W),by rw[<-h]⟩
   rw[if_neg acq]at h;refine aG (λc2=>?_) λc2=>?_
   .rw[if_pos acq]at h;exact⟨_,η,kr.of (by rw[<-h];exact Z) (eE.of W),by rw[<-h]⟩
   rw[if_neg acq]at h;have b62:=a5X (a8:=k) (w:=G);have b19:=a5W (a8:=k) (w:=G);have b20:=a5Y (a8:=k) (w:=G);generalize jN k G=d at*;refine dD η (by simp[aW]) λb63 b64 a95=>?_;refine aa ?_;refine dW (g:=[]) a95 (λ_ c=>by cases c) pw (by rw[a8s,hn];omega) (by rw[a8s,hn];omega) λa30 a34 l6=>?_;rw[a8y]at l6|-;have j:=ι (l6.sub _ _ aD);refine aa ?_;refine aN λo N=>?_;have k3:(a34.set o (.cells (R.agg [bc G,.J (bB l5) a30,.J [] .nil,.v (.pointer ε),.v (.pointer ε)]).cells)) o=β (.cells [bc G,.J (bB l5) a30,.J [] .nil,.v (.pointer ε),.v (.pointer ε)]):=μ _ _ _;have k4:=ο l6.sub (κ (Z:=.cells (R.agg [bc G,.J (bB l5) a30,.J [] .nil,.v (.pointer ε),.v (.pointer ε)]).cells) (η (f:=a34)) N);have b65:w≠o:=by rintro rfl;rw[l6.sub _ _ F]at N;cases N
   refine aa ?_;have a96:fA E d (.ptr o 0) 0=[]:=by unfold fA;rw[if_pos (a8M _)];rfl
   have b21:decide (d<0)=false:=acr;generalize a34.set o _=b22 at*;clear a95 l6 N j;refine cd [0,3,8] (λp:Nat×Own=>[(6,.J (fA E d (.ptr o 0) p.1) p.2),(7,.v (.bool (decide (d<p.1)))),(9,.v (.int .i64 (p.1:Int)))]) (λp n=>p.1<=α k/\bf b22 n 1 (fA E d (.ptr o 0) p.1) p.2) (λp=>α k - p.1) (0,.nil) ⟨⟨a8M _,by rw[a96];exact Ν η⟩,aR⟩ ?_;rintro⟨a,bH⟩ l7 ⟨l8,r⟩ a97
   dsimp only at l8 r|-
   have a98:=a5V (g:=E) (i:=d) (e:=a) (n:=.ptr o 0);have k5:=a5U (e:=d) (i:=a) (n:=.ptr o 0) S rfl;have eQ:=ι (r.sub _ _ (k4 _ _ F));have b66:=ι (r.sub _ _ k3);clear a96 b21;refine aa ?_;refine aG (λaD=>?_) λaD=>?_
   .have l0:a<α k:=acq;have k6:k[a]?=β (k.getD a default):=by simp[List.getD,l0]
    obtain⟨_,l1,a36,l,a99,b00,a04,a05,rfl,s,_,_,_⟩:=S.get k6;have A:=ι (r.sub _ _ (k4 _ _ s));have b01:=(wa G (k.getD a default).name).1;rcases abz a d with B|B|B
    .have a38:=b19 a B;have P:=a5Q (n:=.ptr o 0) B l1;have b23:¬d<a:=acq;have l9:¬d<a+1:=acq;generalize fA E d (.ptr o 0) a=a06 at*;rw[a38]at b01;refine aa ?_;refine hx r k5 λ_ T L C _=>?_;exact⟨(a+1,T),⟨by simp only;omega,by simp only[P];exact C⟩,⟨by simp only[P],by simp[l9],rfl⟩,by simp only;omega⟩
    .subst B;have a38:=b20 l0;have P:=a5R (n:=.ptr o 0) l1;have b23:¬a<a:=acq;generalize fA E a (.ptr o 0) a=a06 at*;rw[a38]at b01;have l9:a<a+1:=acq;refine aa ?_;refine hx r k5 λ_ T L C _=>?_;have eQ:=ι (C.sub _ _ (k4 _ _ F));refine aa ?_;refine hx C (λD a42=>by rcases a8u.1 a42 with c|c;exact k5 D c;rw[a8B]at c;subst c;rfl) λ_ T g C _=>?_;exact⟨(a+1,T),⟨by simp only;omega,by simp only[P];exact C⟩,⟨by simp only[P],by simp[l9],rfl⟩,by simp only;omega⟩
    .have P:=a5S (n:=.ptr o 0) B l1;have l9:d<a+1:=acq;generalize fA E d (.ptr o 0) a=a06 at*;refine aa ?_;refine hx r k5 λ_ T L C _=>?_;exact⟨(a+1,T),⟨by simp only;omega,by simp only[P];exact C⟩,⟨by simp only[P],by simp[l9],rfl⟩,by simp only;omega⟩
   .obtain rfl:a=α k:=acq;have a43:=a5T (g:=E) (e:=d) (n:=.ptr o 0) acq;rw[a01]at a43;have b02:=τ (r.sub _ _ (k4 _ _ F));by_cases B:d<α k
    .rw[if_pos B]at a43;refine aa ?_;have f:=ο k4 r.sub;refine⟨_,η,kr.of ?_ (eE.of (ο W f)).set,by rw[<-h]⟩;rw[<-h];exact B7 (f _ _ F) (((S.mono λ_ _ c=>c.sub f).take d).append ⟨I2 (r.sub _ _ k3),(S.mono λ_ _ c=>c.sub f).drop d⟩)
    .rw[if_neg B]at a43;refine aa ?_;refine hx r k5 λ_ T L C _=>?_;have b02:=τ (C.sub _ _ (k4 _ _ F));refine aa ?_;have f:=ο k4 C.sub;refine⟨_,η,kr.of ?_ (eE.of (ο W f)).set,by rw[<-h]⟩;rw[<-h];exact B7 (f _ _ F) (((S.mono λ_ _ c=>c.sub f).take d).append ⟨I2 (C.sub _ _ k3),(S.mono λ_ _ c=>c.sub f).drop d⟩)
  .have a03:¬V=1:=λD=>a94 (by rw[D];rfl);rw[if_neg a03]at h;refine aG (λq=>?_) λq=>?_
   .have b24:α k<=cw k G:=by omega
    rw[if_pos b24]at h;exact⟨_,η,kr.of (by rw[<-h];exact Z) (eE.of W),by rw[<-h]⟩
   have l0:cw k G<α k:=by omega
   obtain rfl:=a92 l0;rw[if_neg acq]at h;clear a92 b17 q;have b25:=AX l0;generalize cw k G=d at*;refine aG (λb03=>?_) λb03=>?_
   .have a07:V=2:=a9f.1 (by grind);rw[if_pos a07]at h;have b26:([]:Ψ).eraseIdx d=[]:=List.eraseIdx_nil;refine cd [0,3,5] (λp:Nat×Own=>[(10,.J ((E.take p.1).eraseIdx d) p.2),(11,.v (.int .i64 (p.1:Int)))]) (λp n=>p.1<=α k/\bf e n 1 ((E.take p.1).eraseIdx d) p.2) (λp=>α k - p.1) (0,.nil) ⟨⟨a8M _,by grind[Ν,η]⟩,aR⟩ ?_;clear b26;rintro⟨a,bH⟩ l7 ⟨l8,r⟩ a97
    dsimp only at l8 r|-
    have a98:((E.take a).eraseIdx d).length<=a:=a8W (List.length_eraseIdx_le _ _) (by rw[a8l];omega);have k5:aW 1 ((E.take a).eraseIdx d):=λD a42=>HO S D (a8v (ab5 a42));have eQ:=ι (r.sub _ _ F);refine aa ?_;refine aG (λaD=>?_) λaD=>?_
    .have b27:a<α k:=acq;have k6:k[a]?=β (k.getD a default):=by simp[List.getD,b27]
     obtain⟨_,l1,a36,l,a99,b00,a04,a05,rfl,s,_,_,_⟩:=S.get k6;by_cases kf:a=d
     .subst kf;have P:=a6c (g:=E) (e:=a);generalize (E.take a).eraseIdx a=a06 at*;refine aa ?_;exact⟨(a+1,bH),⟨by simp only;omega,by simp only[P];exact r⟩,⟨by simp only[P],rfl⟩,by simp only;omega⟩
     .have P:=a6b (i:=d) l1 kf;generalize (E.take a).eraseIdx d=a06 at*;have b67:¬(a:Int)=(d:Int):=acq;refine aa ?_;refine hx r k5 λ_ T L C _=>?_;exact⟨(a+1,T),⟨by simp only;omega,by simp only[P];exact C⟩,⟨by simp only[P],rfl⟩,by simp only;omega⟩
    .obtain rfl:a=α k:=acq;rw[<-a01,a8F]at r|-;have b02:=τ (r.sub _ _ F);refine aa ?_;have f:=r.sub;refine⟨_,η,kr.of ?_ (eE.of (ο W f)).set,by rw[<-h]⟩;rw[<-h];exact B7 (f _ _ F) ((S.mono λ_ _ c=>c.sub f).erase d)
   .have a07:¬V=2:=λD=>b03 (by rw[D];rfl);rw[if_neg a07]at h;have b28:k[d]?=β (k.getD d default):=by simp[List.getD,l0]
    have t:=a81.ok _ b25;obtain⟨_,l1,a36,l,a99,b00,a04,a05,rfl,s,b04,a47,a48⟩:=S.get b28;have A:=ι s;have b68:=a47.cells;have eX:=a48.cells;have b69:=t.c;have b29:=λy c=>t.row (t:=y) c;have b70:=t.dQ;have b71:=b04.len;generalize b72:k.getD d default=b at*;have b73:=hn (h5:=b.aE);have b74:=bM (t:=z);refine aa ?_;refine aG (λq=>?_) λq=>?_
    .rw[if_pos acq]at h;exact⟨_,η,kr.of (by rw[<-h];exact Z) (eE.of W),by rw[<-h]⟩
    rw[if_neg acq]at h;have n0:α z=α b.aE+1:=acq;have fJ:=mT (t:=z) acq x.dy;rw[show z.getD 0 0=c5 z from rfl]at fJ;have b30:decide (z∈([]:List Τ))=false:=acr;refine cd [0,3,5,12] (λp:Nat×Ψ×Own=>[(13,.J p.2.1 p.2.2),(14,.v (.bool (decide (z∈b.rows.take p.1)))),(15,.v (.int .i64 (p.1:Int)))]) (λp n=>p.1<=α b.rows/\bf e n 1 p.2.1 p.2.2/\aB isRow ((b.rows.take p.1).filter λy=>decide (y≠z)) p.2.1/\(V=3->∀y∈b.rows.take p.1,c5 y≠c5 z)) (λp=>α b.rows - p.1) (0,[],.nil) ⟨⟨a8M _,Ν η,trivial,λ_ y c=>by cases c⟩,aR⟩ ?_;clear b30;rintro⟨a,O,bH⟩ l7 ⟨l8,r,i,a08⟩ a97
    dsimp only at l8 r i a08|-
    have A:=ι (r.sub _ _ s);have j:=ι (r.sub _ _ aD);have a98:α O<=a:=by rw[i.len];grind
    refine aa ?_;refine aG (λbl=>?_) λbl=>?_
    .have b05:a<α b.rows:=acq;have k6:b.rows[a]?=β (b.rows.getD a []):=by simp[List.getD,b05]
     obtain⟨_,P,a09,rfl⟩:=b04.get k6;have b75:=(b29 _ (a8r k6)).len;have n1:=fa (a:=b.rows) (b:=[]) (e:=a) b05;have b31:b.rows.getD a []∈b.rows:=a8r k6;generalize b.rows.getD a []=y at*;have b32:=mT (t:=y) acq a09;rw[show y.getD 0 0=c5 y from rfl]at b32;refine aa ?_;refine aG (λbx=>?_) λbx=>?_
     .refine aG (λb06=>?_) λb06=>?_
      .have n2:V=3:=a9f.1 (by grind);rw[if_neg (by rw[n2];decide),if_pos (abg.2 ⟨y,b31,decide_eq_true bx⟩)]at h;exact⟨_,η,kr.of (by rw[<-h];exact Z.sub r.sub) (eE.of (ο W r.sub)),by rw[<-h]⟩
      have b76:¬V=3:=λD=>b06 (by rw[D];rfl);refine bh (tL y z a09 x.dy _ acq) ?_;refine aG (λcb=>?_) λa10=>?_
      .subst cb;exact⟨(a+1,O,bH),⟨by simp only;omega,r,by simp_all,λc=>absurd c id⟩,⟨rfl,by simp[n1],rfl⟩,by simp only;omega⟩
      refine hx r (i.cells λ_ _=>υ) λ_ T L C _=>?_;refine⟨(a+1,O++[.J (af y) a09],T),⟨by simp only;omega,C,by simp only[n1,ab4];rw[abf,if_pos (by simpa using a10),abT];exact i.snoc ⟨_,rfl⟩,λn2 b07 a52=>?_⟩,⟨rfl,by grind,rfl⟩,by simp only;omega⟩;exact False.elim n2
     .have a10:y≠z:=λD=>bx (by rw[D]);refine hx r (i.cells λ_ _=>υ) λ_ T L C _=>?_;refine⟨(a+1,O++[.J (af y) a09],T),⟨by simp only;omega,C,by simp only[n1,ab4];rw[abf,if_pos (by simpa using a10),abT];exact i.snoc ⟨_,rfl⟩,λn2 b07 a52=>?_⟩,⟨rfl,by simp only[n1,a8u,a8B];congr 2;exact decide_eq_decide.2 ⟨.inl,λc=>c.resolve_right λD=>a10 D.symm⟩,rfl⟩,by simp only;omega⟩;rw[n1]at a52;rcases a8u.1 a52 with c|c
      .exact a08 n2 b07 c
      .obtain rfl:=a8B.1 c;exact bx
    .obtain rfl:a=α b.rows:=acq;rw[a8F]at i a08|-;refine aN λo N=>?_;have u:=Ι r.sub N;have k3:(l7.set o (.cells (R.agg [bc b.name,.J (bB b.aE) l,.J [] .nil,.v (.pointer ε),.v (.pointer ε)]).cells)) o=β (.cells [bc b.name,.J (bB b.aE) l,.J [] .nil,.v (.pointer ε),.v (.pointer ε)]):=μ _ _ _;have a56:=κ (Z:=.cells (R.agg [bc b.name,.J (bB b.aE) l,.J [] .nil,.v (.pointer ε),.v (.pointer ε)]).cells) (η (f:=l7)) N;have b77:a02≠o:=by rintro rfl;rw[aD]at u;cases u
     have b78:a36≠o:=by rintro rfl;rw[s]at u;cases u
     have b79:w≠o:=by rintro rfl;rw[F]at u;cases u
     refine aa ?_;have l2:=ο r.sub a56;have b33:=a56;generalize l7.set o _=b08 at*;clear N a56;have A:=ι (l2 _ _ s);have j:=ι (l2 _ _ aD);have b80:=a6a V 4;refine aa ?_;refine oX [0,3,5,12,16] (λ_:Unit=>[]) (λ_ n=>∃a11,b16=(0,k.set d a11)/\a11.name=b.name/\hq n a11 (.ptr o 0)/\e.sub n) (λq=>?_) (λq=>?_) ?_
     .have a13:V=4:=a9f.1 (by have c:=of_decide_eq_true q;have:(4:UInt8).toNat=4:=rfl;omega);rw[if_pos a13]at h;have aF:=τ k3;refine aa ?_;refine aG (λcb=>?_) λcb=>?_
      .rw[if_neg cb]at h;exact⟨_,η,kr.of (by rw[<-h];exact Z.sub l2) (eE.of (ο W l2)),by rw[<-h]⟩
      .have b34:=cb;rw[if_pos b34]at h;clear cb;generalize k7:b08.set o _=L;have a57:L o=β (.cells [bc b.name,.J (bB b.aE) l,.J O bH,.v (.pointer ε),.v (.pointer ε)]):=by subst k7;exact μ _ _ _
       have H:e.sub L:=by subst k7;exact κ l2 u
       clear k7 aF k3;refine ag (a2l (α b.aE+1) acq acq z x.dy n0 b.bq a04 L (a47.mono H) t.dw.fq.ok (by have:=t.dw.ch;omega)) ?_;rintro _ a14⟨m,k8,rfl,k9⟩;have n3:=m _ _ a57;have aF:=τ n3;have b35:=k9.cells;have A:=ι (m _ _ (H _ _ s));have j:=ι (m _ _ (H _ _ aD));refine aa ?_;generalize I:a14.set o _=g;have a61:g o=β (.cells [bc b.name,.J (bB b.aE) l,.J O bH,k8,.v (.pointer ε)]):=by subst I;exact μ _ _ _
       have n4:e.sub g:=by subst I;exact κ (ο H m) u
       have a62:dS g (lP (α b.aE+1) z b.bq).1 k8:=by subst I;exact k9.iA (n:=5) acv (iz.set n3 rfl)
       clear I aF A j;refine ag (a5x (e:=α b.aE+1) acq acq z x.dy ⟨n0,X⟩ b.bu a05 g (a48.gh (U.tg n4)) t.go) ?_;rintro _ l3⟨K,a63,b36,rfl,n5⟩;have v:=K _ _ a61;have aF:=τ v;have b37:=n5.cells;refine aa ?_;exact⟨(),b.del z,h.symm,rfl,⟨o,l,O,bH,k8,a63,rfl,μ _ _ _,i,(a62.mono K).iA (n:=5) acv (iz.set v rfl),n5.iA (n:=5) acv (iz.set v rfl)⟩,ο n4 K⟩
     .have a13:¬V=4:=λD=>(of_decide_eq_false q) (by rw[D];rfl);rw[if_neg a13]at h;have b38:V=3:=by have:=B3 cm (by rw[a27];exact a03) (by rw[a27];exact a07);rw[a27]at this;exact this.resolve_right a13
      have b09:=a08 b38;rw[if_neg (λc=>by
       obtain⟨y,X,D⟩:=abg.1 c;exact b09 y X (of_decide_eq_true D))]at h
      have b39:b.rows.filter (λy=>decide (y≠z))=b.rows:=abq.2 λy X=>decide_eq_true λD=>b09 y X (by rw[D]);rw[b39]at i;have b81:=i.len;refine aa ?_;refine dD η (by simp[aW]) λT L C=>?_;have j:=ι (C.sub _ _ (l2 _ _ aD));refine aa ?_;refine dW (g:=[]) C (λ_ c=>by cases c) (by simp[aW,af,ρ]) (by simp[bM];omega) (by simp[bM];omega) λb10 a14 m=>?_;rw[a8y];refine aa ?_;refine dD η (by simp[aW,ρ]) λb82 g a84=>?_;refine aa ?_;have b11:b08.sub g:=ο m.sub a84.sub;refine th (r.mono (ο b33 b11)) (i.cells λ_ _=>υ) (by simp[aW,ρ]) acs acs λb40 l3 K b41=>?_;have v:=b41 _ _ (b11 _ _ k3);have b42:aB isRow (b.rows++[z]) (O++[.J (af z) b10]):=i.snoc ⟨b10,rfl⟩;have b43:∀y∈b.rows++[z],bU (α b.aE+1) y:=λy c=>by
       rcases a8u.1 c with c|c
       .exact t.row c
       .obtain rfl:=a8B.1 c;exact⟨n0,X⟩
      refine aa ?_;refine ag (a5L (b.rows++[z]) _ b40 .nil (α b.aE+1) l3 b42 b43 acq acq acs) ?_;rintro _ a65⟨b12,a68,a69,b44,rfl⟩;have b13:=b12 _ _ v;have aF:=τ b13;have a71:e.sub a65:=ο K.sub b12;have A:=ι (a71 _ _ s);have j:=ι (a71 _ _ aD);refine aa ?_;generalize k7:a65.set o _=L;have a57:L o=β (.cells [bc b.name,.J (bB b.aE) l,.J a68 a69,.v (.pointer ε),.v (.pointer ε)]):=by subst k7;exact μ _ _ _
      have H:e.sub L:=by subst k7;exact κ a71 u
      clear k7 aF A j v b13;refine ag (zy (α b.aE+1) acq acq z x.dy n0 b.bq a04 0 L L (a47.mono H) η t.dw.fq.ok (by have:=t.dw.ch;omega)) ?_;rintro _ a14⟨m,k8,rfl,k9⟩;have k9:=k9.mono rQ;have n3:=m _ _ a57;have aF:=τ n3;have b35:=k9.cells;have A:=ι (m _ _ (H _ _ s));have j:=ι (m _ _ (H _ _ aD));refine aa ?_;generalize I:a14.set o _=g;have a61:g o=β (.cells [bc b.name,.J (bB b.aE) l,.J a68 a69,k8,.v (.pointer ε)]):=by subst I;exact μ _ _ _
      have n4:e.sub g:=by subst I;exact κ (ο H m) u
      have a62:dS g (da (α b.aE+1) z b.bq 0).1 k8:=by subst I;exact k9.iA (n:=5) acv (iz.set n3 rfl)
      clear I aF A j;refine ag (a1Y (e:=α b.aE+1) acq acq z x.dy ⟨n0,X⟩ b.bu a05 g (a48.gh (U.tg n4)) t.go) ?_;rintro _ l3⟨K,a63,b36,rfl,n5⟩;have v:=K _ _ a61;have aF:=τ v;have b37:=n5.cells;refine aa ?_;exact⟨(),b.put z,h.symm,rfl,⟨o,l,a68,a69,k8,a63,rfl,μ _ _ _,b44,(a62.mono K).iA (n:=5) acv (iz.set v rfl),n5.iA (n:=5) acv (iz.set v rfl)⟩,ο n4 K⟩
     .rintro _ l3⟨a11,b83,b84,b45,l4⟩b85;have eQ:=ι (l4 _ _ F);refine aa ?_;rw[nC];refine aa ?_;have b46:=a6d (s:=l3) (M:=a19) S;refine eZ (av.zero η) acq b46 acq acs acs λb18 a65 a15=>?_;rw[a8y]at a15;obtain⟨Q,n9,a00,a16,rfl,a18,b47,b48,b14,hm,b86,_⟩:=a15.aq (λD=>by rw[D]at a01;simp at a01;omega);rw[a8Y]at b48 b14 hm;have b87:cO 1 (.aq Q n9 a00 1) (.v (.int .i64 (d:Int)))=β (.ptr Q d):=by have:=jj (b:=1) (c:=Q) (d:=n9) (h:=a00) (k:=.i64) (a:=(d:Int)) acq acq;simpa using this
      have b88:=τ b47;have b49:=a15.1 _ _ (l4 _ _ F);have b50:w≠Q:=by rintro rfl;rw[l4 _ _ F]at a18;cases a18
      have b89:=τ b49;have b90:(R.aq Q n9 a00 1).cells=[.aq Q n9 a00 1]:=rfl;have b91:d+1<=α a16:=acq;refine aa ?_;have b15:putAt a16 d [R.ptr o 0]=a16.set d (.ptr o 0):=by rw[a9t,if_pos acq];unfold putAt;rw[a8w];rfl
      refine⟨_,η,l3,E.set d (.ptr o 0),aB.set d (S.mono λ_ _ c=>c.sub l4) b45,⟨_,l4 _ _ F⟩,eE.of (ο W l4),λb51 b92 b52 a73=>?_,.inr ⟨Q,n9,a00,putAt a16 d [.ptr o 0],a18,μ _ _ _,?_,?_,?_⟩⟩
      .have:b51≠Q:=by rintro rfl;rw[a18]at a73;cases a73
       rw[ξ _ _ b52,ξ _ _ this];exact a15.1 _ _ a73
      .rw[ξ _ _ b50.symm,μ]
      .rw[b15,aaI];omega
      .rw[b15,jX,List.take_set,b14]
def a6f(p:U)(a r:Nat)(d:List ba)(b:hK p a d)(j:dK r d)(l:r<900)(c:df)(m:c.d.Fit)(n:dm c.d.row):
  AC γ 29 [.ptr a 0,c.V] p λP h=>hK h a (hJ d c.d).2/\eE a p h/\P=.v (.int .i64 (hJ d c.d).1):=
 (a6e p a r d b j l c m n).view λP h b=>by
  obtain⟨⟨x,S,T,⟨v,V⟩,W,y,z⟩,rfl⟩:=b;have e:∀C,eE a x C->iz 1 x C:=λC D k E o q=>D k _ (by rintro rfl;rw[V]at o;obtain rfl:=bt.cells.inj (Β o);exact q rfl) o;rcases z with⟨F,z⟩|⟨k,s,w,E,G,t,o,hm,D⟩
  .exact⟨_,h,View.refl,⟨S,F,z,T.mono λ_ _ b=>b.iA (e _ y)⟩,W.trans y,rfl⟩
  .have u:a≠k:=by rintro rfl;rw[V]at G;cases G
   have f:eE a x ((h.set k (.ro E)).set a (.cells ([]++ .J (eo 1 s E) .any::[]))):=λg F i L=>by
    have:g≠k:=by rintro rfl;rw[G]at L;cases L
    rw[ξ _ _ i,ξ _ _ this];exact y g F i L
   exact⟨_,_,View.obj (B:=[]) t o acq u,⟨S,.any,by rw[μ,D];rfl,T.mono λ_ _ b=>b.iA (e _ f)⟩,W.trans f,rfl⟩
variable{a7:aC}{A j9:au}
def jK.le(d:e<=8)(b:jK e a7 A)(c:a7.size<=1048576):A.hA/\α A.sum=32/\A.cE:=by have a:=b.kU c;have h:=a.p0;have k:=a.p1;have o:=a.p2;exact⟨⟨acq,acq,acq,a.nP,a.live,a.nQ,a.size⟩,b.sum,⟨acq,acq,acq⟩⟩
theorem B8{s:Nat}(e:1<=s)(r:s<=8):∀(i:aC)(x:R)(c:U),dS c i x->i.c9 s->i.size<=1048576->AC γ 92 [x] c λd t=>c.sub t/\∃y h z,d=.agg (ab (bn i) y h z)
 |.nil,x,c,u,_,_=>by
  obtain rfl:x=.v (.pointer ε):=u;have eX:=ja aw .nil .nil .nil bm;have v:putAt (ab aw .nil .nil .nil) 0 (ab aw .nil .nil .nil)=ab aw .nil .nil .nil:=cF bm bm;refine aL hm CG ?_;refine bp λk C=>?_;rw[cr];exact⟨.nil,.nil,.nil,by rw[(aT bm).t37];rfl⟩
 |.node d o a b,x,c,u,D,M=>by
  obtain⟨N,l1,l2,l3,rfl,p,j,l⟩:=u;have l4:=M;simp only[Ζ]at l4;have l5:=B8 e r a l2;have l6:=B8 e r b l3;have w:=(eM e r D.a acq).le r acq;have cf:=(eM e r D.b acq).le r acq;have O:=eM e r D M;have a02:=O.size;have a03:=j.cells;have eX:=l.cells;have m:=ι p;have l7:∀E:U,c.sub E->AC γ 160 [.ptr N 0] E λl8 t=>E.sub t/\∃F G f g,l8=gO (cg (d,o) (bn a) (bn b)) (.J F f) (.J G g)/\aB cZ [(d,o)] F/\aB bC [bn a,bn b] G:=by
   intro E A;have p:=A _ _ p;have j:=j.mono A;have l:=l.mono A;have m:=ι p;refine aL hm PE ?_;refine bp λk C=>?_;have a04:N≠k:=by rintro rfl;rw[p]at C;cases C
   have L:=κ (Z:=.cells [.v (.int .u8 0),.J [] .nil,.J [] .nil]) (η) C;have l9:=μ E k (.cells [.v (.int .u8 0),.J [] .nil,.J [] .nil]);generalize E.set k _=n0 at*;have m:=ι (L _ _ p);refine aa ?_;refine(sJ (dD η (by simp[aW,ρ]) λ_ _ _=>trivial)).mpr ?_;refine aa ?_;refine ag (l5 n0 (j.mono L) D.a acq) ?_;rintro _ Q⟨P,S,T,V,rfl⟩;have n:=ο L P;have m:=ι (n _ _ p);have n1:=(ja (bn a) S T V w.2.1).1;refine aa ?_;refine(sJ (dD η (by simp[aW,ρ]) λ_ _ _=>trivial)).mpr ?_;refine aa ?_;refine ag (l6 Q (l.mono n) D.b acq) ?_;rintro _ a05⟨X,cu,cp,B,rfl⟩;have Y:=ο n X;have n2:=(ja (bn b) cu cp B cf.2.1).1;have m:=ι (Y _ _ p);refine aa ?_;have Z:aW 37 [R.agg (ab (bn a) S T V),.agg (ab (bn b) cu cp B)]:=λq k3=>by
    simp only[a8E,a9n,or_false]at k3;rcases k3 with rfl|rfl
    .exact n1
    .exact n2
   refine(sJ (dD η Z λ_ _ _=>trivial)).mpr ?_;refine aa ?_;refine dD η (by simp[aW,ρ]) λh k4 W=>?_;refine aa ?_;refine dD η Z λn3 a06 k5=>?_;have a07:=τ (k5.sub _ _ (W.sub _ _ (X _ _ (P _ _ l9))));refine aa ?_;exact⟨ο Y (ο W.sub k5.sub),_,_,h,n3,rfl,⟨⟨l1,rfl⟩,trivial⟩,⟨w.2.1,w.2.2,S,T,V,rfl⟩,⟨cf.2.1,cf.2.2,cu,cp,B,rfl⟩,trivial⟩
  have k6:=λF G f g c H I=>HS (cg (d,o) (bn a) (bn b)) F G f g c H I (by simp[cg]) (by simp[cg]) (λx n4=>by
   obtain rfl:x=(d,o):=by simpa[cg] using n4
   have:=D.r.len;dsimp only;omega) (λk7 n5=>by
   have:k7=bn a\/k7=bn b:=by simpa[cg] using n5
   grind) (by show(bn (.node d o a b)).size<= _;omega) (λq=>by cases q) (λq=>by cases q)
  have n9:dF (cg (d,o) (bn a) (bn b))=bn (.node d o a b):=rfl;rw[n9]at k6;have k8:=O.sum;generalize bn (.node d o a b)=K at*;have k9:=λy h z=>ja K y h z k8;have v:∀y h z,putAt (ab aw .nil .nil .nil) 0 (ab K y h z)=ab K y h z:=λy h z=>cF bm k8;have a08:=ja aw .nil .nil .nil bm;refine aL hm CG ?_;refine bp λk C=>?_;rw[cr];have L:=κ (Z:=.cells (ab aw .nil .nil .nil)) (η) C;refine ag (l7 _ L) ?_;rintro _ k4⟨W,F,G,f,g,rfl,H,I⟩;refine aa ?_;refine ag (k6 F G f g k4 H I) ?_;rintro _ Q⟨P,S,T,V,rfl⟩;have a09:=τ (P _ _ (W _ _ (μ c k (.cells (ab aw .nil .nil .nil)))));refine aa ?_;have n:=ο L (ο W P);have aD:=P _ _ (W _ _ (μ c k (.cells (ab aw .nil .nil .nil))));refine aN λa00 l0=>?_;have a01:k≠a00:=by rintro rfl;rw[aD]at l0;cases l0
  have a10:=a01.symm;have v:=v S T V;have k9:=k9 S T V;refine aa ?_;grind
theorem a6g(Q:e<=8)(c:a6.T 0)(D:R)(d:U)(l:bA d 0 c D)(m:dI e 0 c):
  AC γ 159 [D] d λx h=>d.sub h/\∃E F y n,x=gO (dH 0 c) (.J E y) (.J F n)/\aB cZ (dH 0 c).rows E/\aB bC (dH 0 c).kids F:=by
 obtain⟨b,rfl⟩:=a6.ik c;obtain⟨X,q,Y,Z,rfl,G,p⟩:=l;have p:aB isRow b q:=p;obtain⟨s,t,_⟩:=m.wf;rw[a6.il]at s t;have k3:=p.len;have k4:=ι G;refine aL hm CN ?_;refine bp λz u=>?_;refine dk λL v w k5=>?_;have P:=μ d z (.cells [.v (.int .u8 0),.J [] .nil,.J [] .nil]);have S:=κ (Z:=.cells [.v (.int .u8 0),.J [] .nil,.J [] .nil]) (η) u;have C:(d.set z (.cells [.v (.int .u8 0),.J [] .nil,.J [] .nil])) L=none:=by rw[ξ _ _ w];exact v
 generalize d.set z _=A at*;have B:=S _ _ G;refine cd [0,2,3] (λa:Nat=>[(4,.v (.int .i64 (a)))]) (λa h=>a<=α b/\∃ak r,h L=β (.cells [.v (.int .u8 2),.J ak r,.J [] .nil])/\bf A h 2 ak r/\aB cZ ((b.take a).map λx=>(x,ζ)) ak) (λa=>α b - a) 0 ⟨⟨a8M _,[],.nil,μ _ _ _,Ν (κ (κ η C) C),trivial⟩,aR⟩ ?_;rintro a H⟨k6,ak,r,T,k,o⟩I;have k7:=ι (k.sub _ _ B);have k8:=ι T;have V:=o.len;rw[a8o,a8l]at V;refine aa ?_;refine aG (λW=>?_) λW=>?_
 .have f:a<α b:=acq;have K:b[a]?=β (b.getD a []):=by simp_all
  obtain⟨_,k9,y,rfl⟩:=p.get K;have M:=fa (a:=b) (b:=[]) f;generalize b.getD a []=l0 at*;refine aa ?_;refine dD η (by simp[aW,ρ]) λl1 l2 g=>?_;refine aa ?_;refine th (k.mono g.sub) (o.cells λ_ _=>cZ.cells) (by simp[aW,ρ]) acs acs λl3 l4 N O=>?_;have i:=O _ _ (g.sub _ _ T);have aF:=τ i;refine aa ?_;refine⟨a+1,⟨f,_,_,rfl,qH N C i,?_⟩,rfl,acq⟩;rw[M,a9i];exact o.snoc ⟨y,rfl⟩
 .obtain rfl:a=α b:=acq;rw[a8F]at o;have l5:=ο S k.sub;have j:=τ (k.sub _ _ P);clear W V j;refine cd [0,2,3] (λ_:Unit=>[(5,.v (.int .i64 0))]) (λ_ h=>h=H) (λ_=>0) () ⟨rfl,aR⟩ ?_;rintro _ _ rfl I;have j:=τ (k.sub _ _ P);refine aa ?_;exact⟨ak,[],r,.nil,rfl,o,trivial⟩
def jv.le(d:e<=8)(b:jv e i A)(c:i<=1048576):A.hA/\α A.sum=32/\A.cE:=by have a:=b.kU c;have h:=a.p0;have k:=a.p1;have o:=a.p2;exact⟨⟨acq,acq,acq,a.nP,a.live,a.nQ,a.size⟩,b.sum,⟨acq,acq,acq⟩⟩
def a6h(K:1<=i)(l:i<=8)(c:a6.T (e+1))(r:R)(b:U)(M:bA b (e+1) c r)(F:dI i (e+1) c)
  (ih:∀(c:a6.T e)(r:R)(b:U),bA b e c r->dI i e c->AC γ 91 [r] b λG d=>b.sub d/\∃N m O,G=.agg (ab (bQ e c) N m O)):
  AC γ 159 [r] b λG d=>b.sub d/\∃n z Q X,G=gO (dH (e+1) c) (.J n Q) (.J z X)/\aB cZ (dH (e+1) c).rows n/\aB bC (dH (e+1) c).kids z:=by
 obtain⟨h,rfl⟩:=a6.gr c;obtain⟨Y,z,n1,m,rfl,q,C,n2,_⟩:=M;have C:aB (bA b e) h z:=C;have Z:=F.gv;obtain⟨k3,k4,_⟩:=F.wf;rw[a6.dR]at k3 k4;have n3:=F.dQ;have n4:=C.len;have n5:=ι q;refine aL hm CN ?_;refine bp λL k5=>?_;refine dk λk k6 k7 n9=>?_;have k8:=μ b L (.cells [.v (.int .u8 0),.J [] .nil,.J [] .nil]);have P:=κ (Z:=.cells [.v (.int .u8 0),.J [] .nil,.J [] .nil]) (η) k5;have o:(b.set L (.cells [.v (.int .u8 0),.J [] .nil,.J [] .nil])) k=none:=by rw[ξ _ _ k7];exact k6
 generalize b.set L _=s at*;have D:=P _ _ q;have a00:Y≠k:=by rintro rfl;rw[D]at o;cases o
 refine cd [0,2,3] (λ_:Unit=>[(4,.v (.int .i64 0))]) (λ_ d=>d=(s.set k (.cells [.v (.int .u8 0),.J [] .nil,.J [] .nil])).set k (.cells [.v (.int .u8 2),.J [] .nil,.J [] .nil])) (λ_=>0) () ⟨rfl,aR⟩ ?_;rintro _ _ rfl k9;have a01:=ι D;refine aa ?_;refine cd [0,2,3] (λa:Nat=>[(5,.v (.int .i64 (a)))]) (λa d=>a<=α h/\∃ak p,d k=β (.cells [.v (.int .u8 (if a=0 then 2 else 3)),.J [] .nil,.J ak p])/\bf s d 37 ak p/\aB bC ((h.take a).map (bQ e)) ak) (λa=>α h - a) 0 ⟨⟨a8M _,[],.nil,μ _ _ _,Ν (κ (κ η o) o),trivial⟩,aR⟩ ?_;rintro a t⟨a02,ak,p,E,x,y⟩k9;have a03:=ι (x.sub _ _ D);have l0:=ι E;have l1:=τ E;have l2:=y.len;rw[a8o,a8l]at l2;refine aa ?_;refine aG (λl3=>?_) λl3=>?_
 .have S:a<α h:=acq;have u:=Μ S;obtain⟨a04,a05,v⟩:=C.get u;obtain⟨T,_⟩:=Z _ (a8r u);have l4:=T.dQ;have l5:=a9w S;have V:=(o1 K l T).le l l4;generalize h[a]=W at*;obtain⟨aS,a06,a07,rfl,_⟩:=bA.ptr v;refine aa ?_;have f:=qH (Z:=.cells [.v (.int .u8 3),.J [] .nil,.J ak p]) x o E;have l6:=μ t k (.cells [.v (.int .u8 3),.J [] .nil,.J ak p]);clear x E l0 l1;generalize t.set k _=l7 at*;refine ag (ih W _ l7 (v.mono (ο P f.sub)) T) ?_;rintro _ a08⟨g,cu,cp,j,rfl⟩;have w:=g _ _ l6;have a09:=ι w;have a10:=ι (g _ _ (f.sub _ _ D));have l8:=(ja (bQ e W) cu cp j V.2.1).1;have A:aW 37 [R.agg (ab (bQ e W) cu cp j)]:=λa11 B=>by rw[a8B]at B;subst B;exact l8
  refine aa ?_;refine dD η A λa13 a14 H=>?_;refine aa ?_;refine th ((f.mono g).mono H.sub) (y.cells λ_ _=>Κ) A acs acs λa15 a16 l9 n0=>?_;have I:=n0 _ _ (H.sub _ _ w);have aF:=τ I;refine aa ?_;refine⟨a+1,⟨S,_,_,rfl,qH l9 o I,?_⟩,rfl,acq⟩;rw[l5,a9i];exact y.snoc ⟨V.2.1,V.2.2,cu,cp,j,rfl⟩
 .obtain rfl:a=α h:=acq;rw[a8F]at y;have a18:¬α h=0:=acq;have a19:=τ (x.sub _ _ k8);refine aa ?_;exact⟨ο P x.sub,[],ak,.nil,p,rfl,trivial,y⟩
theorem I3(B:1<=i)(H:i<=8)(a:a6.T e)(D:R)(b:U)(I:bA b e a D)(E:dI i e a)
  (K:∀x,b.sub x->AC γ 159 [D] x λy G=>x.sub G/\∃p r z C,y=gO (dH e a) (.J p z) (.J r C)/\aB cZ (dH e a).rows p/\aB bC (dH e a).kids r):
  AC γ 91 [D] b λy x=>b.sub x/\∃h k o,y=.agg (ab (bQ e a) h k o):=by
 have L:=(o0 B H e a E).1;obtain⟨P,M,F⟩:=lG L.zp.ok;have l:=L.kU;have k6:=E.dQ;have k7:=l.size;have m:=λp r z C b S T=>HS (dH e a) p r z C b S T M F (λN O=>by have:=P N O;omega) (λQ X=>by
  have c:=L.zp.kids Q X;have D:=c.p0;have Y:=c.p1;have k8:=c.p2;exact⟨⟨acq,acq,acq,c.nP,c.live,c.nQ,c.size⟩,c.sum,⟨acq,acq,acq⟩⟩) (by show(dF (dH e a)).size<= _;omega) (λd=>by
  match e,a,d with
  |0,a,_=>obtain⟨n,rfl⟩:=a6.ik a;have:=E.wf.1;rw[a6.il]at this;intro Z;have k3:(dH 0 (a6.leaf n)).rows=n.map λy=>(y,ζ):=rfl;simp_all
  |e+1,a,d=>exact absurd d AT) (λd=>by
  match e,a,d with
  |0,a,d=>rw[GD]at d;cases d
  |e+1,a,_=>obtain⟨q,rfl⟩:=a6.gr a;have:=E.wf.1;rw[a6.dR]at this;intro Z;have k3:(dH (e+1) (a6.node q)).kids=q.map (bQ e):=rfl;simp_all)
 have V:=l.sum;rw[<-tO]at V m;obtain⟨Y,k9,l0,rfl,l1⟩:=bA.ptr I;generalize bQ e a=W at*;have s:=λh k o=>ja W h k o V;have t:∀h k o,putAt (ab aw .nil .nil .nil) 0 (ab W h k o)=ab W h k o:=λh k o=>cF bm V;have l2:=ja aw .nil .nil .nil bm;refine aL hm ND ?_;refine bp λf P=>?_;rw[cr];have u:=κ (Z:=.cells (ab aw .nil .nil .nil)) (η) P;refine ag (K _ u) ?_;rintro _ G⟨g,p,r,z,C,rfl,S,T⟩;refine aa ?_;refine ag (m p r z C G S T) ?_;rintro _ l3⟨j,v,w,A,rfl⟩;have l4:=τ (j _ _ (g _ _ (μ b f (.cells (ab aw .nil .nil .nil)))));refine aa ?_;have l5:=ο u (ο g j);have aD:=j _ _ (g _ _ (μ b f (.cells (ab aw .nil .nil .nil))));refine aN λk4 F=>?_;have k5:f≠k4:=by rintro rfl;rw[aD]at F;cases F
 have l6:=k5.symm;have t:=t v w A;have s:=s v w A;refine aa ?_;grind
def B9{x:Nat}(r:1<=x)(h:x<=8):∀(d:Nat)(a:a6.T d)(b:R)(c:U),bA c d a b->dI x d a->AC γ 91 [b] c λz k=>c.sub k/\∃C D E,z=.agg (ab (bQ d a) C D E)
 |0,a,b,c,o,p=>I3 r h a b c o p λk y=>a6g h a b k (o.mono y) p
 |d+1,a,b,c,o,p=>I3 r h a b c o p λk y=>a6h r h a b k (o.mono y) p λa b c=>B9 r h d a b c
def hL:aC->List Υ->List Υ
 |.nil,a=>a
 |.node d live b c,a=>hL c (hL b (eK a (bn (.node d live b c)).sum))
def wI:∀(T:aC)(a:List Υ),(hL T a).length<=α a+T.size
 |.nil,a=>by simp[hL,Ζ]
 |.node d live b c,a=>by
  rw[hL,Ζ];have h:=wI c (hL b (eK a (bn (.node d live b c)).sum));have k:=wI b (eK a (bn (.node d live b c)).sum);have o:=qz (h5:=a) (w:=(bn (.node d live b c)).sum);omega
def ud{c:Nat}(d:1<=c)(a:c<=8):∀(T:aC)(b:List Υ),T.c9 c->T.size<=1048576->(∀h∈b,α h=32)->∀h∈hL T b,α h=32
 |.nil,b,_,_,k=>k
 |.node z live r x,b,o,p,k=>by
  rw[hL];have y:=(eM d a o p).le a acq;rw[Ζ]at p;exact ud d a x _ o.b acq (ud d a r _ o.a acq (s6 k y.2.1))
def Ba{E:Nat}(k:1<=E)(d:E<=8):∀(T:aC)(o p:R)(b r:U)(a:List Υ),dS b T o->kZ b r a p->(∀F∈a,α F=32)->T.c9 E->T.size<=1048576->α a+T.size<=1000000000->
  AC γ 40 [p,o] r λh g=>kZ b g (hL T a) h
 |.nil,o,p,b,r,a,z,C,_,_,_,_=>by
  obtain rfl:o=.v (.pointer ε):=z;refine aL hm CB ?_;exact⟨_,η,C⟩
 |.node h D c x,o,p,b,r,a,z,C,S,y,G,i=>by
  have j:=z;obtain⟨l,X,F,m,rfl,V,n,q⟩:=z;have L:=(eM k d y G).le d acq;have s:=G;rw[Ζ]at s i;have t:=Ba k d c F;have u:=Ba k d x m;have Y:=qz (h5:=a) (w:=(bn (.node h D c x)).sum);have W:=s6 S L.2.1;have v:=ud k d c _ y.a acq W;have Z:=wI c (eK a (bn (.node h D c x)).sum);have w:=B8 k d (.node h D c x) (.ptr l 0) r (j.mono C.1) y G;rw[hL];generalize bn (.node h D c x)=P at*;refine aL hm CB ?_;refine ag w ?_;rintro _ A⟨B,H,I,K,rfl⟩;have k3:=(aT (M:=H) (e7:=I) (j0:=K) L.2.1).all;have k4:R.agg (P.sum.map ah)=bo P.sum:=rfl;refine aa ?_;refine ag (A5 b A a p (C.mono B) S P.sum L.2.1 acq) ?_;rintro M N e;have k5:=ι (e.1 _ _ V);refine aa ?_;refine ag (t M b N _ n e W y.a acq acq) ?_;rintro a3 O f;have k6:=ι (f.1 _ _ V);refine aa ?_;refine ag (u a3 b O _ q f v y.b acq acq) ?_;rintro a4 k7 Q;refine aa ?_;exact⟨_,η,Q⟩
def iB:(b:Nat)->a6.T b->List Υ->List Υ
 |0,c,a=>eK a (bQ 0 c).sum
 |b+1,c,a=>(a6.kids c).foldl (λa d=>iB b d a) (eK a (bQ (b+1) c).sum)
def jO:(a:Nat)->a6.T a->Nat
 |0,_=>1
 |a+1,b=>1+((a6.kids b).map (jO a)).sum
def I4{d:Type}{h:List Υ->d->List Υ}{k:d->Nat}:∀(c:List d)(a:List Υ),(∀b∈c,∀a,(h a b).length<=α a+k b)->(c.foldl h a).length<=α a+(c.map k).sum
 |[],a,_=>by simp
 |b::c,a,o=>by
  have r:=o b acr a;have x:=I4 c (h a b) λb p=>o b (by simp[p]);rw[a9e,a8C,a9D];omega
def Bb:∀(b:Nat)(c:a6.T b)(a:List Υ),(iB b c a).length<=α a+jO b c
 |0,c,a=>qz
 |b+1,c,a=>by
  rw[iB,jO];have h:=I4 (h:=λa d=>iB b d a) (k:=jO b) (a6.kids c) (eK a (bQ (b+1) c).sum) λd _ a=>Bb b d a;have k:=qz (h5:=a) (w:=(bQ (b+1) c).sum);omega
end Go.Proofs.YtkafjfkjahgihaaGreat
