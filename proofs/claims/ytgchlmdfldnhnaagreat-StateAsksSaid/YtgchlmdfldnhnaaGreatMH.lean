import Derived.Test.YtgchlmdfldnhnaaGreatMG
import Derived.Test.YtgchlmdfldnhnaaGreatMF
import Derived.Test.YtgchlmdfldnhnaaGreatMD
import Derived.Test.YtgchlmdfldnhnaaGreatME
import Derived.Test.YtgchlmdfldnhnaaGreatMC
set_option linter.all false
open Option renaming some->γ,none->η
open Go.Proofs.Tryz renaming prog->δ
open Bool renaming true->ζ,false->κ
open List renaming replicate->θ,range->ψ,length_append->Ζ,take_of_length_le->Λ,length->β
open Go.bw.U renaming a1->ι,ad->μ,ae->ν,ah->ξ,al->ο,ao->π,set_set->υ,aO->ω,bH->Ν
open Go.Proofs.YtgchlmdfldnhnaaGreat.isRow renaming cells->ρ
open BitVec renaming ofInt->ς
open Go.bw.R renaming cells->τ
open Prod renaming fst->Α
open Go.Proofs.YtgchlmdfldnhnaaGreat.af renaming le_refl->Ε
open Go.Proofs.YtgchlmdfldnhnaaGreat.bA renaming cells->Ξ
open Go.Proofs.YtgchlmdfldnhnaaGreat.aF renaming size->Ο
set_option maxRecDepth 100000
namespace Go.Proofs.YtgchlmdfldnhnaaGreat
open Go Go.bw
def w4(d:af)(f:List aT)(h:ϊ)(k:List Ω)(b:R):Prop:=match f.find? (λa=>decide (a.name=h))with
 |none=>b=.aJ [.J [] .nil,.v (.int .i64 3)]
 |some a=>match ey d (β a.aH+1) (a.bK.size.toNat+1) a.bK with
  |none=>b=.aJ [.J [] .nil,.v (.int .i64 21)]
  |some _=>∃c,b=.aJ [.J c .any,.v (.int .i64 0)]/\aw isRow k c
def a3G(c:U)(C G L:Nat)(f:af)(d:List aT)(P:dj c C G L f d)(l:cN d=ζ)(h:ϊ)(p:List Ω)
  (m:∀a k,d.find? (λa=>decide (a.name=h))=γ a->ey f (β a.aH+1) (a.bK.size.toNat+1) a.bK=γ k->p.Perm k/\p.Pairwise λn q=>¬gh q n<0):
  AC δ 16 [.ptr C 0,bm h] c λD E=>c.sub E/\w4 f d h p D:=by
 obtain⟨s,Y⟩:=qs l;obtain⟨t,u,S,v⟩:=P.x;have Z:=μ S;have k2:=gG.all.1;have V:∀a T,eJ a T->putAt fS 0 T=T:=λa T o=>(oo o).2.2.1;have k3:=V _ _ gG;have W:=mm;have b:=find_spec d t u h v ε c;unfold Found at b;unfold w4;generalize fS=k4 at*;refine aM hm ME ?_;refine ak b ?_;clear b;rintro D k5⟨rfl,b⟩;cases r:d.find? (λa=>decide (a.name=h))with
 |none=>rw[r]at b;obtain rfl:=b;refine aa ?_;refine aR λe x=>?_;rw[W];exact aK
 |some a=>
  rw[r]at b;obtain⟨T,y,rfl⟩:=b;obtain⟨k6,k7,k8,k9,w,A,B,l0,l1,l2,l3,l4,l5⟩:=y.all;have l6:=V _ _ y;have H:=λc=>rZ a T y c;have hm:=w3 r;have g:=s a hm;have l7:=g.c;have l8:=g.k.size;refine aa ?_;refine aR λe x=>?_;rw[W];have I:C≠e:=by rintro rfl;rw[S]at x;cases x
  have l9:=I.symm;have F:=ν (b0:=.cells T) (ι) x;have K:=P.sub F;obtain⟨M,N⟩:=y.k;have O:=λE o=>a3b E G L f o a.bK w A B M N ε (β a.aH+1) ε ε p (λk o=>m a k r o);refine aa ?_;refine aP (H _) ?_;refine ak (O _ K.hg) ?_;rintro D n0⟨i,z⟩
  dsimp only
  cases j:ey f (β a.aH+1) (a.bK.size.toNat+1) a.bK with
  |none=>rw[j]at z;obtain rfl:=z;refine aa ?_;exact π F i
  |some k=>rw[j]at z;obtain⟨Q,rfl,X⟩:=z;refine aa ?_;exact⟨π F i,Q,rfl,X⟩
structure w5(b:af)(d:Nat)(az aE:Ω)(a:aj)(rows:List Ω):Prop where
 one:β rows<=1
 sound:∀q∈rows,og b d az aE a q
 full:rows=[]->dE az aE a=ζ->∀q,¬og b d az aE a q
def w6(a:af)(b:Nat)(c d:Ω)(f:aj):Prop:=∃h,ng a b c d f h/\dE c d f=ζ/\di a b h=η
structure Ar where
 rows:List Ω
 us:ύ
 L:R
 bF:List aj
 es:ύ
 ib:R
structure w7(b:af)(d:Nat)(az aE:Ω)(a:aj)(A:iD)(B:U)(c:Nat)(x:Ar)(f:U):Prop where
 at_:dY A B f c x.us x.L x.es x.ib
 ou:aw isRow x.rows x.us
 rd:∀q∈x.rows,β q=d
 As:β x.rows<=1
 jh:aw nd x.bF x.es
 rb:∀q∈x.rows,og b d az aE a q
 or:∀k∈x.bF,ng b d az aE a k/\dE az aE a=ζ/\1<=cm k
 co:x.rows=[]->dE az aE a=ζ->∀q,og b d az aE a q->∃k∈x.bF,og b d az aE k q
 nS:(x.bF.map cm).sum<=2097152
variable{A j6:aj}{n b5:Ω}{e i t I b3 e5:Nat}{c0:bO}{H:af}
def ng.snoc{a:aj}(c:ng H e n b5 j6 a)(b:di H e a=γ c0)(d:A∈c0.kids)(f:dE n b5 A=ζ):ng H e n b5 j6 A:=by
 induction c with
 |refl o=>exact .step b d f (.refl _)
 |step h1 h k _ ih=>exact .step h1 h k (ih b)
theorem Au:∀ {ks:List aj},(∀a∈ks,1<=cm a)->β ks<=(ks.map cm).sum
 |[],_=>Χ _
 |a::ks,b=>by
  have:=Au (ks:=ks) λa c=>b a (by simp[c]);grind
def w7.len{c:af}{d:Nat}{f h:Ω}{k:aj}{o:iD}{p:U}{r:Nat}{b:Ar}{x:U}(a:w7 c d f h k o p r b x):β b.es<=2097152:=by rw[a.jh.len];exact a8w (Au λy z=>(a.or y z).2.2) a.nS
theorem a3H(Z:U)(k8 b04:Nat)(m:af)(b54:bz Z k8 b04 m)(C:aj)(n5 n9 a00:Own)(b05:β C.sum=32)(b55:C.cL)(o r:Ω)(a01 a02 a03:Own)(E:Nat)(t:cV o r E=ζ)(c31:C.size<=1048576)(b06:dE o r C=ζ->1<=C.size):
  AC δ 21 [.ptr k8 0,.agg (ag C n5 n9 a00),.agg (pf o r a01 a02 a03),.v (.int .i64 (E:Int))] Z λa42 D=>Z.sub D/\
   ((w6 m E o r C/\∃c e,a42=.aJ [.agg [c,e],.v (.int .i64 0),.v (.int .i64 21)])\/
   ∃rows I x u v,w5 m E o r C rows/\aq Z D 1 I x/\aw isRow rows I/\(∀f∈rows,β f=E)/\a42=.aJ [.agg [x,.v (.int .i64 u)],.v (.int .i64 v),.v (.int .i64 0)]):=by
 obtain⟨b07,c32,b08,a43⟩:=kl t;have b56:=(aV (a7:=n5) (h5:=n9) (j1:=a00) b05).all;refine aM hm xC ?_;refine bg λa47 c33=>?_;refine cy λb09 c34 c35 c36=>?_;refine gz λa04 a48 c37 c2 aD aL=>?_;generalize k9:((Z.set a47 _).set b09 _).set a04 _=g;have a05:Z.sub g:=by subst k9;exact aK
 have aZ:g a47=γ (.cells (ag C n5 n9 a00)):=by subst k9;exact aK
 have bt:g b09=γ (.cells (pf o r a01 a02 a03)):=by subst k9;exact aK
 have bl:g a04=γ (.cells [.J [] .nil,.v (.int .i64 0)]):=by subst k9;exact aK
 clear k9;have b57:=b54.mono a05;refine aP (a2H o r _ _ _ E ε g) ?_;rw[t];have b58:=μ aZ;have b59:=μ bt;refine aa ?_;refine aR λd k2=>?_;have b10:a47≠d:=by rintro rfl;rw[k2]at aZ;cases aZ
 have b60:=b10.symm;have b61:a04≠d:=by rintro rfl;rw[k2]at bl;cases bl
 have c38:=b61.symm;refine aa ?_
 let a:iD:=⟨k8,o,r,a01,a02,a03,E⟩;have b11:dY a g (g.set d (.cells (mj k8 o r a01 a02 a03 E (.J [] .nil) 0 0 0 (.J [] .nil)))) d [] (.J [] .nil) [] (.J [] .nil):=
  ⟨k2,⟨0,0,0,ξ _ _ _⟩,aq.nil (ν ι k2),⟨ν ι k2,(λ_ b=>by cases b),.inl ⟨rfl,.inl rfl⟩⟩,(λb=>by cases b),(λb=>by cases b),λ_ b=>by cases b⟩
 refine ak (GV a g _ d [] _ [] _ b11 C n5 n9 a00 b05 b55 (by show β o<=8;omega) σ) ?_;rintro _ b62⟨b63,b64,a52,k3⟩;have a06:∃b12,w7 m E o r C a g d ⟨[],[],.J [] .nil,b12,b64,b63⟩ b62:=by
  have c39:cm C<=2097152:=by unfold cm;omega
  split at k3
  .rename_i w;obtain⟨b65,a56,rfl⟩:=k3;exact⟨[C],a52,trivial,(λ_ b=>by cases b),a7Y _,⟨a56,trivial⟩,(λ_ b=>by cases b),(λy a57=>by
    obtain rfl:=a7H.1 a57;have:=b06 w;exact⟨.refl _,w,by unfold cm;omega⟩),(λ_ _ f p=>⟨C,σ,p⟩),by trivial⟩
  .rename_i w;subst k3;exact⟨[],a52,trivial,(λ_ b=>by cases b),a7Y _,trivial,(λ_ b=>by cases b),(λ_ b=>by cases b),(λ_ b=>absurd b w),a7Y _⟩
 obtain⟨b12,a06⟩:=a06;refine aa ?_;refine ck [0,3,8,11] (λ_:Ar=>[]) (λc D=>w7 m E o r C a g d c D) (λc=>(c.bF.map cm).sum) _ ⟨a06,aK⟩ ?_;clear a06 a52 k3 b11 b58 b59 b10 b60 aZ bt b56 k2;rintro⟨rows,I,x,b13,a61,c40⟩ D k c41;have i:=k.at_
 dsimp only at i
 have c42:=i;obtain⟨u,v,l0,b14⟩:=i.x;obtain⟨c43,c44⟩:=i.w.len;have dV:=μ b14;refine aa ?_;refine ay (λa07=>?_) λa07=>?_;rotate_left;have a62:=k.jh.len
 .have c45:=a07;have b15:a61=[]:=a7y ε;have b66:b13=[]:=a7y (by rw[b15]at a62;exact a62.symm);subst b15;subst b66;have b67:=ω (i.l.1 _ _ bl);have c46:=eG i.l;refine aa ?_;refine⟨_,ι,ν (π a05 i.l.1) a48,.inr ⟨rows,I,x,u,v,⟨k.As,k.rb,λS A f p=>?_⟩,aq.other (i.l.base a05) a48 (λF=>?_),k.ou,k.rd,rfl⟩⟩
  .obtain⟨y,a57,_⟩:=k.co S A f p;cases a57
  .have:=aq.fresh i.l F;rw[bl]at this;cases this
 have a62:=k.jh.len;have b68:a61≠[]:=by grind
 obtain⟨b16,b17,post,b18,b19,c47,b20⟩:=i.sort b68;obtain⟨c48,b21⟩:=jO.of (s:=D) (l:=b16) (j:=b17) (B:=post) (b7:=a61) (b9:=45) (ds:=[]) abY λa08 a63 a65 t=>by
  obtain⟨y,_,S⟩:=k.jh.mem a63;obtain⟨B,_,A⟩:=k.jh.mem t;obtain⟨a07,b69⟩:=GM S A;exact⟨a07,λa68 _=>b69 _⟩
 rw[b18];clear dV b18;refine ak (zL GK GG GB GD Gz Gx ε rfl b19 (a8w k.len ε) b21 λF K=>?_) ?_
 .obtain⟨y,_,S,_,G,L,P,c,e,id,b70,rfl⟩:=k.jh.mem K;obtain⟨M,N,_⟩:=rR (a7:=G) (h5:=L) (j1:=P) (e:=c) (i:=e) (id:=id) (N:=b70) S;exact⟨M,by rw[ft,aX,if_pos rfl,N]⟩
 rintro _ _⟨a68,k4,rfl⟩;have l1:=b20 a68 k4;obtain⟨b71,l2,b72⟩:=k.jh.perm k4
 match a68,b71,b72,k4,l2,l1 with
 |[],_,_,k4,_,_=>exact absurd k4.length_eq (by simp_all)
 |F::k5,y::O,⟨b73,b22⟩,k4,l2,l1=>
 obtain⟨u,v,l0,a69⟩:=l1.x;obtain⟨z,c49,c50,a71,c51,c52,b74,b23⟩:=l1.tail;generalize W D b16 b17 post (F::k5)=a09 at*;have dV:=μ a69;have a73:=ω a69;clear b20 b21 b19 b14;obtain⟨l3,b75,G,L,P,b76,b77,b78,b79,rfl⟩:=b73;have b24:=(rR (a7:=G) (h5:=L) (j1:=P) (e:=b76) (i:=b77) (id:=b78) (N:=b79) l3).2.2.1;rw[ft,b24]at b23;have c53:=(aV (a7:=G) (h5:=L) (j1:=P) l3).all;have b25:=kv (a7:=G) (h5:=L) (j1:=P) l3;refine aa ?_;refine aR λk6 a74=>?_;have b26:d≠k6:=by rintro rfl;rw[a69]at a74;cases a74
 have b27:=b26.symm;refine aa ?_;have a81:(a09.set d (.cells (mj a.eK a.az a.aE a.ff a.dK a.fe a.d x u v l0 z))) k6=none:=(ο _ _ b27).trans a74;have b28:=(a71 u v l0).fresh a81;have b29:=(a71 u v l0).mono (ν (b0:=.cells (ag y G L P)) ι a81);rw[U.er a09 b26]at b29;have ha:((a09.set k6 (.cells (ag y G L P))).set d (.cells (mj a.eK a.az a.aE a.ff a.dK a.fe a.d x u v l0 z))) k6=γ (.cells (ag y G L P)):=(ο _ _ b27).trans (ξ _ _ _);generalize (a09.set k6 (.cells (ag y G L P))).set d _=a83 at*;clear a81 a71 b74 b23 b24 a73 dV l1 b25;obtain⟨b80,l4⟩:=b29.wide;have b81:res (fr d x z) a83 k6=γ (.cells (ag y G L P)):=by
  rw[lx];exact ha;rintro(b|b|b)
  .omega
  .exact b28.l b
  .exact b28.w b
 generalize res (fr d x z) a83=b82 at*;have c54:(b13.map cm).sum=cm y+(O.map cm).sum:=by rw[<-(l2.map cm).sum_nat];simp
 have Q:=λB j=>k.or B (l2.mem_iff.1 j);have b83:=k.nS
 dsimp only at b83
 refine ak (a2O a b82 a83 d I rows x k5 z b80 k.ou k.rd a43 b07 y G L P l3) ?_;rintro _ b30⟨n,a65,rfl,b84⟩;have b85:=μ (n.l.1 _ _ b81);refine aa ?_;refine ay (λt=>?_) λt=>?_
 .have b06:=b84 t;refine⟨⟨rows,I,x,O,k5,z⟩,⟨n.base l4,k.ou,k.rd,k.As,b22,k.rb,λB j=>Q B (by simp[j]),λb=>?_,?_⟩,?_⟩;simp_all
  .show(O.map cm).sum<= _;omega
  grind
 have b31:=(b57.mono l4).mono n.l.1;refine ak (vj b30 k8 b04 m b31 y G L P l3 (λ_=>b75) E b08 a43) ?_;rintro a42 X⟨a84,a10⟩;cases H:di m E y with
 |none=>
  rw[H]at a10;obtain rfl:=a10;have b32:=a84 _ _ (n.l.1 _ _ (l4 _ _ bl));refine aa ?_;refine aR λl q=>?_;have b86:a04≠l:=by rintro rfl;rw[b32]at q;cases q
  have c55:=b86.symm;have b67:=ω b32;refine aa ?_;have b33:=π a05 (π l4 (π n.l.1 a84));refine⟨_,ι,ν (ν b33 (Ν b33 q)) a48,.inl ⟨⟨y,(Q y σ).1,(Q y σ).2.1,H⟩,_,_,rfl⟩⟩
 |some h=>
  rw[H]at a10;obtain⟨c,e,rfl,c56,c57,c58,k7,l5,a11,a86,_,_⟩:=a10;have a13:=n.mono a84;obtain⟨l6,Y,l7,a14⟩:=a13.x;have c59:=eG k7;have c60:=eG l5;refine aa ?_;refine aR λl q=>?_;have b34:d≠l:=by rintro rfl;rw[a14]at q;cases q
  have b35:=b34.symm;have dV:=μ a14;have a73:=ω a14;have a63:bj .add (.int .i64 Y) (.int .i64 1)=γ (.int .i64 (IntKind.i64.wrap (Y+1))):=rfl;have b36:=bL.dq k7 ε rfl (a11.cells λ_ _=>dR.cells);have b87:=b36.len;rw[a11.len]at b87;have a88:(X.set d (.cells (mj a.eK a.az a.aE a.ff a.dK a.fe a.d x l6 (IntKind.i64.wrap (Y+1)) l7 z))) l=none:=(ο _ _ b35).trans q;have a89:=(a13.set l6 (IntKind.i64.wrap (Y+1)) l7).mono (ν (b0:=.cells [.v (.int .u8 (h.kind.toNat)),c,e]) ι a88);rw[U.er X b34]at a89;refine aa ?_;have jw:((X.set l (.cells [.v (.int .u8 (h.kind.toNat)),c,e])).set d (.cells (mj a.eK a.az a.aE a.ff a.dK a.fe a.d x l6 (IntKind.i64.wrap (Y+1)) l7 z))) l=γ (.cells [.v (.int .u8 (h.kind.toNat)),c,e]):=(ο _ _ b35).trans (ξ _ _ _);have b37:=(a13.set l6 (IntKind.i64.wrap (Y+1)) l7).fresh a88;have b88:∀f a15,X f=γ a15->¬fr d x z f->((X.set l (.cells [.v (.int .u8 (h.kind.toNat)),c,e])).set d (.cells (mj a.eK a.az a.aE a.ff a.dK a.fe a.d x l6 (IntKind.i64.wrap (Y+1)) l7 z))) f=γ a15:=λf a15 p hm=>by
   have G:f≠d:=λF=>hm (.inl F);have L:f≠l:=by rintro rfl;rw[q]at p;cases p
   rw[ο _ _ G,ο _ _ L];exact p
  generalize (X.set l (.cells [.v (.int .u8 (h.kind.toNat)),c,e])).set d _=a90 at*;have a92:∀ {a08:R}{f:Nat},c5 a08=γ f->b30 f=η->¬fr d x z f:=λt p hm=>by
   rcases hm with rfl|F|F
   .obtain⟨_,_,_,b⟩:=n.x;rw[p]at b;cases b
   .exact aq.has n.l F p
   .exact n.w.has F p
  have a94:(res (fr d x z) X).sub (res (fr d x z) a90):=λf a15 p=>by
   grind[hm,fr,nf,lx]
  have b89:=(bL.dq (aq.res k7 λl8 T=>a92 T (aq.fresh k7 T)) ε rfl (a11.cells λ_ _=>dR.cells)).mono (π (zT l5.1) a94);have b38:=(bL.dq (aq.res l5 λl8 T=>a92 T (Ν k7.1 (aq.fresh l5 T))) ε rfl (a86.cells λ_ _=>Ξ)).mono a94;obtain⟨b90,b91⟩:=a89.wide;have b92:res (fr d x z) a90 l=γ (.cells [.v (.int .u8 (h.kind.toNat:Int)),c,e]):=by
   rw[lx];exact jw;rintro(b|b|b)
   .trivial
   .exact b37.l b
   .exact b37.w b
  generalize res (fr d x z) a90=l9 at*;have b93:=π l4 b91;clear b88 a92 a94 b36 k7 l5 dV a73 a14 a13 a89 jw a63 q a88 b31 b85;have b39:=(o6 H).ok;obtain⟨b94,_,_⟩:=iR b39;refine ck [0,3,8,11,13,79,80] (λc:Nat×(List Ω)×ύ×R=>[(81,.v (.int .i64 (c.1)))]) (λc D=>c.1<=β h.rows/\dY a l9 D d c.2.2.1 c.2.2.2 k5 z/\aw isRow c.2.1 c.2.2.1/\(∀f∈c.2.1,β f=E)/\β c.2.1<=1/\(∀f∈c.2.1,og m E o r C f)/\(c.2.1=[]->rows=[]/\∀f,(f,ζ)∈h.rows.take c.1->ed o r f=κ)) (λc=>β h.rows - c.1) (0,rows,I,x) ⟨⟨a7Y _,b90,k.ou,k.rd,k.As,k.rb,λb=>⟨b,λf p=>by simp at p⟩⟩,aK⟩ ?_;rintro⟨V,b40,a16,a18⟩ b95 ⟨b96,n0,a95,n2,a19,a27,a29⟩ c61
  dsimp only at b96 n0 a95 n2 a19 a27 a29
  refine aa ?_;refine ay (λc2=>?_) λc2=>?_
  .have a96:V<β h.rows:=ε;obtain⟨_,K,a97,rfl⟩:=a11.get (i:=V) (x:=h.rows.getD V ([],κ)) (by simp_all);obtain⟨l8,b97,T⟩:=b89.get V _ K;have b41:∀D,l9.sub D->cO ζ 2 D l8=γ (.agg [.J (ab (h.rows.getD V ([],κ)).1) a97,.v (.bool (h.rows.getD V ([],κ)).2)]):=λD b=>T.ld D b ζ 2 ε (by simp[ft]);have b98:=b41 b95 n0.l.1;have hm:h.rows.getD V ([],κ)∈h.rows:=by simp_all
   have F:=fX (b:=([],κ)) a96;generalize h.rows.getD V ([],κ)=b99 at*;obtain⟨a30,a98⟩:=b99
   dsimp only at b98 F hm
   have b42:=b94 _ hm;clear b41 T K;refine aa ?_;refine aR λc62 c00=>?_;have c01:=n0.mono (ν (b0:=.cells [.J (ab a30) a97,.v (.bool a98)]) ι c00);refine aa ?_;refine ak (a2N a l9 _ d a16 b40 a18 k5 z c01 a95 n2 b08 a43 b07 a19 a30 a98 a97 b42) ?_;rintro _ c63⟨b43,c02,b44,b45,b46,a99⟩;refine aa ?_;have c03:a98=ζ->ed o r a30=ζ->og m E o r C a30:=λS A=>by subst S;exact⟨y,h,(Q y σ).1,H,hm,A⟩
   split at a99
   .rename_i a34;rw[Κ]at a34;obtain⟨f,rfl,p⟩:=a99;refine⟨(V+1,[f],b43,b44),⟨a96,b45,b46,λc04 b=>?_,σ,λc04 b=>?_,λb=>by cases b⟩,rfl,ε⟩
    all_goals
     obtain rfl:=a7H.1 b;rcases p with rfl|p
    .exact b42
    .exact n2 _ p
    .exact c03 a34.1 a34.2
    .exact a27 _ p
   .rename_i a34;subst a99;refine⟨(V+1,c02,b43,b44),⟨a96,b45,b46,n2,a19,a27,λb=>⟨(a29 b).1,λf p=>?_⟩⟩,rfl,ε⟩;grind
  obtain rfl:V=β h.rows:=ε;rw[a8c]at a29;have c64:=μ (n0.l.1 _ _ b92);have c05:=b38.len;rw[a86.len]at c05;refine aa ?_;refine ck [0,3,8,11,90,91] (λc:Nat×ύ×R=>[(92,.v (.int .i64 (c.1)))]) (λc D=>c.1<=β h.kids/\dY a l9 D d a16 a18 c.2.1 c.2.2/\aw nd (O++(h.kids.take c.1).filter (dE o r)) c.2.1) (λc=>β h.kids - c.1) (0,k5,z) ⟨⟨a7Y _,n0,by simpa using b22⟩,aK⟩ ?_;rintro⟨s,b00,b47⟩ b48 ⟨c06,a36,n3⟩ c65
  dsimp only at c06 a36 n3
  refine aa ?_;refine ay (λaD=>?_) λaD=>?_
  .have b49:s<β h.kids:=ε;obtain⟨_,K,b01,c07,M,N,n4,rfl⟩:=a86.get (i:=s) (x:=h.kids.getD s aG) (by simp_all);obtain⟨l8,b97,T⟩:=b38.get s _ K;have c08:=(aV (a7:=M) (h5:=N) (j1:=n4) b01).all;have c66:cO ζ 37 b48 l8=γ (.agg (ag (h.kids.getD s aG) M N n4)):=by have:=T.ld b48 a36.l.1 ζ 37 ε (by rw[ft];omega);rw[this,aX,if_pos rfl,ft,c08.2.1]
   have F:=fX (b:=aG) b49;have b25:=kv (a7:=M) (h5:=N) (j1:=n4) b01;generalize h.kids.getD s aG=b02 at*;have c09:β b00<=100000000:=by have S:=n3.len;rw[Ρ]at S;have A:=Au (ks:=O) λB j=>(Q B (by simp[j])).2.2;grind
   clear T K;refine aa ?_;refine aR λc67 c19=>?_;have c20:=a36.mono (ν (b0:=.cells (ag b02 M N n4)) ι c19);refine aa ?_;refine ak (GV a l9 _ d a16 a18 b00 b47 c20 b02 M N n4 b01 c07 (by show β o<=8;omega) c09) ?_;rintro _ c68⟨c21,b50,k3,b51⟩;refine aa ?_;refine⟨(s+1,b50,c21),⟨b49,k3,?_⟩,rfl,ε⟩;show aw nd (O++(h.kids.take (s+1)).filter (dE o r)) b50;rw[F,a8S,<-a7P];split at b51
   .rename_i w;obtain⟨b65,a56,rfl⟩:=b51;have w:dE o r b02=true:=w;rw[a9y w];exact n3.snoc a56
   grind
  .obtain rfl:s=β h.kids:=ε;rw[a8c]at n3;obtain⟨c69,c70⟩:=GW (n:=o) (b5:=r) H;have c22:=qn b39;refine⟨⟨b40,a16,a18,O++h.kids.filter (dE o r),b00,b47⟩,⟨a36.base b93,a95,n2,a19,n3,a27,λB j=>?_,λS A f p=>?_,?_⟩,?_⟩
   .rcases Ψ.1 j with j|j
    .simp_all
    .obtain⟨a38,b03⟩:=a9b.1 j;obtain⟨_,a08,a65⟩:=kx (c22 B a38);have:=a08 (a65 (vQ b03));exact⟨(Q y σ).1.snoc H a38 b03,(Q y σ).2.1,by unfold cm;omega⟩
   .obtain⟨a38,b03⟩:=a29 S;obtain⟨c71,b52,c23⟩:=k.co a38 A f p;rcases a7S.1 (l2.mem_iff.2 b52)with rfl|b52
    .obtain⟨c72,c73,c24,c25,c26,c27⟩:=c23;cases c24 with
     |refl=>simp_all
     |step b53 c28 c29 c30=>rw[H]at b53;obtain rfl:=Δ b53;exact⟨_,a9G _ (a9b.2 ⟨c28,c29⟩),_,_,c30,c25,c26,c27⟩
    grind
   grind;grind
def tZ(d:af)(f:List aT)(h:ϊ)(id:Int)(b:R):Prop:=match f.find? (λa=>decide (a.name=h))with
 |none=>b=.aJ [.J [] .nil,.v (.bool κ),.v (.int .i64 3)]
 |some a=>
  (w6 d (β a.aH+1) (id::θ (β a.aH) jc) (id::θ (β a.aH) jM) a.bK/\b=.aJ [.J [] .nil,.v (.bool κ),.v (.int .i64 21)])\/
  ∃rows,w5 d (β a.aH+1) (id::θ (β a.aH) jc) (id::θ (β a.aH) jM) a.bK rows/\(∀c∈rows,β c=β a.aH+1)/\
   ((rows=[]/\b=.aJ [.J [] .nil,.v (.bool κ),.v (.int .i64 0)])\/∃c k o,rows=c::k/\b=.aJ [.J (ab c) o,.v (.bool ζ),.v (.int .i64 0)])
variable{e7:List aT}{h8:aT}
theorem a3I(a:cN e7=ζ)(b:h8∈e7):fl (β h8.aH+1) h8.bK=true:=by simp only[cN,Κ,a7L,a8B,decide_eq_true_eq]at a;obtain⟨c,d,rfl⟩:=a8e b;simp_all [gm]
theorem Hp(id:Int)(a:e<=7):cV (id::θ e jc) (id::θ e jM) (e+1)=true:=by have hm:jc<=jM:=Μ;simp only[cV,a7I,a9s,Κ,decide_eq_true_eq,a7L,a8B];grind
theorem Hq(r:U)(x n k2:Nat)(q:af)(D:List aT)(s:dj r x n k2 q D)(k3:cN D=ζ)(V:ϊ)(id:Int):
  AC δ 8 [.ptr x 0,bm V,.v (.int .i64 id)] r λt a06=>r.sub a06/\tZ q D V id t:=by
 obtain⟨a07,a92⟩:=qs k3;obtain⟨a08,a09,E,a10⟩:=s.x;have a94:=μ E;have a95:=gG.all.1;have u:∀a T,eJ a T->putAt fS 0 T=T:=λa T v=>(oo v).2.2.1;have a11:=u _ _ gG;have w:=mm;have h:=find_spec D a08 a09 V a10 ε r;unfold Found at h;unfold tZ;generalize fS=a96 at*;refine aM hm Mn ?_;refine ak h ?_;clear h;rintro t k4⟨rfl,h⟩;cases A:D.find? (λa=>decide (a.name=V))with
 |none=>rw[A]at h;obtain rfl:=h;refine aa ?_;refine aR λa97 a98=>?_;rw[w];exact aK
 |some a=>
  rw[A]at h;obtain⟨T,W,rfl⟩:=h;obtain⟨a99,b00,b01,b02,k5,k6,k7,k8,a13,a14,b03,b04,b05⟩:=W.all;have b06:=u _ _ W;have k9:=λr=>rZ a T W r;have hm:=w3 A;have l0:=a07 a hm;have a15:=l0.c;have a16:=l0.k.size;obtain⟨a18,a19⟩:=W.k;clear u a11;refine aa ?_;refine aR λy B=>?_;rw[w];clear w;have a27:x≠y:=by rintro rfl;rw[E]at B;cases B
  have b07:=a27.symm;have z:=ν (b0:=.cells T) (ι) B;have dz:=ξ k4 y (.cells T);refine aa ?_;refine aP (k9 _) ?_;generalize k4.set y _=H at*;refine ak (a2y (β a.aH+1) ε ε H) ?_;rintro _ l1⟨b08,b09,rfl,b10,e,g⟩;have l2:(ab (θ (β a.aH+1) jc)).length=β a.aH+1:=by rw[bn,a9s]
  have l3:(ab (θ (β a.aH+1) jM)).length=β a.aH+1:=by rw[bn,a9s]
  obtain⟨aY,d,F,k,rfl,G,l4,a29,I,l5,b11,_⟩:=e.ar (λK=>by rw[K]at l2;simp at l2);obtain⟨b,c,C,o,rfl,M,l6,a30,N,l7,b12,_⟩:=g.ar (λK=>by rw[K]at l3;simp at l3);rw[a8m]at a29 I l5 a30 N l7;have l8:=g.1 _ _ l4;have l9:aY≠b:=by rintro rfl;rw[l4]at M;cases M
  have a34:=l9.symm;have i:=π e.1 g.1;have n0:=i _ _ dz;have eI:=i _ _ (z _ _ E);have b13:=(s.sub z).sub i;have L:=Ν e.1 M;have b14:y≠aY:=by rintro rfl;rw[dz]at G;cases G
  have b15:y≠b:=by rintro rfl;rw[dz]at L;cases L
  have b16:x≠aY:=by rintro rfl;rw[z _ _ E]at G;cases G
  have b17:x≠b:=by rintro rfl;rw[z _ _ E]at L;cases L
  refine aa ?_;refine aR λp f=>?_;have a36:aY≠p:=by rintro rfl;rw[l8]at f;cases f
  have a38:b≠p:=by rintro rfl;rw[l6]at f;cases f
  have a42:y≠p:=by rintro rfl;rw[n0]at f;cases f
  have a43:x≠p:=by rintro rfl;rw[eI]at f;cases f
  have b18:=a36.symm;have b19:=a38.symm;have b20:=a42.symm;have b21:=a43.symm;have b22:cU 1 (.ar aY d F 1) (.v (.int .i64 0))=γ (.ptr aY 0):=by grind[iL]
  have b23:cU 1 (.ar b c C 1) (.v (.int .i64 0))=γ (.ptr b 0):=by grind[iL]
  have b24:=ω l8;have b25:=ω l6;have b26:=μ n0;have dV:=μ eI;have b27:1<=β k:=ε;have b28:1<=β o:=ε;have a47:(putAt k 0 [R.v (.int .i64 id)]).take d=ab (id::θ (β a.aH) jc):=by
   have O:d=β a.aH+1:=ε;have P:(k.drop 1).take (d - 1)=ab (θ (β a.aH) jc):=by rw[<-a8T,I];rfl
   have Q:d - 1=β a.aH:=ε;rw[Q]at P;show([]++[R.v (.int .i64 id)]++k.drop 1).take d= _;rw[a7T,O,abx,aaa,P];rfl
  have a48:(putAt o 0 [R.v (.int .i64 id)]).take c=ab (id::θ (β a.aH) jM):=by
   have O:c=β a.aH+1:=ε;have P:(o.drop 1).take (c - 1)=ab (θ (β a.aH) jM):=by rw[<-a8T,N];rfl
   have Q:c - 1=β a.aH:=ε;rw[Q]at P;show([]++[R.v (.int .i64 id)]++o.drop 1).take c= _;rw[a7T,O,abx,aaa,P];rfl
  have b29:(putAt k 0 [R.v (.int .i64 id)]).length=β k:=eY _ _ _ Ι;have b30:(putAt o 0 [R.v (.int .i64 id)]).length=β o:=eY _ _ _ Ι;have b31:(l1.set p (.cells [.ar aY d F 1,.ar b c C 1])) p=γ (.cells [.ar aY d F 1,.ar b c C 1]):=ξ _ _ _;clear e g I N l5 l7;refine aa ?_;generalize putAt k 0 [R.v (.int .i64 id)]=j at*;generalize putAt o 0 [R.v (.int .i64 id)]=l at*;refine aP (k9 _) ?_;generalize X:((l1.set p (.cells [.ar aY d F 1,.ar b c C 1])).set aY (.cells j)).set b (.cells l)=S;have a52:S aY=γ (.cells j):=by subst X;rw[ο _ _ l9,ξ]
  have a56:S b=γ (.cells l):=by subst X;rw[ξ]
  have b32:=Ν i f;have a57:H.sub S:=by grind[ν]
  clear X;have n2:=View.ar (n:=d) (cap:=F) (k:=1) a52 ε;rw[ki,a47]at n2;have a61:(S.set aY (.ro j)) b=γ (.cells l):=by rw[ο _ _ a34];exact a56
  have n3:=View.ar (n:=c) (cap:=C) (k:=1) a61 ε;rw[ki,a48]at n3;have n4:H.sub ((S.set aY (.ro j)).set b (.ro l)):=ν (ν a57 G) L;have a62:=View.agg (a:=[]) (h:=[.ar b c C 1,.v (.int .u8 0),.v (.int .i64 0),.J [] .nil,.v (.int .i64 1),.v (.bool κ)]) rfl n2;have a63:=View.agg (a:=[.J (ab (id::θ (β a.aH) jc)) .any]) (h:=[.v (.int .u8 0),.v (.int .i64 0),.J [] .nil,.v (.int .i64 1),.v (.bool κ)]) rfl n3;have a65:=a62.trans a63;have a68:=Hp id a15;have a69:dE (id::θ (β a.aH) jc) (id::θ (β a.aH) jM) a.bK=ζ->1<=a.bK.size:=λv=>by
   simp only[dE,Κ,decide_eq_true_eq]at v;have b33:=kx (a3I k3 hm);simp_all
  have a71:=AC.o4 (q:=δ) (j:=[.ptr n 0,.agg (ag a.bK k5 k6 k7)]) a65 (a3H _ n k2 q (s.hg.mono (π z n4)) a.bK k5 k6 k7 a18 a19 _ _ .any .any .nil (β a.aH+1) a68 a16 a69);refine ak a71 ?_;rintro t a73⟨a74,a81⟩;have b34:=π z (π n4 a74);rcases a81 with⟨b35,b36,b37,rfl⟩|⟨rows,b38,Y,n5,b39,b40,Z,m,b41,rfl⟩
  .refine aa ?_;refine aR λn9 a00=>?_;refine aa ?_;simp
  .have b42:=eG Z;refine aa ?_;refine aR λn9 a00=>?_;have a83:=Z.src;obtain⟨a01,k8,a13,a14⟩:=a83;rw[a8m]at k8;have a02:=m.len;refine aa ?_;cases rows with
   |nil=>
    have a03:a01=0:=by rw[a7E]at a02;omega
    subst a03;refine aa ?_;grind
   |cons a84 rest=>
    have a03:¬(a01:Int)=0:=by rw[a7I]at a02;omega
    obtain⟨_,a86,a88,rfl⟩:=m.get (i:=0) rfl;have a89:=bL.dq (Z.mono (ν (b0:=.cells [Y,.v (.int .i64 n5)]) (ι) a00)) ε m.flat.symm (m.cells λ_ _=>ρ);obtain⟨a04,a05,a90⟩:=a89.get 0 _ a86;have a05:cU 1 Y (.v (.int .i64 0))=γ a04:=a05;have b43:cO κ 1 (a73.set n9 (.cells [Y,.v (.int .i64 n5)])) a04=γ (.J (ab a84) a88):=a90.ld _ ι κ 1 ε (by simp[τ]);refine aa ?_;grind
variable{b4:aF}
theorem Hr{a:fY}(h:mY e i a)(p:0<i)(k:ly e b4 A)(d:iB e a.aY n):iB e (fw a A).aY n:=by
 have f:gR e a.aY:=by
  rcases h.aY with⟨b,_⟩|⟨_,b⟩
  .omega
  .exact b
 show iB e (et a.aY (A.az,A.aE)) n;rcases k.aY with⟨b,c,o⟩|⟨b,c⟩
 .rw[c,o,zc f];exact d
 .exact zd f c (.inl d)
def Hs{a:fY}(f:mY e i a)(h:ly e b4 A)(k:n∈b4.all)(d:iB e (A.az,A.aE) n):iB e (fw a A).aY n:=by
 have r:=aaj k;show iB e (et a.aY (A.az,A.aE)) n;rcases h.aY with⟨o,b,x⟩|⟨o,b⟩
 .omega
 rcases f.aY with⟨p,c⟩|⟨p,c⟩
 .rw[c,p2 b];exact d
 .exact zd c b (.inr d)
theorem Av{b:Nat}(f:1<=b)(h:b<=8){c:Ω}:∀ {k:aF},k.ca b->k.size<=1048576->c∈k.all->iB b ((br k).az,(br k).aE) c
 |.nil,_,_,d=>by cases d
 |.node o live C D,d,E,a=>by
  simp only[Ο]at E;have r:=fR f h d.a ε;have x:=fR f h d.b ε;have p:=ze f h d.r;have y:mY b (if live=ζ then 1 else 0) (eu ⟨0,1,([],[])⟩ (o,live)):=by
   cases live with
   |false=>exact⟨rfl,.inl ⟨rfl,rfl⟩⟩
   |true=>refine⟨rfl,.inr ⟨Μ,?_⟩⟩;show gR b (et ([],[]) (gM o));rw[p2 p];exact p
  have z:=A1 y r;show iB b (fw (fw (eu ⟨0,1,([],[])⟩ (o,live)) (br C)) (br D)).aY c;simp only[aF.all,Ψ]at a;rcases a with (a|a)|a
  .have:=aaj a;exact Hr z ε x (Hs y r a (Av f h d.a ε a))
  .exact Hs z x a (Av f h d.b ε a)
  .have F:live=ζ/\c=o:=by simp_all
   obtain⟨rfl,rfl⟩:=F;have G:iB b (eu ⟨0,1,([],[])⟩ (c,ζ)).aY c:=by show iB b (et ([],[]) (gM c)) c;rw[p2 p];unfold gM;rw[if_pos (by have:=d.r.len;omega)];exact λL _=>⟨a9B _,a9B _⟩
   grind[Hr]
def Ht{a:Ω}(b:β a=e):ed n b5 a=ζ↔cV n b5 e=ζ/\iB e (n,b5) a:=by unfold ed;simp only[b,Κ,a7L,a8B,decide_eq_true_eq];rfl
def Aw(c:1<=e)(d:e<=8){f:Ω}(a:b4.ca e)(h:b4.size<=1048576)(b:b5∈b4.all)(x:ed f n b5=ζ):dE f n (br b4)=true:=by
 have k:=fR c d a h;have F:=aaj b;have y:=(a b5 (aF.gV b)).len;obtain⟨o,z⟩:=(Ht y).1 x;have C:=Av c d a h b;have D:=iA.1 o;have E:cV (br b4).az (br b4).aE e=true:=by
  rcases k.aY with⟨p,_⟩|⟨_,p⟩
  .omega
  .exact p.ok
 have G:=k.live;unfold dE gS mg;simp only[D.2.2.1,Κ,a7L,a8B,decide_eq_true_eq];refine⟨ε,⟨o,E⟩,λr n=>?_⟩;have:=z r n;have:=C r n
 dsimp only at*
 unfold eo;omega
def Hu:di H e aG=none:=by
 cases a:di H e aG with
 |none=>rfl
 |some b=>have:=(GW (n:=[]) (b5:=[]) a).2;have c:(aG).size=0:=rfl;omega
theorem Hv(p:1<=e)(r:e<=8)(x:ng H e n b5 A j6):∀ {a:aF},A=br a->a.ca e->a.size<=1048576->dM H a->∃b,j6=br b/\b.ca e/\b.size<=1048576/\dM H b/\(∀y∈b.all,y∈a.all)/\(dE n b5 A=ζ->dE n b5 j6=ζ):=by
 induction x with
 |refl z=>grind
 |@step z h V W c hk g i ih=>
  intro a k d o f;cases a with
  |nil=>rw[k,show br .nil=aG from rfl,Hu]at c;cases c
  |node j live C D=>
   rw[k,rV p r d o f]at c;obtain rfl:=Δ c;simp only[Ο]at o;have E:h=br C\/h=br D:=by simpa[cD] using hk
   rcases E with rfl|rfl
   .obtain⟨b,F,G,L,P,S,T⟩:=ih rfl d.a ε f.2.1;grind[aF.all]
   .obtain⟨b,F,G,L,P,S,T⟩:=ih rfl d.b ε f.2.2;grind[aF.all]
def w8(a:1<=e)(b:e<=8)(d:b4.ca e)(f:b4.size<=1048576)(h:dM H b4):¬w6 H e n b5 (br b4):=by
 rintro⟨C,k,o,c⟩;obtain⟨p,rfl,r,x,y,_,z⟩:=Hv a b k rfl d f h;cases p with
 |nil=>exact vQ (z o) rfl
 |node D live E F=>rw[rV a b r x y]at c;cases c
def Hw(b:1<=e)(c:e<=8){d:Ω}(f:b4.ca e)(h:b4.size<=1048576)(k:dM H b4)(o:og H e b5 d (br b4) n):n∈b4.all/\ed b5 d n=true:=by
 obtain⟨F,G,p,a,hm,r⟩:=o;obtain⟨x,rfl,y,z,C,D,_⟩:=Hv b c p rfl f h k;refine⟨D n ?_,r⟩;cases x with
 |nil=>rw[show br .nil=aG from rfl,Hu]at a;cases a
 |node E live L P=>
  rw[rV b c y z C]at a;obtain rfl:=Δ a;have:n=E/\live=true:=by simpa[cD] using hm
  obtain⟨rfl,rfl⟩:=this;simp[aF.all]
theorem Ax{D:af}{k:Nat}(c:1<=k)(d:k<=8){E F o:Ω}:∀ {f:aF},f.ca k->f.size<=1048576->dM D f->o∈f.all->ed E F o=ζ->og D k E F (br f) o
 |.nil,_,_,_,b,_=>by cases b
 |.node L live S T,b,G,p,a,h=>by
  have r:=rV c d b G p;simp only[Ο]at G;simp only[aF.all,Ψ]at a;rcases a with (a|a)|a
  .obtain⟨x,y,z,C⟩:=Ax c d b.a ε p.2.1 a h;exact⟨x,y,.step r (by simp[cD]) (Aw c d b.a ε a h) z,C⟩
  .obtain⟨x,y,z,C⟩:=Ax c d b.b ε p.2.2 a h;exact⟨x,y,.step r (by simp[cD]) (Aw c d b.b ε a h) z,C⟩
  .have P:live=ζ/\o=L:=by simp_all
   obtain⟨rfl,rfl⟩:=P;exact⟨_,_,.refl _,r,by simp[cD],h⟩
variable{Q:List Ω}
theorem w9(b:1<=e)(c:e<=8)(d:b4.ca e)(f:b4.size<=1048576)(h:dM H b4)(k:w5 H e n b5 (br b4) Q):(Q=[]↔ ∀a∈b4.all,¬ed n b5 a=ζ):=by
 constructor
 .intro r a o p;exact k.full r (Aw b c d f o p) a (Ax b c d f h o p)
 .intro x;cases Q with
  |nil=>rfl
  |cons a rest=>obtain⟨y,z⟩:=Hw b c d f h (k.sound a σ);simp_all
theorem u0{id:Int}(d:e<=7)(b:bJ (e+1) n):ed (id::θ e jc) (id::θ e jM) n=ζ↔n.getD 0 0=id:=by
 rw[Ht b.len];constructor
 .rintro⟨_,c⟩;have:=c 0 ε;grind
 .intro f;refine⟨Hp id d,λa h=>?_⟩;cases a with
  |zero=>simp only[a8C];omega
  |succ a=>have c:a<e:=ε;have k:=b.len;have hm:=b.iY (n.getD (a+1) 0) (by simp_all);simp only[a8U];simp only[a7V,List.getElem?_replicate,if_pos c,a9u];simp only[a7V]at hm;unfold jc jM;omega
def mn(b:af)(d:List aT)(c:cC)(f:Int×List aT×af):Prop:=match d.find? (λa=>decide (a.name=c.table))with
 |none=>f=(3,d,b)
 |some a=>if β c.row=β a.aH+1 then
   (w6 b (β a.aH+1) (c.row.getD 0 0::θ (β a.aH) jc) (c.row.getD 0 0::θ (β a.aH) jM) a.bK/\f=(21,d,b))\/
   ∃rows,w5 b (β a.aH+1) (c.row.getD 0 0::θ (β a.aH) jc) (c.row.getD 0 0::θ (β a.aH) jM) a.bK rows/\(∀h∈rows,β h=β a.aH+1)/\
    ((rows=[]/\f=fT (λb=>oh (β a.aH+1) c.row b a.bK) (λb=>jJ (β a.aH+1) c.row b a.c9) b d a)\/(rows≠[]/\f=(8,d,b)))
  else f=(6,d,b)
def a3J(y:U)(o p r:Nat)(h:af)(c:List aT)(l:dj y o p r h c)(m:∀d∈c,d.Fit)(n:cN c=ζ)(a:cX)(H:a.d.Fit):
  AC δ 32 [.ptr o 0,a.V] y λC D=>∃res,mn h c a.d res/\C=.v (.int .i64 res.1)/\dj D o p r res.2.2 res.2.1/\cE o p r y D:=by
 obtain⟨I,l8⟩:=qs n;have q:=λD z=>Hm D o p r h c z ε a H;have s:a.V=.agg [av a.d.kind,bm a.d.table,.J (bX a.d.aH) a.gP,.J (ab a.d.row) a.du]:=rfl;obtain⟨l9,n0,K,n2⟩:=l.x;rw[s]at q|-;clear s;have n3:=μ K;have n4:=gG.all.1;refine aM hm N8 ?_;refine bg λL M=>?_;have t:=ν (b0:=.cells [av a.d.kind,bm a.d.table,.J (bX a.d.aH) a.gP,.J (ab a.d.row) a.du]) (ι) M;have aD:=ξ y L (.cells [av a.d.kind,bm a.d.table,.J (bX a.d.aH) a.gP,.J (ab a.d.row) a.du]);generalize y.set L _=N at*;have u:=l.sub t;refine ak (q N u) ?_;rintro C O⟨P,b⟩;have S:=P _ _ aD;have n5:=μ S;have V:=u.sub P;have W:=π t P;have e:∀d T,eJ d T->putAt fS 0 T=T:=λd T z=>(oo z).2.2.1;have n9:=gG.all.2.1;have a00:=e _ _ gG;have g:=mm;generalize fS=a01 at*;unfold nj at b;unfold mn;cases E:c.find? (λd=>decide (d.name=a.d.table))with
 |none=>
  rw[E]at b
  dsimp only at b
  obtain rfl:=b;refine aa ?_;refine aR λF f=>?_;rw[g];refine aa ?_;refine⟨_,ι,(3,c,h),rfl,rfl,V.sub (ν ι f),cE.of (π W (ν ι f))⟩
 |some d=>
  rw[E]at b;have hm:=w3 E
  dsimp only at b
  by_cases x:β a.d.row=β d.aH+1
  .rw[if_pos x]at b;obtain⟨T,k,rfl⟩:=b;obtain⟨Q,X,Y,_⟩:=k.all;have Z:=e _ _ k;have k2:=@cP a.d.row;have a02:=bn (n:=a.d.row);refine aa ?_;refine aR λF f=>?_;rw[g];have k3:L≠F:=by rintro rfl;rw[S]at f;cases f
   have a03:=k3.symm;obtain⟨k4,k5⟩:=k.k;obtain⟨k6,k7⟩:=k.z;have v:=I d hm;have a04:=v.c;have a05:=v.k.size;have w:=V.sub (ν (b0:=.cells T) ι f);have k8:=ν (b0:=.cells T) (ι) f _ _ S;have k9:=ξ O F (.cells T);have l0:=π W (ν (b0:=.cells T) (ι) f);have a06:cU 1 (.J (ab a.d.row) a.du) (.v (.int .i64 0))=γ (.c4 [.v (.int .i64 (a.d.row.getD 0 0))]):=by have z:=k2 (b:=0) ε;have l1:(0:Int)<=0:=ε;rw[ir l1];show fC 1 (ab a.d.row)[0]?= _;rw[z];rfl
   dsimp only
   simp only[if_pos x];refine aa ?_;refine ak (Hq _ o p r h c w n a.d.table (a.d.row.getD 0 0)) ?_;rintro C l2⟨G,b⟩;unfold tZ at b;rw[E]at b
   dsimp only at b
   have i:=w.sub G;have j:=π l0 G;have a07:=μ (G _ _ k8);have a08:=μ (G _ _ k9);rcases b with⟨a09,rfl⟩|⟨rows,A,B,⟨rfl,rfl⟩|⟨l3,l4,a10,rfl,rfl⟩⟩
   .refine aa ?_;exact⟨_,ι,(21,c,h),.inl rfl,rfl,i,cE.of j⟩
   .have l5:=Ho l2 o p r h c i m ε d T k (m d hm) a.d.row a.du 58 59 _ _ Φ Φ (jR.a3B k4 k5 ε ε ε x) (jR.a3D k6 k7 ε ε x);refine aa ?_;refine ak l5 ?_;rintro C a11⟨rfl,l6,l7⟩;refine aa ?_;exact⟨_,ι,_,.inr ⟨[],A,B,.inl ⟨rfl,rfl⟩⟩,rfl,l6,(cE.of j).trans l7⟩
   .refine aa ?_;exact⟨_,ι,(8,c,h),.inr ⟨l3::l4,A,B,.inr ⟨σ,rfl⟩⟩,rfl,i,cE.of j⟩
  .rw[if_neg x]at b;obtain⟨T,k,rfl⟩:=b;obtain⟨Q,X,Y,_⟩:=k.all;have Z:=e _ _ k;refine aa ?_;refine aR λF f=>?_;rw[g]
   dsimp only
   simp only[if_neg x];refine aa ?_;refine⟨_,ι,(6,c,h),rfl,rfl,V.sub (ν ι f),cE.of (π W (ν ι f))⟩
def eP(c:af)(b:List aT)(a:cC)(d:Int×List aT×af):Prop:=
 if eO a=κ then d=(1,b,c)
 else if a.kind=1 then d=((jg (ky b ⟨a.table,a.aH,aG,aG⟩) b).1,(jg (ky b ⟨a.table,a.aH,aG,aG⟩) b).2,c)
 else if a.kind=2 then d=((jg (cQ b a.table) b).1,(jg (cQ b a.table) b).2,c)
 else if a.kind=3 then mn c b a d
 else d=jS c b a
theorem Hx(b:U)(d f h:Nat)(p:af)(r:List aT)(Z:dj b d f h p r)(j:∀k2∈r,k2.Fit)(m:cN r=ζ)(a:cX)(l:a.d.Fit):
  AC δ 15 [.ptr d 0,a.V] b λg w=>∃res,eP p r a.d res/\g=.v (.int .i64 res.1)/\dj w d f h res.2.2 res.2.1/\cE d f h b w:=by
 have k5:=(qs m).2;have n:=λb=>Gh a l b;have A:=λb G=>a3x b d f h p r G j ε a l;have B:=λb G=>a3w b d f h p r G j ε a;have H:=λb G=>a3J b d f h p r G j m a l;have I:=λb G=>a3F b d f h p r G j m a l;have K:a.V=.agg [av a.d.kind,bm a.d.table,.J (bX a.d.aH) a.gP,.J (ab a.d.row) a.du]:=rfl;rw[K]at n A B H I|-;clear K;refine aM hm MC ?_;refine bg λq k3=>?_;have W:=ν (b0:=.cells [av a.d.kind,bm a.d.table,.J (bX a.d.aH) a.gP,.J (ab a.d.row) a.du]) (ι) k3;have aD:=ξ b q (.cells [av a.d.kind,bm a.d.table,.J (bX a.d.aH) a.gP,.J (ab a.d.row) a.du]);generalize b.set q _=e at*;have i:=Z.sub W;have k6:=μ aD;cases bW:eO a.d with
 |false=>refine aP (n e) ?_;exact⟨_,ι,(1,r,p),by unfold eP;rw[if_pos bW],rfl,i,cE.of W⟩
 |true=>
  refine aP (n e) ?_;rw[show θ 5 (R.v .nilFunc)=[.v .nilFunc,.v .nilFunc,.v .nilFunc,.v .nilFunc,.v .nilFunc]from rfl];have k7:∀y z C D E x:R,putAt [y,z,C,D,E] 1 [x]=[y,x,C,D,E]:=λ_ _ _ _ _ _=>rfl;have k8:∀y z C D E x:R,putAt [y,z,C,D,E] 2 [x]=[y,z,x,D,E]:=λ_ _ _ _ _ _=>rfl;have k9:∀y z C D E x:R,putAt [y,z,C,D,E] 3 [x]=[y,z,C,x,E]:=λ_ _ _ _ _ _=>rfl;have l0:∀y z C D E x:R,putAt [y,z,C,D,E] 4 [x]=[y,z,C,D,x]:=λ_ _ _ _ _ _=>rfl;have l1:∀y z C D E x M N O v:R,putAt [y,z,C,D,E] 0 [x,M,N,O,v]=[x,M,N,O,v]:=λ_ _ _ _ _ _ _ _ _ _=>rfl;have l2:∀Q X Y,(R.bG Q X Y).cells=[.bG Q X Y]:=λ_ _ _=>rfl;have L:a.d.kind.toNat=1\/a.d.kind.toNat=2\/a.d.kind.toNat=3\/a.d.kind.toNat=4:=by have G:=bW;simp only[eO,Κ]at G;grind
  refine aa ?_;refine aR λc F=>?_;have k4:q≠c:=by rintro rfl;rw[aD]at F;cases F
  have l3:=k4.symm;rcases L with L|L|L|L
  .have s:mN 1 5 (.ptr c 0) (av a.d.kind)=γ (.ptr c 1):=by have:=sS (e:=1) (i:=5) (t:=c) (I:=0) (e4:=.u8) (N:=(a.d.kind.toNat)) ε ε;rw[a8a,show 0+a.d.kind.toNat*1=1 by omega]at this;exact this
   refine aa ?_;have t:a.d.kind=1:=a8v.1 L;generalize k:(e.set c _)=o;have P:dj o d f h p r:=by subst k;exact i.sub (ν ι F)
   have S:cE d f h b o:=by subst k;exact cE.of (π W (ν ι F))
   clear k;refine fa abY (A o P) ?_;rintro g u⟨T,V,rfl⟩;refine aa ?_;refine⟨_,ι,(_,_,p),?_,rfl,T,S.trans V⟩;unfold eP;grind
  .have s:mN 1 5 (.ptr c 0) (av a.d.kind)=γ (.ptr c 2):=by have:=sS (e:=1) (i:=5) (t:=c) (I:=0) (e4:=.u8) (N:=(a.d.kind.toNat)) ε ε;rw[a8a,show 0+a.d.kind.toNat*1=2 by omega]at this;exact this
   refine aa ?_;have t:a.d.kind=2:=a8v.1 L;generalize k:(e.set c _)=o;have P:dj o d f h p r:=by subst k;exact i.sub (ν ι F)
   have S:cE d f h b o:=by subst k;exact cE.of (π W (ν ι F))
   clear k;refine fa abY (B o P) ?_;rintro g u⟨T,V,rfl⟩;refine aa ?_;refine⟨_,ι,(_,_,p),?_,rfl,T,S.trans V⟩;simp_all [eP]
  .have s:mN 1 5 (.ptr c 0) (av a.d.kind)=γ (.ptr c 3):=by have:=sS (e:=1) (i:=5) (t:=c) (I:=0) (e4:=.u8) (N:=(a.d.kind.toNat)) ε ε;rw[a8a,show 0+a.d.kind.toNat*1=3 by omega]at this;exact this
   refine aa ?_;have t:a.d.kind=3:=a8v.1 L;generalize k:(e.set c _)=o;have P:dj o d f h p r:=by subst k;exact i.sub (ν ι F)
   have S:cE d f h b o:=by subst k;exact cE.of (π W (ν ι F))
   clear k;refine fa abY (H o P) ?_;rintro g u⟨res,l4,rfl,T,V⟩;refine aa ?_;refine⟨_,ι,res,?_,rfl,T,S.trans V⟩;simp_all [eP]
  .have s:mN 1 5 (.ptr c 0) (av a.d.kind)=γ (.ptr c 4):=by have:=sS (e:=1) (i:=5) (t:=c) (I:=0) (e4:=.u8) (N:=(a.d.kind.toNat)) ε ε;rw[a8a,show 0+a.d.kind.toNat*1=4 by omega]at this;exact this
   refine aa ?_;have t:a.d.kind=4:=a8v.1 L;generalize k:(e.set c _)=o;have P:dj o d f h p r:=by subst k;exact i.sub (ν ι F)
   have S:cE d f h b o:=by subst k;exact cE.of (π W (ν ι F))
   clear k;refine fa abY (I o P) ?_;rintro g u⟨rfl,T,V⟩;refine aa ?_;refine⟨_,ι,jS p r a.d,?_,rfl,T,S.trans V⟩;simp_all [eP]
theorem pj:cN e7=ζ↔(∀b∈e7,gm b=ζ)/\e7.Pairwise (λc d=>bY c.name d.name=ζ)/\β e7<=8:=by
 constructor
 .intro a;have k:=An a;simp only[cN,Κ,a7L,a8B,decide_eq_true_eq]at a;refine⟨λb f=>?_,?_,a.2⟩
  .obtain⟨o,p,rfl⟩:=a8e f;simp_all
  grind[List.pairwise_iff_getElem,List.getD]
 .rintro⟨r,h,x⟩;rw[a8W]at h;simp only[cN,Κ,a7L,a8B,decide_eq_true_eq,a8Y];grind
variable{O:ϊ}
theorem Hy{b:List aT}(c:cN e7=ζ)(a:cQ e7 O=.ok b):cN b=true:=by
 unfold cQ at a;rw[if_pos c]at a;split at a
 .obtain rfl:=Except.ok.inj a;obtain⟨d,f,h⟩:=pj.1 c;have k:(e7.take (dd e7 O)++e7.drop (dd e7 O+1)).Sublist e7:=by grind[dd,List.Sublist.append_left,List.drop_drop,List.drop_sublist,List.take_append_drop]
  grind[pj,Nat.le_trans]
 .cases a
theorem Hz{c:List aT}(a:kz e7 h8=.ok c):cN c=true:=by
 unfold kz at a;split at a
 .rename_i b;simp only[Κ]at b;obtain⟨b,o⟩:=b;split at a
  .rename_i d;obtain rfl:=Except.ok.inj a;simp only[gW,Κ,decide_eq_true_eq]at d;obtain⟨f,p⟩:=d;obtain⟨r,h,k⟩:=pj.1 b;have x:(e7[dd e7 h8.name]'f).name=h8.name:=by simp_all
   refine pj.2 ⟨λy z=>?_,?_,by rw[aah];exact k⟩;grind
   .rw[a8W]at h|-;grind
  .cases a
 .cases a
def HA{c:aT->Bool}:∀ {d:List aT},∀b∈d.takeWhile c,c b=ζ
 |[],b,a=>by cases a
 |f::d,b,a=>by
  rw[a8O]at a;split at a
  .rcases a7S.1 a with rfl|a
   .assumption
   .exact HA b a
  .cases a
theorem HB{c:aT->Bool}:∀ {d:List aT}{b:aT}{f:List aT},d.dropWhile c=b::f->c b=κ
 |[],_,_,a=>by cases a
 |h::d,b,f,a=>by
  rw[a9R]at a;split at a
  .exact HB a
  simp_all
theorem HC{k:List aT}(b:ky e7 h8=.ok k):cN k=true:=by
 unfold ky at b;split at b
 .rename_i d;simp only[Κ]at d;obtain⟨d,D⟩:=d;split at b
  .cases b
  rename_i E;split at b
  .cases b
  rename_i F;obtain rfl:=Except.ok.inj b;obtain⟨G,o,L⟩:=pj.1 d;have p:e7.take (dd e7 h8.name)=e7.takeWhile λa=>bY a.name h8.name:=by grind[List.takeWhile_append_dropWhile,bY,dd,List.take_left]
  have r:e7.drop (dd e7 h8.name)=e7.dropWhile λa=>bY a.name h8.name:=by grind[List.takeWhile_append_dropWhile,bY,dd,List.drop_left]
  have el:=a8h (p:=λa:aT=>bY a.name h8.name) (l:=e7);have P:∀a∈e7.takeWhile (λa=>bY a.name h8.name),bY a.name h8.name=true:=λa c=>HA a c;have x:∀a∈e7.dropWhile (λa=>bY a.name h8.name),bY h8.name a.name=true:=by
   intro a c;cases f:e7.dropWhile (λa=>bY a.name h8.name)with
   |nil=>rw[f]at c;cases c
   |cons h S=>
    have T:=HB f;have V:dd e7 h8.name<β e7:=by grind
    have W:e7.getD (dd e7 h8.name) default=h:=by grind
    have e:h.name≠h8.name:=λg=>by
     simp_all [gW]
    have y:bY h8.name h.name=true:=by grind[bY,absurd,He]
    rw[f]at c;rcases a7S.1 c with rfl|c
    .exact y
    grind[w0,List.pairwise_cons]
  rw[p,r];refine pj.2 ⟨λa c=>?_,?_,?_⟩;grind
  .rw[<-el]at o;obtain⟨z,C,i⟩:=a8t.1 o;refine a8t.2 ⟨z,a7W.2 ⟨x,C⟩,λj l m n=>?_⟩;grind
  grind
 .cases b
end Go.Proofs.YtgchlmdfldnhnaaGreat
namespace Go.bw
open Go
variable{s b8:R}{g w h7:U}{j B b7:ύ}{e i t I b3 e5:Nat}
theorem View.obj(o:g e=γ (.cells (B++ .ar i t I 1::b7)))(y:g i=γ (.cells j))(z:t*1<=β j)(C:e≠i):
  View g s ((g.set i (.ro j)).set e (.cells (B++ .J (eZ 1 t j) .any::b7))) s:=λu w v D E=>by
 obtain⟨F,a⟩:=Step.freeze D y;have G:(g.set i (.ro j)) e=γ (.cells (B++ .ar i t I 1::b7)):=by rw[ο _ _ C];exact o
 obtain⟨A,L,T,P,f,S⟩:=a.holds.dN e _ G;refine⟨F,⟨⟨a.holds.ro,λp V b=>?_⟩,a.le,a.os,a.tape,a.output,a.size,λ_ _ _=>rfl,λh H=>?_,a.ns,λh W l k=>?_⟩,E.mono a.le⟩
 .by_cases c:p=e
  .subst c;rw[ξ]at b;obtain rfl:=Δ b;refine⟨λK d=>?_,L,T,P,⟨by have:=f.1;simp_all,λr x m=>?_⟩,S⟩
   .simp only[Ψ,a7S]at d;rcases d with d|rfl|d
    .simp_all
    .rfl
    .simp_all
   .by_cases n:r=β B
    .subst n;have q:x=.J (eZ 1 t j) .any:=by simpa using m.symm
     subst q;exact aW.frozen a.holds (ξ _ _ _) z (f.2 (β B) (.ar i t I 1) σ)
    .refine f.2 r x ?_;grind
  .rw[ο _ _ c]at b;exact a.holds.dN p V b
 grind[ο]
 .have c:h≠e:=by rintro rfl;rw[o]at k;cases k
  rw[ο _ _ c];exact a.jZ h W l k
def Ay(h k:U):Prop:=∀a b c d f,h a=γ (.cells [.J b c,.J d f])->k a=γ (.cells [.J b c,.J d f])
end Go.bw
namespace Go.Proofs.YtgchlmdfldnhnaaGreat
open Go Go.bw
def bD.wa{p r:U}(d:Ay p r):∀ {a:Nat}{b:a6.T a}{c:R},bD p a b c->bD r a b c
 |0,b,c,⟨f,x,h,dK,h1,k,o⟩=>⟨f,x,h,dK,h1,d _ _ _ _ _ k,o⟩
 |a+1,b,c,⟨f,y,h,dK,h1,k,o,z⟩=>⟨f,y,h,dK,h1,d _ _ _ _ _ k,o.mono λ_ _=>bD.wa d,z⟩
variable{e i t I b3 e5:Nat}
theorem a3K(p:Ω)(P:Own)(z:a6.T 0)(S:R)(k:U)(q:bD k 0 z S)(T:GT e 0 z)(Y:e<=8):
  AC δ 74 [S,.J (ab p) P] k λx c=>k.sub c/\bD c 0 (a6.cQ bE p 0 z) x:=by
 obtain⟨Z,k2,s,k3,rfl,V,F⟩:=q;obtain⟨d,rfl⟩:=a6.iU z;rw[a6.rz]at F;have W:=T.ok;have t:=T.ev;rw[a6.km]at W t;have k4:=F.len;show AC _ _ _ _ λx c=>k.sub c/\bD c 0 (a6.leaf (d.filter λa=>decide (a≠p))) x;refine AC.view (u:=λx c=>∃a f h,x=.ptr a 0/\k a=η/\aq (k.set a (.cells [f,.J [] .nil])) c 1 h f/\aw isRow (d.filter λa=>decide (a≠p)) h) ?_ ?_
 .have u:=μ V;refine aM hm CC ?_;refine bg λa y=>?_;refine ck [0,1,5] (λb:Nat=>[(6,.v (.int .i64 (b)))]) (λb c=>b<=β d/\∃f h,aq (k.set a (.cells [f,.J [] .nil])) c 1 h f/\aw isRow ((d.take b).filter λa=>decide (a≠p)) h) (λb=>β d - b) 0 ⟨⟨ε,_,[],aq.nil ι,trivial⟩,aK⟩ ?_;rintro b v⟨k5,f,h,o,r⟩k6;have k7:=r.len;have w:=o.1 _ _ (ξ _ _ _);have u:=rd (π (ν ι y) o.1) V;have G:=μ w;refine aa ?_;refine ay (λA=>?_) λA=>?_
  .obtain⟨_,k8,g,rfl⟩:=F.at [] (e:=b) ε;have B:=fX (a:=d) (b:=[]) (e:=b) ε;have k9:=(W (d.getD b []) (by grind)).len;generalize d.getD b []=C at*;refine mP (qe C p g P v ε) ?_;refine ay (λc2=>?_) λc2=>?_
   .have H:=a9i (λa=>decide (a≠p)) (d.take b);rw[a7z]at H;refine DW o (λ_ i l0 L=>?_);have l1:=ω (L.1 _ _ (ξ _ _ _));have l2:=eG L;have j:=kj (b0:=.cells [i,.J [] .nil]) L (ξ k a (.cells [f,.J [] .nil]));rw[υ]at j;refine aa ?_;exact⟨b+1,⟨ε,i,_,j,by rw[B,a8S,a9y (by simpa using c2),a9N];exact r.snoc ⟨g,rfl⟩⟩,rfl,ε⟩
   grind
  .rw[a7x ε]at r;exact⟨_,ι,a,f,h,rfl,y,o,r⟩
 .rintro x c⟨a,f,h,rfl,y,o,r⟩;have G:=o.1 _ _ (ξ _ _ _);have l:=π (ν ι y) o.1;rcases o.2 with⟨rfl,I⟩|⟨m,K,l3,M,rfl,D,N,O,l4,l5,l6,l7⟩
  .refine⟨_,c,View.refl,l,?_⟩;rcases I with rfl|rfl<;>exact⟨a,[],_,.nil,rfl,G,r⟩
  .have Q:a≠m:=by rintro rfl;rw[ξ]at D;cases D
   refine⟨_,_,View.obj (B:=[]) G N (by rw[O];omega) Q,?_,a,_,.any,.nil,rfl,ξ _ _ _,?_⟩
   .intro C s E;have n:C≠a:=by rintro rfl;rw[y]at E;cases E
    have X:C≠m:=by rintro rfl;rw[ο _ _ n,E]at D;cases D
    rw[ο _ _ n,ο _ _ X];exact l _ _ E
   .rw[ki,show M.take K=h by simp_all];exact r
def qt{d:U}{b:Nat}:∀ {f:List (a6.T b)}{a:ύ},aw (bD d b) f a->flat a=a
 |[],[],_=>rfl
 |_:: _,h::a,c=>by
  obtain⟨k,o,p,rfl,_⟩:=bD.ptr c.1;have:=qt c.2;simp only[flat,a7R]at this|-;rw[this];rfl
variable{s b8:R}{g w h7:U}
def bD.shape{o:a6.T e}(p:bD g e o s):∃a h b d c,s=.ptr a 0/\g a=γ (.cells [.J h b,.J d c])/\β h+β d=a6.len o/\(e=0->d=[])/\(e≠0->h=[]/\d≠[]):=by
 cases e with
 |zero=>obtain⟨a,r,b,c,rfl,k,f⟩:=p;exact⟨a,r,b,[],c,rfl,k,by rw[f.len];rfl,λ_=>rfl,λe=>absurd rfl e⟩
 |succ e=>obtain⟨a,x,b,c,rfl,k,f,y,_⟩:=p;refine⟨a,[],c,x,b,rfl,k,by rw[f.len];simp[a6.len],λe=>(by cases e),λ_=>⟨rfl,?_⟩⟩;rintro rfl;exact y (aw.yS f)
variable{j B b7:ύ}
theorem a3L{a:List (a6.T i)}(h:aw (bD g i) a j)(o:j≠[])(k:B.take e=j):∀b c d f,B≠[.J b c,.J d f]:=by
 rintro b c d f rfl;cases j with
 |nil=>trivial
 |cons p j=>
  cases a with
  |nil=>trivial
  |cons r a=>
   obtain⟨x,_,_,rfl,_⟩:=bD.ptr h.1;cases e with
   |zero=>cases k
   |succ e=>grind
theorem aq.HD(b:aq g w 1 j s):∃a,View w s a (.J j .any)/\g.sub a:=by grind[View.dq,ki,Λ]
theorem bD.rows{a:U}{b:a6.T 0}{c:Nat}{d f:ύ}{h k:Own}(o:bD a 0 b (.ptr c 0))(p:a c=γ (.cells [.J d h,.J f k])):aw isRow (a6.rows b) d:=by obtain⟨_,_,_,_,r,x,y⟩:=o;simp_all
theorem bD.kids{b:U}{a:Nat}{c:a6.T (a+1)}{d:Nat}{h f:ύ}{k o:Own}(p:bD b (a+1) c (.ptr d 0))(r:b d=γ (.cells [.J h k,.J f o])):aw (bD b a) (a6.kids c) f:=by obtain⟨_,_,_,_,x,y,a,_⟩:=p;simp_all
variable{a7 h5 j1:Own}
def s3(a:ba 1 j)(b:flat j=j):c8 g 1 (.J j a7)=γ (β j,j):=by have:=(kp.J (o:=a7) a).src g ι;rwa[b]at this
def wb(h:aq w g 1 j (.ar e t I 1))(a:j[i]?=γ s):cU 1 (.ar e t I 1) (.v (.int .i64 (i:Int)))=γ (.ptr e i)/\∃b,g.read e=γ b/\r1 κ 1 i (γ b)=γ s:=by have x:=(a7B.1 a).1;obtain⟨y,z,C,b,c,D,k,o,d,p,E,F⟩:=h.ar (by rintro rfl;simp at a);simp only[R.ar.injEq,and_true]at c;obtain⟨rfl,rfl,rfl⟩:=c;rw[a8m]at o d p;have f:=iL (e:=1) (i:=e) (t:=t) (I:=I) (e4:=.i64) (N:=(i)) ε ε;rw[a8a,a8m]at f;refine⟨f,b,μ k,?_⟩;rw[<-d,a8y ε]at a;obtain⟨r,rfl⟩:=a7B.1 a;rw[CX ε,a8g r];rfl
theorem a3M{a:List (a6.T i)}{b:a6.T i}(o:e<β a)(h:2<=β a)(k:¬2<=a6.len b):
  ∃d f,(a.set e b)[e - 1]?=γ d/\(a.set e b)[e - 1+1]?=γ f/\a6.lX a e b=(a.set e b).take (e - 1)++a6.lg d f++(a.set e b).drop (e - 1+2):=by
 rw[a6.lX,if_neg k];by_cases c:e=0
 .subst c;refine⟨b,a[1],abp ε,σ,?_⟩;rw[if_pos rfl,Τ h,abG ε];rfl
 .refine⟨a[e - 1],b,by grind,by grind,?_⟩;rw[if_neg c,Τ ε,abG ε,List.take_set_of_le ε];simp[c]
set_option maxHeartbeats 1000000 in
theorem a3N(l0:1<=e)(Q:e<=8)(p:Ω)(l1:Own)(X:bJ e p):∀(a:Nat)(F:a6.T a)(z:R)(o:U),bD o a F z->GT e a F->
  AC δ 74 [z,.J (ab p) l1] o λA c=>o.sub c/\bD c a (a6.cQ bE p a F) A:=by
 have b48:=X.len;intro a
 induction a with
 |zero=>intro F z o u l;exact a3K p l1 F z o u l Q
 |succ a ih=>
 intro F z o u l;obtain⟨f,rfl⟩:=a6.hf F;have m:=l.kids l0 Q X;have l2:=FR f z p l1 o u ε λb G=>by
  obtain⟨v,_,b49,a92⟩:=m.hE b G;have:=v.ev;have:=a92.len;grind
 obtain⟨b50,l3,b51,b52,rfl,Y,h,_,_⟩:=u;rw[a6.fE]at h;have b53:=h.len;obtain⟨a94,b54⟩:=m.two;obtain⟨b,G⟩:=m.at_;have Z:a6.cQ bE p (a+1) (a6.node f)=a6.node (a6.lX f (a6.da bE p (f.map (a6.cW a))) (a6.cQ bE p a b)):=by simp only[a6.cQ,a6.fE];rw[G]
 obtain⟨_,_,a95,a96⟩:=a6.qf (gQ l0 Q) X (a+1) (a6.node f) l.wf l.dC l.ok;rw[Z,a6.eh,a6.eh]at a95;rw[Z,a6.eh]at a96;rw[Z];rw[m.FT]at l2;clear Z;generalize a6.da bE p (f.map (a6.cW a))=k at*;have a29:=(a7B.1 G).1;obtain⟨v,a97,_,_⟩:=m.hE b (a7C G);obtain⟨_,_,a98,a99⟩:=a6.qf (gQ l0 Q) X a b v.wf v.dC v.ok;have a30:=λz o u=>ih b z o u v;have b00:=λb G=>(a6.hB.1 (m.hE b G).2.1).2.1;have b01:=(a6.hB.1 a97).1;have l4:=a3M (b:=a6.cQ bE p a b) a29 a94;have l5:2<=a6.len (a6.cQ bE p a b)->a6.lX f k (a6.cQ bE p a b)=f.set k (a6.cQ bE p a b):=λa=>by rw[a6.lX,if_pos a]
 clear m l;generalize a6.lX f k (a6.cQ bE p a b)=l6 at*;generalize a6.cQ bE p a b=B at*;refine AC.view (u:=λA c=>∃d r y C L,A=.ptr d 0/\o d=η/\o r=η/\d≠r/\c d=γ (.cells [.J [] .nil,.ar r y C 1])/\(∃D,c r=γ (.cells D)/\y<=β D/\D.take y=L)/\aw (bD c a) l6 L/\o.sub c) ?_ ?_;rotate_left
 .rintro A c⟨d,r,y,C,L,rfl,E,b02,b03,k2,⟨D,W,b55,b04⟩,b05,b06⟩;have b56:L≠[]:=by rintro rfl;grind[aw.yS]
  refine⟨_,_,View.obj (B:=[.J [] .nil]) k2 W ε b03,?_,d,_,.any,.nil,rfl,ξ _ _ _,?_,?_,by rw[a6.fE];omega⟩
  .intro n a34 H;have b07:n≠d:=by rintro rfl;rw[E]at H;cases H
   have a36:n≠r:=by rintro rfl;rw[b02]at H;cases H
   rw[ο _ _ b07,ο _ _ a36];exact b06 _ _ H
  .rw[a6.fE,ki,b04];refine b05.mono λ_ _=>bD.wa λI b08 b09 b10 a34 K=>?_;have k3:I≠d:=by rintro rfl;rw[k2]at K;simp at K
   have l7:I≠r:=by rintro rfl;grind[a3L,bq.cells.inj,Option.some.inj]
   rw[ο _ _ k3,ο _ _ l7];exact K
  grind[a6.fE]
 have b11:=μ Y;have b57:¬(β f:Int)=0:=ε;have l8:=bD.c h;refine aM hm CC ?_;refine cl l2 ?_;rintro _ a38⟨M,rfl⟩;have b12:=rd M Y;have l9:=h.mono λ_ _=>bD.mono M;refine uP (s3 l8 (qt h)) λb58 b13 N=>?_;obtain⟨g,y,C,b59,rfl,a36,a42,b14,b15,b16,b60,b61⟩:=aq.ar N (by grind);obtain rfl:y=β f:=ε;have a43:=N.1;have b17:=rd (π M a43) Y;obtain⟨_,a47,n0⟩:=l9.get G;obtain⟨b18,_,_,rfl,_⟩:=n0.ptr;refine cl (a30 _ b13 (bD.mono a43 n0)) ?_;rintro A n2⟨n3,n4⟩;obtain⟨i,_,_,rfl,_⟩:=n4.ptr;obtain⟨n5,a48,a52,-,x⟩:=aq.put (a:=.ptr i 0) (by rw[qt l9];exact N.mono n3) ε l8 a47 rfl;have b19:=(wb (N.mono n3) a47).1;have b20:=ω a48;rw[a8m]at x a52;have aD:n5.take (β f)=l3:=by have I:=n3 _ _ a42;simp_all
 obtain⟨P,n9⟩:∃P,n2.set g (.cells (putAt n5 k [.ptr i 0]))=P:=⟨_,rfl⟩;have a56:Ay n2 P:=λI b08 b09 b10 a34 K=>by
  have l7:I≠g:=by grind
  rw[<-n9,ο _ _ l7];exact K
 change aq a38 (n2.set g (.cells (putAt n5 k [.ptr i 0]))) 1 _ _ at x;rw[n9]at x;have S:=aw.set k (l9.mono λ_ _ k2=>bD.mono x.1 k2) (bD.wa a56 n4);rw[qt S]at x;have b21:=S.len;rw[aah,aah]at b21;have a57:(l3.set k (.ptr i 0))[k]?=γ (.ptr i 0):=abp ε;have a61:(f.set k B)[k]?=γ B:=by simp[a29]
 clear aD a56 n4 h l8 b11 b12 b17 a42 b14 b15 b16 N;generalize b62:f.set k B=a62 at*;generalize l3.set k (.ptr i 0)=a63 at*;have b63:β a62=β f:=by grind
 have a65:=π M x.1;have a00:∀b∈a62,a6.len b<=4:=λb G=>by
  grind
 obtain⟨b64,b22,b23⟩:=(wb x a57).2;obtain⟨b24,c3,b25,a68,a01,a69,a71,b26,_,_⟩:=(S.get a61|>.elim λz a=>by simp_all:bD P a B (.ptr i 0)).shape;obtain rfl:i=b24:=by simpa using a69
 clear a69 a30 ih l2;have b27:=μ a71;have a73:∀(a02 c)(L)(q)(d),o.sub a02->aq a02 c 1 L q->aw (bD c a) l6 L->c d=η->
   ∃k4 r y C a74,R.ptr d 0=.ptr k4 0/\o k4=η/\o r=η/\k4≠r/\(c.set d (.cells [.J [] .nil,q])) k4=γ (.cells [.J [] .nil,.ar r y C 1])/\(∃D,(c.set d (.cells [.J [] .nil,q])) r=γ (.cells D)/\y<=β D/\D.take y=a74)/\aw (bD (c.set d (.cells [.J [] .nil,q])) a) l6 a74/\o.sub (c.set d (.cells [.J [] .nil,q])):=λa02 c L q d a03 a04 h E=>by
  have a05:=ν (b0:=.cells [.J [] .nil,q]) ι E;obtain⟨r,y,C,D,rfl,a06,a81,b65,b66,b67,b68,_⟩:=a04.ar (λs=>by grind[aw.yS]);exact⟨d,r,y,C,L,rfl,Ν (π a03 a04.1) E,Ν a03 a06,(λs=>by rw[s,a81]at E;cases E),ξ _ _ _,⟨D,a05 _ _ a81,ε,by simp_all⟩,h.mono λ_ _ a=>bD.mono a05 a,π a03 (π a04.1 a05)⟩
 by_cases c2:2<=a6.len B
 .have aD:(1)<(β c3)+(β a68:Int):=ε;obtain rfl:=l5 c2;clear l5 l4;have b28:=eG x;refine aa ?_;refine bg λd E=>?_;exact⟨_,ι,a73 a38 P a63 _ d M x S E⟩
 obtain⟨a83,a84,a07,k5,rfl⟩:=l4 c2;have aD:¬(1)<(β c3)+(β a68:Int):=ε;clear l5 c2 l4;refine aa ?_;clear aD a71 b26 b27 b23 b22 a57 a61 b19 b20 a48 a52;refine nT [0,7,8] (λ_:Unit=>[(9,.v (.int .i64 ((k - 1:Nat))))]) (λ_ c=>c=P) (λb=>?_) (λb=>?_) ?_
 .have b:=of_decide_eq_true b;have s:((k - 1:Nat):Int)=0:=ε;exact aK
 .have b:=of_decide_eq_false b;have s:(k) - 1=((k - 1:Nat):Int):=ε;exact aK
 clear n9;rintro _ P rfl b29;generalize k - 1=j at*;have b69:=(a7B.1 k5).1;have b70:=a00 _ (a7C a07);have b71:=a00 _ (a7C k5);obtain⟨_,b30,a08⟩:=S.get a07;obtain⟨_,b31,a09⟩:=S.get k5;obtain⟨b72,b73,b74,b75,b76,rfl,w,b77,_,_⟩:=a08.shape;obtain⟨r,b78,b79,ct,b80,rfl,W,b81,_,_⟩:=a09.shape;obtain⟨b32,b82,b83,b84,b85,s,b33,_,b34,b35⟩:=(bD.mono x.1 n0).shape;obtain rfl:b18=b32:=by simpa using s
 obtain⟨b86,b87,b36,b88⟩:=wb x b30;obtain⟨a86,b89,a10,b90⟩:=wb x b31;have a86:cU 1 (.ar g (β f) C 1) (.v (.int .i64 ((j)+1)))=γ (.ptr g (j+1)):=a86;have b91:=μ b33;have b92:=rd a65 Y;rw[b36]at a10;obtain rfl:=Δ a10;clear s a10 a00 a98 a99 b00 b01 a07 k5;refine aa ?_;refine nT [8,9] (λn:ύ×Own=>[(12,.J n.1 n.2)]) (λn c=>P.sub c/\aw (bD c a) (a6.lg a83 a84) n.1) (λdz=>?_) (λdz=>?_) ?_
 .have dz:=of_decide_eq_true dz;cases a with
  |succ a=>exact absurd (a7y ε) (b35 ε).2
  |zero=>have h:=a08.rows w;have T:=a09.rows W;have b37:=h.len;have b38:=T.len;have a11:=μ w;have a13:=μ W;refine uP (s3 (iZ h) (o2 h)) λa5 b39 t=>?_;have a11:=rd t.1 w;have a13:=rd t.1 W;refine rh t (s3 (iZ T) (o2 T)) λdQ b40 a14=>?_;obtain⟨a15,a16,k6⟩:=aq.HD a14;refine cl (AC.o4 (j:=[]) a16 (FL _ _ .any a15 (h.append T) (by rw[Ρ];omega))) ?_;rintro _ a18⟨a19,k7,k8,rfl,V⟩;refine aa ?_;exact⟨(k7,k8),⟨π k6 a19,V⟩,rfl⟩
 .have dz:=of_decide_eq_false dz;cases a with
  |zero=>exact absurd (by rw[b34 rfl];rfl) dz
  |succ a=>have h:=a08.kids w;have T:=a09.kids W;have b37:=h.len;have b38:=T.len;have a11:=μ w;have a13:=μ W;refine uP (s3 (bD.c h) (qt h)) λa5 b39 t=>?_;have a11:=rd t.1 w;have a13:=rd t.1 W;refine rh t (s3 (bD.c T) (qt T)) λdQ b40 a14=>?_;obtain⟨a15,a16,k6⟩:=aq.HD a14;refine cl (AC.o4 (j:=[]) a16 (z7 P _ _ .any a15 (h.append T) (by rw[Ρ];omega) k6)) ?_;rintro _ a18⟨a19,k7,k8,rfl,V⟩;refine aa ?_;exact⟨(k7,k8),⟨π k6 a19,V⟩,rfl⟩
 rintro⟨k7,k8⟩ a18 ⟨a27,V⟩ b29
 dsimp only at V|-
 have b93:=V.len;have b94:(a6.lg a83 a84).length<=4:=by grind
 have a88:=x.mono a27;have b41:=S.len;have b25:=hQ (e:=1) (I:=g) (b3:=β f) (i:=C) (t:=j) (e4:=.i64) ε;obtain⟨b95,b96,b42,_⟩:=(a88.first (i:=j) ε).src;obtain⟨_,_,_,b97,k3,_,b43,b98,b44,_,_,_⟩:=a88.ar (by rintro rfl;simp at b41;omega);simp only[R.ar.injEq,and_true]at k3;obtain⟨rfl,rfl,rfl⟩:=k3;refine uP b42 (λb99 c00 b45=>?_) (r:=by rw[a7z];omega);refine rh b45 (s3 (bD.c V) (qt V)) (λc01 b46 a89=>?_) (x:=by rw[a7z];omega);obtain⟨a06,a01,_,k9⟩:=p0 (i:=1) (b3:=g) (t:=β f) (e:=j+2) (e4:=.i64) ε ε;have k9:=k9 b46 _ a63 (a89.1 _ _ b43) ε b44;rw[a8m]at k9;have a01:cc 1 (.ar g (β f) C 1) (γ (.v (.int .i64 ((j)+2)))) η η=γ a06:=a01;refine rh a89 k9 (λc02 b47 O=>?_) (r:=by rw[a7F];omega) (x:=by grind);have b28:=eG O;have a90:=λ{F:a6.T a}{z:R}=>bD.mono (t:=F) (a:=z) (π a27 O.1);refine aa ?_;refine bg λd E=>?_;rw[a8m]at O;exact⟨_,ι,a73 a18 b47 _ _ d (π a65 a27) O ((((S.take j).mono λ_ _ a=>a90 a).append (V.mono λ_ _ a=>bD.mono O.1 a)).append ((S.drop (j+2)).mono λ_ _ a=>a90 a)) E⟩
variable{Q:List Ω}
def Az:(fQ 0 (a6.leaf Q)).rows.map Α=Q:=by rw[FW];show(Q.map λa=>(a,ζ)).map Α=Q;rw[a9v];exact List.map_id' Q
def HE:(fQ 0 (a6.leaf Q)).kind=2:=rfl
def HF{a:a6.T (e+1)}:¬(fQ (e+1) a).kind=2:=by show¬(3)=2;decide
def HG(c:1<=i)(d:i<=8){a:List (a6.T e)}(f:gg i (e+1) (a6.node a))(b:Ω):hU b (fQ (e+1) (a6.node a))=a6.da bE b (a.map (a6.cW e)):=by unfold hU;rw[tI];congr 1;show(a.map (cj e)).map (·.key)= _;rw[a9v];exact a8I λh k=>a1O c d (f.hE h k).1
def HH{a:List (a6.T e)}:(fQ (e+1) (a6.node a)).kids[i]?=a[i]?.map (cj e):=by rw[tI];show(a.map (cj e))[i]?= _;simp
variable{n b5:Ω}
theorem HI(p:1<=i)(r:i<=8){a:List (a6.T e)}(c:GT i (e+1) (a6.node a))(x:bJ i n){b:a6.T e}(d:a[a6.da bE n (a.map (a6.cW e))]?=γ b):n∈a6.bb (e+1) (a6.node a)↔n∈a6.bb e b:=by obtain⟨f,C,y,D⟩:=c.wf;rw[a6.eh]at f;have E:∀b∈a,a6.WF e b:=y;have h:=c.dC;have k:=c.ok;rw[a6.gd]at h k|-;obtain⟨F,o,G,L⟩:=a6.vu (gQ p r) x (by intro z;subst z;simp at f) (λb d=>by grind[a6.hB]) h k;rw[d]at o;obtain rfl:=Δ o;have P:=a6.rF d;grind[a6.da,bE,a6.cW,tH]
theorem HJ{C:Nat}(o:1<=C)(p:C<=8){c:Ω}(y:bJ C c):∀(a:Nat)(x:a6.T a)(z:af)(E:Nat),GT C a x->gD z a x->a<E->c∉a6.bb a x->Laid z a (a6.fo bE c a x) (gO C c E z (cj a x))
 |0,x,z,E+1,f,F,_,e=>by
  obtain⟨G,rfl⟩:=a6.iU x;obtain⟨s,t,_⟩:=f.wf;rw[a6.jG]at s t;have P:=f.ok;have g:(fQ 0 (a6.leaf G)).rows.map Α=G:=Az;rw[gO,rJ o p f.ks F];simp only;rw[if_pos HE,g,zl (Q:=G) o p f.dC P y,decide_eq_false (p:=c∈G) e,if_neg Μ,a1R (Q:=G) o p f.dC P y];exact FY o p z (a6.eb bE G c) (by rw[a6.oY];omega) (by rw[a6.oY];omega) λD h=>by
   rcases a6.tD.1 h with rfl|h
   .exact y
   .exact P D h
 |a+1,x,z,E+1,f,F,H,e=>by
  obtain⟨b,rfl⟩:=a6.hf x;have i:=f.kids o p y;obtain⟨d,L⟩:=i.at_;have j:=a7C L;have l:c∉a6.bb a d:=λr=>e ((HI o p f y L).2 r);obtain⟨I,K⟩:=i.two;have S:=(i.hE d j).1;obtain⟨u,M,N,O⟩:=a6.rG (gQ o p) y a d S.wf S.dC S.ok l;have ih:=HJ o p y a d z E S (F.2 d j) ε l;rw[gO,rJ o p f.ks F];simp only;rw[if_neg HF,HG o p f.ks,HH,L];simp only[a8z];have m:a6.fo bE c (a+1) (a6.node b)=(a6.chunks (b.take (a6.da bE c (b.map (a6.cW a)))++a6.fo bE c a d++b.drop (a6.da bE c (b.map (a6.cW a))+1))).map a6.node:=by simp only[a6.fo,a6.fE];rw[L]
  rw[m];clear m;have Q:=(a7B.1 L).1;have X:=a6.rF L;generalize a6.da bE c (b.map (a6.cW a))=k at*;generalize gO C c E z (cj a d)=D at*;obtain⟨Y,v⟩:=D;obtain⟨n,T,q⟩:=ih;simp only at n T q;subst n;simp only;have g:(fQ (a+1) (a6.node b)).kids.take k++((a6.fo bE c a d).map (cj a)++(fQ (a+1) (a6.node b)).kids.drop (k+1))=(b.take k++a6.fo bE c a d++b.drop (k+1)).map (cj a):=by rw[tI];show(b.map (cj a)).take k++(_++(b.map (cj a)).drop (k+1))= _;simp
  rw[g];have w:∀D∈(b.take k++a6.fo bE c a d++b.drop (k+1)).flatMap (a6.bb a),bJ C D:=λD h=>by
   rw[a8A,a8A,u,Ψ,Ψ]at h;have P:=f.ok;rw[a6.gd]at P;rcases h with (h|h)|h;grind
   .rcases a6.tD.1 h with rfl|h
    .exact y
    .exact S.ok D h
   grind
  have A:((b.take k++a6.fo bE c a d++b.drop (k+1)).flatMap (a6.bb a)).length=(a6.bb (a+1) (a6.node b)).length+1:=by grind[a6.gd,Ζ,a6.oY]
  have Z:=f.ev;have k2:∀d∈b,a6.WF a d:=f.wf.2.2.1;have:=zi o p v (b.take k++a6.fo bE c a d++b.drop (k+1)) (by grind) (by grind) (λV r=>by
   grind) w (by rw[A];omega) (λk3 W B V r=>by
   simp only[Ψ]at r;rcases r with (r|r)|r
   .exact(F.2 V (a7J r)).mono (T.trans W)
   .exact(q (W.zero B) V r).mono W
   .exact(F.2 V (a7U r)).mono (T.trans W))
  exact⟨this.ok,T.trans this.le,this.ins⟩
def gn:eT->aj
 |none=>aG
 |some ⟨a,b⟩=>cj a b
def jT(a:af):eT->Prop
 |none=>True
 |some ⟨b,c⟩=>gD a b c
def jT.mono{a b:af}(c:a.le b){t:eT}(d:jT a t):jT b t:=by
 match t with
 |none=>trivial
 |some ⟨_,_⟩=>exact gD.mono c d
structure qu(a:af)(t:eT)(r:Except Int aj×af):Prop where
 ok:r.1=.ok (gn t)
 le:a.le r.2
 ins:r.2.one=κ->jT r.2 t
variable{H:af}
def a3O(E:1<=i)(F:i<=8){p:af}{a:List (a6.T e)}(G:1<=β a)(L:β a<=2)(h:Laid p e a (.ok (a.map (cj e)),H))(P:∀b∈a,a6.WF e b)(S:∀k∈a.flatMap (a6.bb e),bJ i k)(T:(a.flatMap (a6.bb e)).length<=1048576):
  qu p (qg a) (iW i ((a.map (cj e)).length+1) H (a.map (cj e))):=by
 match a,G,L with
 |[b],_,_=>
  have o:iW i (([b].map (cj e)).length+1) H ([b].map (cj e))=(.ok (cj e b),H):=by rw[iW];rfl
  rw[o];exact⟨rfl,h.le,λc=>h.ins c b σ⟩
 |[d,f],_,_=>
  have r:=zi E F H [d,f] σ σ P S T (λg x c V W=>(h.ins (x.zero c) V W).mono x);rw[a6.qb σ σ]at r;rw[iW,if_pos σ];generalize ko H i ([d,f].map (cj e))=k at*;obtain⟨j,y⟩:=k;obtain⟨z,C,D⟩:=r;simp only at z C D;subst z;simp only;have o:iW i (([d,f].map (cj e)).length) y (([[d,f]].map a6.node).map (cj (e+1)))=(.ok (cj (e+1) (a6.node [d,f])),y):=by rfl
  rw[o];exact⟨rfl,h.le.trans C,λc=>D c _ σ⟩
variable{e1:eT}
def a3P(c:1<=e)(d:e<=8)(f:bJ e n)(C:jb e e1)(D:jT H e1)(E:n∉eN e1):qu H (ln e1 n) (jJ e n H (gn e1)):=by
 match e1 with
 |none=>have F:=vz c d (Q:=[n]) σ σ (by simpa using f);unfold jJ;show qu H _ (if aG=aG then _ else _);rw[if_pos rfl,rI F.p3];exact⟨rfl,lZ _ _,λG=>rH G⟩
 |some ⟨a,e1⟩=>
  have b:GT e a e1:=C;have k:n∉a6.bb a e1:=E;have x:=tJ c d b.ks;have g:=gg.high a e1 b.ks;have i:=x.size;have j:=b.ev;have L:=HJ c d f a e1 H ((cj a e1).size.toNat+1) b D ε k;obtain⟨y,P,S,T⟩:=a6.rG (gQ c d) f a e1 b.wf b.dC b.ok k;have o:ln (γ ⟨a,e1⟩) n=qg (a6.fo bE n a e1):=by simp only[ln];rw[if_neg k]
  rw[o];unfold jJ;show qu H _ (if cj a e1=aG then _ else(match gO e n ((cj a e1).size.toNat+1) H (cj a e1)with|(.error o,p)=>(.error o,p)|(.ok bF,p)=>iW e (β bF+1) p bF));rw[if_neg x.ne];generalize gO e n ((cj a e1).size.toNat+1) H (cj a e1)=r at*;obtain⟨l,m⟩:=r;obtain⟨z,V,W⟩:=L;simp only at z;subst z;simp only;refine a3O c d S T ⟨rfl,V,W⟩ P (λr h=>?_) (by rw[y,a6.oY];omega);rw[y]at h;rcases a6.tD.1 h with rfl|h
  .exact f
  .exact b.ok r h
theorem a3Q(x:1<=e)(y:e<=8)(d:bJ e n)(L:jb e e1)(P:(eN e1).length<1000):jb e (ln e1 n)/\(eN (ln e1 n)).length<=(eN e1).length+1:=by
 match e1 with
 |none=>
  refine⟨⟨⟨?_,?_,trivial,λa=>by omega⟩,?_,?_,?_⟩,?_⟩
  .simp[a6.jG]
  .simp[a6.jG]
  .rw[a6.km];simp
  .rw[a6.km];simpa using d
  .rw[a6.km];simp
  .show(a6.bb 0 (a6.leaf [n])).length<= _;rw[a6.km];simp
 |some ⟨a,e1⟩=>
  have c:GT e a e1:=L;have V:(a6.bb a e1).length<1000:=P;simp only[ln];by_cases h:n∈a6.bb a e1;simp_all;rw[if_neg h];obtain⟨k,f,S,T⟩:=a6.rG (gQ x y) d a e1 c.wf c.dC c.ok h;have z:=a6.a0K (gQ x y) c.dC c.ok d h;have C:∀o∈a6.eb bE (a6.bb a e1) n,bJ e o:=λo p=>by
   rcases a6.tD.1 p with rfl|p
   .exact d
   .exact c.ok o p
  have W:=a6.oY (lt:=bE) (j5:=a6.bb a e1) (h9:=n);generalize a6.eb bE (a6.bb a e1) n=D at*
  match E:a6.fo bE n a e1,S,T with
  |[r],_,_=>
   rw[E]at k f;have b:a6.bb a r=D:=by rw[<-k];simp
   refine⟨⟨a6.kn.of (f r σ),by rw[b];exact z,by rw[b];exact C,by rw[b];omega⟩,?_⟩;show(a6.bb a r).length<=(a6.bb a e1).length+1;rw[b];omega
  |[F,G],_,_=>
   rw[E]at k f;have b:a6.bb (a+1) (a6.node [F,G])=D:=by trivial
   refine⟨⟨⟨by rw[a6.eh];simp,by rw[a6.eh];simp,f,λ_=>by rw[a6.eh];simp⟩,by rw[b];exact z,by rw[b];exact C,by rw[b];omega⟩,?_⟩;show(a6.bb (a+1) (a6.node [F,G])).length<=(a6.bb a e1).length+1;rw[b];omega
def fH:(a:Nat)->a6.T a->ix
 |0,b=>⟨ζ,a6.rows b,[]⟩
 |a+1,b=>⟨κ,[],(a6.kids b).map (cj a)⟩
def pk(b:af):(a:Nat)->a6.T a->Prop
 |0,_=>True
 |a+1,c=>∀d∈a6.kids c,gD b a d
def pk.mono{b c:af}(f:b.le c):∀ {a:Nat}{d:a6.T a},pk b a d->pk c a d
 |0,_,_=>trivial
 |_+1,_,a=>λh k=>gD.mono f (a h k)
def gD.p:∀ {a:Nat}{b:a6.T a},gD H a b->pk H a b
 |0,_,_=>trivial
 |_+1,_,a=>a.2
def a3R:∀ {b:Nat}{a:a6.T b},(fH b a).rows.length+(fH b a).kids.length=a6.len a
 |0,a=>rfl
 |b+1,a=>by show 0+((a6.kids a).map (cj b)).length= _;rw[a7Q,a7X];rfl
def HK:∀ {b:Nat}{a:a6.T b},hD (fQ b a)=fH b a
 |0,a=>by
  obtain⟨c,rfl⟩:=a6.iU a;unfold hD;rw[Az];rfl
 |b+1,a=>rfl
def AA:∀ {a:Nat}{b:a6.T a},mW H e (fH a b).leaf (fH a b).rows (fH a b).kids=dL H e (fQ a b)
 |0,b=>rfl
 |a+1,b=>rfl
theorem HL(z:1<=e)(C:e<=8)(h:af):∀ {c:Nat} (a b:a6.T c),a6.lW c a->a6.lW c b->2<=a6.len a+a6.len b->a6.len a+a6.len b<=5->(∀d∈a6.bb c a,bJ e d)->(∀d∈a6.bb c b,bJ e d)->
  (a6.bb c a).length+(a6.bb c b).length<=1048576->(∀f,h.le f->f.one=κ->pk f c a/\pk f c b)->Laid h c (a6.lg a b) (lj h e (fH c a) (fH c b))
 |0,a,b,_,_,o,p,r,x,_,_=>by
  obtain⟨a,rfl⟩:=a6.iU a;obtain⟨b,rfl⟩:=a6.iU b;rw[a6.jG,a6.jG]at o p;exact FY z C h (a++b) (by rw[Ρ];omega) (by rw[Ρ];omega) λd D=>(Ψ.1 D).elim (r d) (x d)
 |c+1,a,b,bQ,bW,o,p,r,x,E,F=>by
  obtain⟨a,rfl⟩:=a6.hf a;obtain⟨b,rfl⟩:=a6.hf b;rw[a6.eh,a6.eh]at o p;rw[a6.gd]at r x E;rw[a6.gd]at E;have:=zi z C h (a++b) (by rw[Ρ];omega) (by rw[Ρ];omega) (λk y=>(Ψ.1 y).elim (bQ k) (bW k)) (λd D=>by
   grind) (by simp_all) (λf G L k y=>(Ψ.1 y).elim ((F f G L).1 k) ((F f G L).2 k))
  rw[a8r]at this;exact this
theorem a3S(z:1<=i)(C:i<=8)(k:af){d:List (a6.T e)}{c:a6.T e}(m:t<β d)(B:2<=β d)(y:∀b∈d,gg i e b/\a6.WF e b/\gD k e b)(H:1<=a6.len c)(n:a6.len c<=4)(S:a6.lW e c)
  (T:∀D∈a6.bb e c,bJ i D) (q:∀b∈d,(a6.bb e b).length+(a6.bb e c).length<=1048576) (V:∀p,k.le p->p.one=κ->pk p e c):Laid k e (a6.lX d t c) (kq k i (d.map (cj e)) t (fH e c)):=by
 unfold kq a6.lX;rw[a3R];have s:(a6.bb e c).length<=1048576:=by have:=q _ (a8b m);omega
 by_cases E:2<=a6.len c
 .rw[if_pos E,if_pos E,AA];have u:=a6.hB.2 ⟨E,n,S⟩;have v:=(p4 z C e c (FX u T s)).1;rw[rI v.p3];simp only;refine⟨?_,lZ _ _,λh b a=>?_⟩
  .rw[<-vy,List.map_set]
  .rcases a9J a with a|rfl
   .exact(y b a).2.2.mono (lZ _ _)
   .have P:=rH h;have W:=V _ (lZ k (dX (fQ e b))) h
    match e,b,P,W with
    |0,b,P,W=>exact P
    |e+1,b,P,W=>trivial
 .rw[if_neg E,if_neg E];have I:a6.len c=1:=ε;by_cases l:t=0
  .subst l;simp only[if_true];have r:d[1]?=γ d[1]:=Τ ε;rw[a7Z,r];generalize d[1]=x at r;have f:=y x (a7C r);have g:=a6.hB.1 f.2.1;simp only[a8z];rw[rJ z C f.1 f.2.2];simp only;rw[HK];have j:=HL z C k c x S g.2.2 ε ε T f.1.ok (by grind) (λp F h=>⟨V p F h,(f.2.2.mono F).p⟩);generalize lj k i (fH e c) (fH e x)=D at*;obtain⟨w,A⟩:=D;obtain⟨G,o,L⟩:=j;simp only at G o L;subst G;simp only;refine⟨σ,o,λh b a=>?_⟩;simp only[Ψ]at a;rcases a with (a|a)|a;simp_all
   .exact L h b a
   .exact(y b (a7U a)).2.2.mono o
  .simp only[if_neg l];have r:d[t - 1]?=γ d[t - 1]:=Τ ε;rw[a7Z,r];generalize d[t - 1]=x at r;have f:=y x (a7C r);have g:=a6.hB.1 f.2.1;simp only[a8z];rw[rJ z C f.1 f.2.2];simp only;rw[HK];have j:=HL z C k x c g.2.2 S ε ε f.1.ok T (by grind) (λp F h=>⟨(f.2.2.mono F).p,V p F h⟩);generalize lj k i (fH e x) (fH e c)=D at*;obtain⟨w,A⟩:=D;obtain⟨G,o,L⟩:=j;simp only at G o L;subst G;simp only;refine⟨σ,o,λh b a=>?_⟩;simp only[Ψ]at a;rcases a with (a|a)|a
   .exact(y b (a7J a)).2.2.mono o
   .exact L h b a
   .exact(y b (a7U a)).2.2.mono o
structure a3T(a:af)(h:Nat)(t:a6.T h)(r:Except Int ix×af):Prop where
 ok:r.1=.ok (fH h t)
 le:a.le r.2
 ins:r.2.one=κ->pk r.2 h t
theorem HM{o:Nat}(c:1<=o)(d:o<=8){b:Ω}(x:bJ o b):∀(a:Nat)(h:a6.T a)(p:af)(y:Nat),GT o a h->gD p a h->a<y->b∈a6.bb a h->a3T p a (a6.cQ bE b a h) (iy o b y p (cj a h))
 |0,h,p,y+1,f,D,_,S=>by
  obtain⟨E,rfl⟩:=a6.iU h;have T:(fQ 0 (a6.leaf E)).rows.map Α=E:=Az;rw[iy,rJ c d f.ks D];simp only;rw[if_pos HE,T,zl (Q:=E) c d f.dC f.ok x,decide_eq_true (p:=b∈E) S,if_pos rfl,a1S (Q:=E) c d f.dC f.ok x S];exact⟨rfl,Ε,λ_=>trivial⟩
 |a+1,h,p,y+1,f,D,O,S=>by
  obtain⟨r,rfl⟩:=a6.hf h;have z:=f.kids c d x;obtain⟨k,F⟩:=z.at_;have W:=a7C F;have t:=(HI c d f x F).1 S;obtain⟨u,Q⟩:=z.two;obtain⟨C,v,_,_⟩:=z.hE k W;have X:=a6.hB.1 v;obtain⟨w,A,Y,B⟩:=a6.qf (gQ c d) x a k C.wf C.dC C.ok;have ih:=HM c d x a k p y C (D.2 k W) ε t;rw[iy,rJ c d f.ks D];simp only;rw[if_neg HF,HG c d f.ks,HH,F];simp only[a8z];have e:a6.cQ bE b (a+1) (a6.node r)=a6.node (a6.lX r (a6.da bE b (r.map (a6.cW a))) (a6.cQ bE b a k)):=by simp only[a6.cQ,a6.fE];rw[F]
  rw[e];clear e;have H:=(a7B.1 F).1;generalize a6.da bE b (r.map (a6.cW a))=I at*;generalize iy o b y p (cj a k)=G at*;obtain⟨K,g⟩:=G;obtain⟨i,V,j⟩:=ih;simp only at i V j;subst i;simp only;have Z:=C.ev;have k2:(a6.bb a (a6.cQ bE b a k)).length<=1000:=by grind
  have M:=a3S c d g H u (λL P=>⟨(z.hE L P).1.ks,(z.hE L P).2.1,(D.2 L P).mono V⟩) ε B A (λG l=>by
   rw[w]at l;exact C.ok G (a9b.1 l).1) (λL P=>by have:=(z.hE L P).1.ev;omega) (λk3 m N=>(j (m.zero N)).mono m)
  have T:(fQ (a+1) (a6.node r)).kids=r.map (cj a):=rfl;rw[T];generalize kq g o (r.map (cj a)) I (fH a (a6.cQ bE b a k))=G at*;obtain⟨K,k4⟩:=G;obtain⟨n,q,s⟩:=M;simp only at n q s;subst n;simp only;exact⟨rfl,V.trans q,s⟩
def wc:(b:Nat)->a6.T b->eT
 |0,a=>if a6.len a=0 then η else γ ⟨0,a⟩
 |b+1,a=>match a6.kids a with
  |[c]=>γ ⟨b,c⟩
  |_=>γ ⟨b+1,a⟩
def jU(a:eT)(c:Ω):eT:=
 match a with
 |none=>η
 |some ⟨b,a⟩=>if c∈a6.bb b a then wc b (a6.cQ bE c b a)else γ ⟨b,a⟩
theorem a3U(z:1<=e)(C:e<=8)(j:bJ e n)(l:jb e e1)(m:jT H e1)(P:n∈eN e1):qu H (jU e1 n) (lY e n H (gn e1)):=by
 match e1 with
 |none=>cases P
 |some ⟨a,e1⟩=>
  have d:GT e a e1:=l;have S:n∈a6.bb a e1:=P;have T:=tJ z C d.ks;have f:=gg.high a e1 d.ks;have w:=T.size;have A:=d.ev;have B:=HM z C j a e1 H ((cj a e1).size.toNat+1) d m ε S;obtain⟨q,p,r,k⟩:=a6.qf (gQ z C) j a e1 d.wf d.dC d.ok;have s:jU (γ ⟨a,e1⟩) n=wc a (a6.cQ bE n a e1):=by simp only[jU];rw[if_pos S]
  have t:gn (γ ⟨a,e1⟩)=cj a e1:=rfl;rw[s];unfold lY;rw[t,if_neg T.ne];have o:∀D∈a6.bb a (a6.cQ bE n a e1),bJ e D:=λD u=>by
   rw[q]at u;exact d.ok D (a9b.1 u).1
  have y:(a6.bb a (a6.cQ bE n a e1)).length<=1000:=by grind
  have L:=d.wf;clear w T m s t l;generalize iy e n ((cj a e1).size.toNat+1) H (cj a e1)=D at*;generalize a6.cQ bE n a e1=b at*;obtain⟨K,M⟩:=D;obtain⟨v,E,h⟩:=B;simp only at v E h;subst v;simp only;clear P S d f A q
  match a,e1,b,p,r,k,o,y,h,L with
  |0,e1,b,p,r,k,o,y,h,L=>
   show qu H (if a6.len b=0 then η else γ ⟨0,b⟩) _;have V:¬((fH 0 b).leaf=κ/\(fH 0 b).kids.length=1):=λf=>absurd f.1 (show¬ζ=κ by decide);by_cases c:a6.len b=0
   .rw[if_pos c,if_pos (⟨rfl,c⟩)];exact⟨rfl,E,λ_=>trivial⟩
   .have W:¬((fH 0 b).leaf=ζ/\(fH 0 b).rows.length=0):=λf=>c f.2;rw[if_neg c,if_neg W,if_neg V,AA];have g:=(p4 z C 0 b ⟨⟨ε,k,trivial,λf=>by omega⟩,o,ε⟩).1;rw[rI g.p3];exact⟨rfl,E.trans (lZ _ _),λc=>rH c⟩
  |a+1,e1,b,p,r,k,o,y,h,L=>
   have N:=L.2.2.2 ε;have W:¬((fH (a+1) b).leaf=ζ/\(fH (a+1) b).rows.length=0):=λf=>absurd f.1 (show¬κ=ζ by decide);rw[if_neg W];obtain⟨x,rfl⟩:=a6.hf b;rw[a6.eh]at r k
   match x,r,k,p,o,y,h with
   |[],r,_,_,_,_,_=>simp at r;omega
   |[i],_,_,p,o,y,h=>rw[if_pos (⟨rfl,rfl⟩)];exact⟨rfl,E,λc=>h c i (by simp[a6.fE])⟩
   |F::G::x,_,k,p,o,y,h=>
    have V:¬((fH (a+1) (a6.node (F::G::x))).leaf=κ/\(fH (a+1) (a6.node (F::G::x))).kids.length=1):=λf=>by
     have:=f.2;rw[show(fH (a+1) (a6.node (F::G::x))).kids=(F::G::x).map (cj a)from rfl]at this;simp at this
    rw[if_neg V,AA];have g:=(p4 z C (a+1) (a6.node (F::G::x)) ⟨⟨by rw[a6.eh];simp,by rw[a6.eh];exact k,p,λ_=>by rw[a6.eh];simp⟩,o,ε⟩).1;rw[rI g.p3];exact⟨rfl,E.trans (lZ _ _),λc=>⟨rH c,λi I=>(h ((lZ _ _).zero c) i I).mono (lZ _ _)⟩⟩
theorem a3V(L:1<=e)(P:e<=8)(S:bJ e n)(E:jb e e1):jb e (jU e1 n)/\(eN (jU e1 n)).length<=(eN e1).length:=by
 match e1 with
 |none=>exact⟨trivial,Χ _⟩
 |some ⟨c,e1⟩=>
  have d:GT e c e1:=E;simp only[jU];by_cases F:n∈a6.bb c e1
  .rw[if_pos F];obtain⟨b,f,k,h⟩:=a6.qf (gQ L P) S c e1 d.wf d.dC d.ok;have i:=a9i (λa=>decide (a≠n)) (a6.bb c e1);have x:=d.dC.filter λa=>decide (a≠n);have y:∀z∈(a6.bb c e1).filter (λa=>decide (a≠n)),bJ e z:=λz T=>d.ok z (a9b.1 T).1;have j:=d.ev;have o:=d.wf;show jb e _/\ _<=(a6.bb c e1).length;generalize (a6.bb c e1).filter (λa=>decide (a≠n))=V at*;generalize a6.cQ bE n c e1=a at*;generalize (a6.bb c e1).length=p at*;clear F E d
   match c,a,e1,b,f,k,h,o with
   |0,a,e1,b,f,k,h,o=>
    show jb e (if a6.len a=0 then η else γ ⟨0,a⟩)/\(eN (if a6.len a=0 then η else γ ⟨0,a⟩)).length<=p;by_cases G:a6.len a=0
    .rw[if_pos G];exact⟨trivial,by simp[eN]⟩
    .rw[if_neg G];refine⟨⟨⟨ε,h,trivial,λl=>by omega⟩,by rw[b];exact x,by rw[b];exact y,by rw[b];omega⟩,?_⟩;show(a6.bb 0 a).length<=p;rw[b];omega
   |c+1,a,e1,b,f,k,h,o=>
    have m:=o.2.2.2 ε;obtain⟨C,rfl⟩:=a6.hf a;rw[a6.eh]at k h
    match C,k,h,f,b with
    |[],k,_,_,_=>simp at k;omega
    |[D],_,_,f,b=>
     have r:a6.bb c D=V:=by rw[<-b,a6.gd];simp
     refine⟨⟨a6.kn.of (f D (by simp[a6.fE])),by rw[r];exact x,by rw[r];exact y,by rw[r];omega⟩,?_⟩;show(a6.bb c D).length<=p;rw[r];omega
    |W::g::C,_,h,f,b=>refine⟨⟨⟨by rw[a6.eh];simp,by rw[a6.eh];exact h,f,λ_=>by rw[a6.eh];simp⟩,by rw[b];exact x,by rw[b];exact y,by rw[b];omega⟩,?_⟩;show(a6.bb (c+1) (a6.node (W::g::C))).length<=p;rw[b];omega
  simp_all
def a3W(q:1<=e)(s:e<=8)(b:Ω)(P:Own)(t:bJ e b)(a:eT)(k:R)(o:U)(z:gC o a k)(H:jb e a):
  AC δ 37 [k,.J (ab b) P] o λS u=>o.sub u/\∃v f,S=.aJ [v,.v (.bool f)]/\gC u (jU a b) v:=by
 have C:∀k f:R,aX κ 1 [k,f]=k:=λ_ _=>rfl;have D:∀k f:R,aX κ 1 ([k,f].drop 1)=f:=λ_ _=>rfl;refine bh hm Nj σ ?_
 match a with
 |none=>obtain rfl:=z;refine bU ?_;refine ak (a1D o) ?_;rintro _ o⟨rfl,rfl⟩;refine bU ?_;refine ak (za [] [] .nil P b o trivial σ σ) ?_;rintro _ _⟨rfl,rfl⟩;have I:decide (b∈([]))=false:=σ;refine an @I ?_;exact⟨_,ι,ι,_,_,rfl,rfl⟩
 |some ⟨c,a⟩=>
  obtain⟨f,k6,k7,rfl,k8⟩:=bD.ptr z;have p:GT e c a:=H;have k9:=p.ev;refine bU ?_;refine ak (z8 c a (.ptr f 0) o z ε) ?_;rintro _ l⟨T,K,M,rfl,N⟩;refine bU ?_;refine ak (za _ K M P b l N ε λS O=>by have:=(p.ok S O).len;omega) ?_;rintro _ l⟨rfl,rfl⟩;by_cases V:b∈a6.bb c a
  .refine an @V ?_;refine ak (a3N q s b P t c a (.ptr f 0) l (bD.mono T z) p) ?_;rintro S m⟨Q,y⟩;have X:jU (γ ⟨c,a⟩) b=wc c (a6.cQ bE b c a):=by simp only[jU];rw[if_pos V]
   rw[X];obtain⟨_,l0,l1,E⟩:=a6.qf (gQ q s) t c a p.wf p.dC p.ok;have l2:=p.wf;have W:=π T Q;generalize a6.cQ bE b c a=r at*;cases c with
   |zero=>
    obtain⟨Y,g,w,Z,rfl,h,d⟩:=id y;have F:=d.len;have l3:β g<=4:=by rw[F];exact E
    have G:(([]:ύ).length:Int)=0:=rfl;have x:¬((0:Int)=1):=ε;refine an (aZ (μ h) @C @D @G @x) ?_;by_cases A:(β g:Int)=0
    .have n:(0)+(β g:Int)=0:=ε;refine an (cr (μ h) @C @D @G @x @A @n) ?_;refine⟨_,ι,W,_,_,rfl,?_⟩;show gC m (if a6.len r=0 then η else γ ⟨0,r⟩) _;rw[if_pos (by show(a6.rows r).length=0;omega)];rfl
    .have n:¬((0)+(β g:Int)=0):=ε;refine an (cr (μ h) @C @D @G @x @A @n) ?_;refine⟨_,ι,W,_,_,rfl,?_⟩;show gC m (if a6.len r=0 then η else γ ⟨0,r⟩) _;rw[if_neg (by show¬(a6.rows r).length=0;omega)];exact y
   |succ c=>
    obtain⟨B,rfl⟩:=a6.hf r;obtain⟨Y,i,w,Z,rfl,h,d,j,_⟩:=id y;rw[a6.fE]at d j;have F:=d.len;rw[a6.eh]at E
    match B,i,d,j,F,h,y,E with
    |[],_,_,j,_,_,_,_=>exact absurd rfl j
    |[k2],[o5],d,_,_,h,_,_=>
     have l4:=d.1.cells;obtain⟨L,l5,l6,rfl,_⟩:=bD.ptr d.1;have k3:cU 1 (.J [.ptr L 0] w) (.v (.int .i64 0))=γ (.c4 [.ptr L 0]):=by rw[ir ε];rfl
     have k4:cO κ 1 m (.c4 [.ptr L 0])=γ (.ptr L 0):=rfl;have x:(([R.ptr L 0]).length)=1:=rfl;refine an (bt (μ h) @C @D @x @k3 @k4) ?_;refine⟨_,ι,W,_,_,rfl,?_⟩;exact d.1
    |k2::c2::B,i,d,_,F,h,y,E=>simp only[a7I]at F E;have x:¬((β i:Int)=1):=ε;have G:(([]:ύ).length)=0:=rfl;have k5:¬((β i:Int)+0=0):=ε;refine an (bt (μ h) @C @D @G @x @k5) ?_;refine⟨_,ι,W,_,_,rfl,?_⟩;exact y
  .refine an @V ?_;refine⟨_,ι,T,_,_,rfl,?_⟩;simp only[jU,if_neg V];exact bD.mono T z
structure aU where
 name:ϊ
 aH:List ϊ
 rows:List Ω
 bK:aF
 c9:eT
instance:Inhabited aU:=⟨⟨[],[],[],.nil,η⟩⟩
def aU.bu(a:aU):aT:=⟨a.name,a.aH,br a.bK,gn a.c9⟩
def bB(a:List aU)(b:ϊ):Nat:=a.findIdx λc=>decide (c.name=b)
def jV(a:List aU)(b:ϊ):Nat:=(a.takeWhile λc=> !bY b c.name).length
def bP(a:Ω):Int:=a.getD 0 0
def hG(a:Ω)(c:List Ω):List Ω:=c.takeWhile (λb=> !decide (bP a<bP b))++a::c.dropWhile (λb=> !decide (bP a<bP b))
def s4(a:List Ω):List Ω:=a.foldl (λb c=>hG c b) []
def aU.put(a:aU)(b:Ω):aU:=⟨a.name,a.aH,s4 (a.rows++[b]),(dc (β a.aH+1) b a.bK 0).1,ln a.c9 b⟩
def aU.del(a:aU)(b:Ω):aU:=⟨a.name,a.aH,a.rows.filter (λc=>decide (c≠b)),(mf (β a.aH+1) b a.bK).1,jU a.c9 b⟩
def fh(a:List aU)(b:cC):Int×List aU:=
 if eO b=κ then(1,a)
 else if b.kind=1 then(if bB a b.table<β a then(4,a)else if 7<β a then(10,a)else(0,a.take (jV a b.table)++⟨b.table,b.aH,[],.nil,η⟩::a.drop (jV a b.table)))
 else if β a<=bB a b.table then(3,a)
 else if b.kind=2 then(0,a.eraseIdx (bB a b.table))
 else if β b.row≠(a.getD (bB a b.table) default).aH.length+1 then(6,a)
 else if b.kind=4 then(if b.row∈(a.getD (bB a b.table) default).rows then(0,a.set (bB a b.table) ((a.getD (bB a b.table) default).del b.row))else(9,a))
 else if(a.getD (bB a b.table) default).rows.any (λc=>decide (bP c=bP b.row))=ζ then(8,a)
 else(0,a.set (bB a b.table) ((a.getD (bB a b.table) default).put b.row))
structure ez(n:Nat)(t:aU):Prop where
 right:eO ⟨1,t.name,t.aH,[]⟩=ζ
 de:ml (β t.aH+1) n t.bK
 fD:t.bK.all.Perm t.rows
 go:jb (β t.aH+1) t.c9
 nk:(eN t.c9).Perm t.rows
 dC:t.rows.Pairwise (λa b=>bP a<bP b)
 ev:β t.rows<=n
variable{h4:aU}
theorem ez.c(a:ez e h4):1<=β h4.aH/\β h4.aH<=7:=by have b:=a.right;simp_all [eO,o9]
def ez.row(a:ez e h4)(b:n∈h4.rows):bJ (β h4.aH+1) n:=a.de.eV n (aF.gV (a.fD.mem_iff.2 b))
def ez.le(a:ez e h4)(b:e<=i):ez i h4:=⟨a.right,⟨a.de.eV,a.de.vZ,by have:=a.de.ch;omega⟩,a.fD,a.go,a.nk,a.dC,by have:=a.ev;omega⟩
theorem a3X(f:Q.Pairwise (λa b=>bP a<bP b))(c:n∈Q)(d:b5∈Q)(h:bP n=bP b5):n=b5:=by obtain⟨k,o,rfl⟩:=a8e c;obtain⟨p,r,rfl⟩:=a8e d;grind[List.pairwise_iff_getElem,Nat.lt_trichotomy]
structure dr(n:Nat)(cR:List aU):Prop where
 ok:∀t∈cR,ez n t
 dC:cR.Pairwise (λa b=>bY a.name b.name=ζ)
 ev:β cR<=8
theorem dr.nil{n:Nat}:dr n []:=⟨λb a=>(by cases a),.nil,σ⟩
def AB(b:1<=e)(c:e<=8)(a:jb e e1):(e1=η/\gn e1=aG)\/(e1≠η/\lo e (eN e1).length (gn e1)):=by
 match e1,a with
 |none,_=>exact .inl ⟨rfl,rfl⟩
 |some ⟨d,e1⟩,a=>exact .inr ⟨σ,tJ b c (GT.ks a)⟩
theorem ez.bu{d:Nat}{f:aU}(a:ez d f)(r:d<=1000):gm f.bu=true:=by
 have x:=a.c;have c:=fR ε ε a.de.eV (by have:=a.de.ch;omega);have y:=a.de.ch;have z:=a.fD.length_eq;have h:=a.nk.length_eq;have C:=a.ev;have k:=c.live;unfold gm aU.bu
 dsimp only
 simp only[Κ,a8Y,decide_eq_true_eq];rcases AB ε ε a.go with⟨o,b⟩|⟨o,b⟩
 .have p:(aG).live=0:=rfl;rw[o]at h;refine⟨a.right,c.ok ε,?_,?_,by rw[c.key];rfl,.inl b⟩
  .rw[b];unfold fl;rfl
  .rw[b,k,p];simp[eN]at h;omega
 .refine⟨a.right,c.ok ε,b.ok ε,?_,by rw[c.key];rfl,.inr ⟨b.key.len,?_⟩⟩
  .rw[k,b.live];omega
  .rw[b.size,b.live]
variable{Y:List aU}
def dr.cat(a:dr e Y)(b:e<=1000):cN (Y.map aU.bu)=true:=by
 refine pj.2 ⟨λh c=>?_,?_,by rw[a7Q];exact a.ev⟩
 .obtain⟨d,f,rfl⟩:=a7M.1 c;exact(a.ok d f).bu b
 .rw[aa0];exact a.dC
theorem AD:∀ {a:List aT}{nm:ϊ},a.Pairwise (λf h=>bY f.name h.name=ζ)->(a.findIdx λb=>decide (b.name=nm))<β a->dd a nm=a.findIdx λb=>decide (b.name=nm)
 |[],nm,_,c=>by rfl
 |b::a,nm,k,c=>by
  obtain⟨r,o⟩:=a7W.1 k;rw[List.findIdx_cons]at c|-;unfold dd;rw[a8O];by_cases d:b.name=nm
  .rw[decide_eq_true d];simp[d,Al]
  .rw[decide_eq_false d]at c|-;simp only[cond_false,a7I]at c|-;have ih:=AD (nm:=nm) o ε;have p:bY b.name nm=true:=by grind
   rw[if_pos p,a7I];unfold dd at ih;rw[ih]
variable{O:ϊ}
theorem we:((Y.map aU.bu).findIdx λa=>decide (a.name=O))=bB Y O:=by rw[List.findIdx_map];rfl
theorem u1(a:bB Y O<β Y):(Y.getD (bB Y O) default).name=O:=by have:=List.findIdx_getElem (w:=a);rw[a7V,Τ a];exact of_decide_eq_true this
theorem qv(a:bB Y O<β Y):Y.getD (bB Y O) default∈Y:=by simp_all
def HN(b:β Y<=bB Y O):∀a∈Y,a.name≠O:=λa c d=>by
 have:=List.findIdx_lt_length_of_exists (p:=λa:aU=>decide (a.name=O)) ⟨a,c,decide_eq_true d⟩;have f:β Y<=Y.findIdx λa=>decide (a.name=O):=b;omega
theorem AE(c:dr e Y):gW (Y.map aU.bu) O=decide (bB Y O<β Y):=by
 have d:(Y.map aU.bu).Pairwise (λf h=>bY f.name h.name=ζ):=by rw[aa0];exact c.dC
 by_cases a:bB Y O<β Y
 .have b:=AD d (by rw[we,a7Q];exact a);rw[we]at b;unfold gW;rw[b,decide_eq_true a,a7Q,decide_eq_true a,a8J];refine decide_eq_true ?_;have:=u1 a;rw[a7V,Τ (by rw[a7Q];exact a),a9u,List.getElem_map];rw[a7V,Τ a,a9u]at this;exact this
 .rw[decide_eq_false a];unfold gW;rw[aaK];by_cases c2:dd (Y.map aU.bu) O<(Y.map aU.bu).length
  .right;refine decide_eq_false λb=>?_;rw[a7V,Τ c2,a9u,List.getElem_map]at b;exact HN ε _ (a8b (by rw[a7Q]at c2;exact c2)) b
  .left;simp_all
theorem HO(a:dr e Y)(d:bB Y O<β Y):dd (Y.map aU.bu) O=bB Y O:=by
 have f:(Y.map aU.bu).Pairwise (λb c=>bY b.name c.name=ζ):=by rw[aa0];exact a.dC
 grind[we,AD,List.length_map]
theorem ov:(Y.map aU.bu).find? (λa=>decide (a.name=O))=(Y[bB Y O]?).map aU.bu:=by rw[List.find?_eq_getElem?_findIdx,we,a7Z]
theorem a3Y{a:ϊ}(b:O≠a):(!bY a O)=bY O a:=by grind[bY,absurd,He,w0,Al]
theorem a3Z(a:β Y<=bB Y O):dd (Y.map aU.bu) O=jV Y O:=by
 have b:=HN a;clear a;unfold dd jV
 induction Y with
 |nil=>rfl
 |cons c Y ih=>have d:=a3Y (b c σ);have ih:=ih λf h=>b f (by simp[h]);rw[a7O,a8O,a8O,d];show(if bY c.name O=ζ then _ else _:List aT).length= _;grind
def iE(c:Nat)(d f:U):Prop:=∀b a,d b=γ (.cells a)->β a≠c->f b=γ (.cells a)
theorem iE.of{s:U}(a:jx s g):iE e s g:=λb c d _=>a b c d
theorem iE.set{c a:Nat}{b:U}{d:ύ}{f:bq}(o:b a=γ (.cells d))(p:β d=c):iE c b (b.set a f):=λh r k x=>by
 have:h≠a:=by grind
 rw[ο _ _ this];exact k
def en.iF{n:Nat}{c d:U}(a:n≠4)(b:iE n c d):∀ {f:aF}{h:R},en c f h->en d f h
 |.nil,_,k=>k
 |.node _ _ _ _,_,⟨o,p,r,x,h1,y,z,C⟩=>⟨o,p,r,x,h1,b _ _ y (by simpa using a.symm),z.iF a b,C.iF a b⟩
def gC.HP(b:Ay g w)(a:gC g e1 s):gC w e1 s:=by
 match e1 with
 |none=>exact a
 |some ⟨_,_⟩=>exact bD.wa b a
def gC.iF{n:Nat}(a:n≠2)(b:iE n g w)(c:gC g e1 s):gC w e1 s:=c.HP λf h k o p d=>b _ _ d (by simpa using a.symm)
theorem gC.cells{d:U}{b:eT}{a:R}(c:gC d b a):a.cells=[a]:=by
 match b with
 |none=>obtain rfl:a=.v (.pointer η):=c;rfl
 |some ⟨_,_⟩=>obtain⟨f,h,k,rfl,_⟩:=bD.ptr c;rfl
def hI(b:U)(a:aU)(k:R):Prop:=∃c o d p f h,k=.ptr c 0/\b c=γ (.cells [bm a.name,.J (bX a.aH) o,.J d p,f,h])/\aw isRow a.rows d/\en b a.bK f/\gC b a.c9 h
def hI.iF{b c:U}(a:iE 1 b c){d:aU}{f:R}(h:hI b d f):hI c d f:=by obtain⟨k,o,p,r,x,y,z,C,D,E,F⟩:=h;exact⟨k,o,p,r,x,y,z,a _ _ C σ,D,E.iF Μ a,F.iF Μ a⟩
def hI.sub(a:g.sub w)(b:hI g h4 s):hI w h4 s:=b.iF (iE.of (U.tg a))
def ic(a:U)(c:Nat)(d:List aU):Prop:=∃b f,a c=γ (.cells [.J b f])/\aw (hI a) d b
def ic.sub{b c:U}(d:b.sub c){f:Nat}{h:List aU}(a:ic b f h):ic c f h:=by obtain⟨k,o,p,r⟩:=a;exact⟨k,o,d _ _ p,r.mono λx y a=>a.sub d⟩
def HQ(a:aw (hI g) Y j):ba 1 j:=λh c=>by
 obtain⟨d,f,rfl⟩:=a8e c;have k:=a.len;obtain⟨o,b,p,_,_,_,_,_,rfl,_⟩:=a.get (Τ (show d<β Y by omega));rw[Τ f]at b;rw[Δ b];rfl
theorem a4a(b:e<β Y)(c:∀a<e,(Y.getD a default).name≠O)(d:(Y.getD e default).name=O):bB Y O=e:=by grind[bB,List.findIdx_eq,List.getElem?_eq_getElem,decide_eq_true,decide_eq_false]
theorem a4b(b:∀a<β Y,(Y.getD a default).name≠O):β Y<=bB Y O:=by grind[Nat.lt_or_ge,bB,absurd,u1]
def pn(a:List aU)(b:ϊ):Int:=if bB a b<β a then(bB a b:Int)else -1
theorem HR(f:U)(h:Nat)(b:List aU)(k:ic f h b)(d:ϊ)(L:β b<=1000):
  AC δ 9 [.ptr h 0,bm d] f λy z=>z=f/\y=.v (.int .i64 (pn b d)):=by
 obtain⟨P,S,C,o⟩:=k;have T:=o.len;have V:=μ C;refine aM hm Mp ?_;refine fO [0,1] (λa:Nat=>[(5,.v (.int .i64 a))]) (λa=>a<=β b/\∀c<a,(b.getD c default).name≠d) (λa=>β b - a) 0 ⟨a7Y _,λc k=>by omega⟩ aK ?_;rintro a⟨W,p⟩e;refine aa ?_;refine ay (λD=>?_) λD=>?_
 .have r:a<β b:=ε;have E:b[a]?=γ (b.getD a default):=by simp_all
  obtain⟨_,g,i,j,l,m,n,q,rfl,F,_,_,_⟩:=o.get E;have s:=μ F;have t:=(w1 (b.getD a default).name d).1;refine aa ?_;refine ay (λc2=>?_) λc2=>?_
  .have x:=a4a r p c2;unfold pn;rw[x,if_pos r]
  .exact⟨a+1,⟨ε,λc G=>by grind⟩,rfl,ε⟩
 .have x:=a4b λc G=>p c ε;unfold pn;simp_all
def a4c:∀(a:List (a6.T e)),eN (qg a)=a.flatMap (a6.bb e)
 |[]=>rfl
 |[b]=>by simp[qg,eN]
 |c::d::f=>rfl
theorem a4d:∀(a:Nat)(b:a6.T a),eN (wc a b)=a6.bb a b
 |0,b=>by
  obtain⟨d,rfl⟩:=a6.iU b;show eN (if a6.len (a6.leaf d)=0 then η else γ ⟨0,a6.leaf d⟩)= _;by_cases c:a6.len (a6.leaf d)=0
  .rw[if_pos c];rw[a6.jG]at c;rw[a6.km,a7y c];rfl
  .rw[if_neg c];rfl
 |a+1,b=>by
  obtain⟨f,rfl⟩:=a6.hf b;show eN (match a6.kids (a6.node f)with
   |[h]=>γ ⟨a,h⟩
   |_=>γ ⟨a+1,a6.node f⟩)= _
  grind[a6.fE,a6.gd,eN]
def a4e(d:1<=e)(f:e<=8)(h:bJ e n)(k:jb e e1)(o:n∉eN e1):(eN (ln e1 n)).Perm (n::eN e1):=by
 match e1 with
 |none=>show(a6.bb 0 (a6.leaf [n])).Perm _;rw[a6.km];rfl
 |some ⟨a,e1⟩=>have b:GT e a e1:=k;have c:n∉a6.bb a e1:=o;simp only[ln];rw[if_neg c,a4c];rw[(a6.rG (gQ d f) h a e1 b.wf b.dC b.ok c).1];unfold a6.eb;exact a9E.trans (.cons _ (List.Perm.of_eq a8h))
def a4f(d:1<=e)(f:e<=8)(h:bJ e n)(k:jb e e1)(c:n∈eN e1):eN (jU e1 n)=(eN e1).filter λo=>decide (o≠n):=by
 match e1 with
 |none=>cases c
 |some ⟨a,e1⟩=>have b:GT e a e1:=k;have p:n∈a6.bb a e1:=c;simp only[jU];rw[if_pos p,a4d];exact(a6.qf (gQ d f) h a e1 b.wf b.dC b.ok).1
theorem HS(a:Ω)(b:List Ω):(hG a b).Perm (a::b):=by grind[List.takeWhile_append_dropWhile,decide,bP,hG,List.perm_middle]
theorem HT{b:Ω}:∀ {a:List Ω},a.Pairwise (λh k=>bP h<bP k)->(∀c∈a,bP b≠bP c)->(hG b a).Pairwise (λh k=>bP h<bP k)
 |[],_,_=>by simp[hG]
 |c::a,p,r=>by
  obtain⟨y,z⟩:=a7W.1 p;have C:=r c σ;by_cases x:bP b<bP c
  .have o:hG b (c::a)=b::c::a:=by simp[hG,x]
   rw[o];refine a7W.2 ⟨λf d=>?_,p⟩;grind
  .have o:hG b (c::a)=c::hG b a:=by simp[hG,x]
   rw[o];refine a7W.2 ⟨λf d=>?_,HT z λf d=>r f (by simp[d])⟩;rcases a7S.1 ((HS b a).mem_iff.1 d)with rfl|d
   .omega
   .exact y f d
theorem HU:∀(b a:List Ω),(a++b).Pairwise (λf h=>bP f≠bP h)->a.Pairwise (λf h=>bP f<bP h)->(b.foldl (λk c=>hG c k) a).Perm (a++b)/\(b.foldl (λk c=>hG c k) a).Pairwise (λf h=>bP f<bP h)
 |[],a,_,d=>by simpa using d
 |c::b,a,d,o=>by
  have p:=((HS c a).append_right b).trans a9E.symm;obtain⟨C,D,r⟩:=a8t.1 d;obtain⟨E,F⟩:=HU b (hG c a) (p.symm.pairwise d λd=>d.symm) (HT o λx y z=>r x y c σ z.symm);grind
theorem a4g(c:Q.Pairwise (λa b=>bP a<bP b))(o:∀d∈Q,bP n≠bP d):(s4 (Q++[n])).Perm (n::Q)/\(s4 (Q++[n])).Pairwise (λa b=>bP a<bP b):=by
 have f:([]++(Q++[n])).Pairwise (λa b=>bP a≠bP b):=by rw[a7T];refine a8t.2 ⟨c.imp λc=>by omega,σ,λa p b r=>?_⟩;grind
 obtain⟨h,k⟩:=HU (Q++[n]) [] f .nil;exact⟨h.trans (List.perm_append_singleton _ _),k⟩
def ez.put{d:Nat}{a:aU}(b:ez d a)(F:d<900){c:Ω}(f:bJ (β a.aH+1) c)(k:∀x∈a.rows,bP x≠bP c):ez (d+1) (a.put c)/\(dc (β a.aH+1) c a.bK 0).2=ζ/\c∉eN a.c9:=by
 have G:=b.c;have o:c∉a.rows:=λhm=>k c hm rfl;have p:(dc (β a.aH+1) c a.bK 0).2=true:=by
  cases y:(dc (β a.aH+1) c a.bK 0).2 with
  |true=>rfl
  |false=>exact absurd (b.fD.mem_iff.1 (Ag y)) o
 have r:c∉eN a.c9:=λhm=>o (b.nk.mem_iff.1 hm);obtain⟨h,z⟩:=a4g b.dC λC D E=>k C D E.symm;have L:=b.nk.length_eq;have P:=b.ev;refine⟨⟨b.right,b.de.ins f,?_,(a3Q ε ε f b.go ε).1,?_,z,?_⟩,p,r⟩
 .exact(Af f b.de.eV p).trans ((b.fD.cons c).trans h.symm)
 .exact(a4e ε ε f b.go r).trans ((b.nk.cons c).trans h.symm)
 .show(s4 (a.rows++[c])).length<=d+1;rw[h.length_eq,a7I];omega
theorem a4h{b:List Ω}(d:Q.Pairwise (·≠ ·))(a:Q.Perm (n::b)):b.Perm (Q.filter λc=>decide (c≠n)):=by have f:=(a.filter λc=>decide (c≠n)).symm;have h:(n::b).Pairwise (·≠ ·):=a.pairwise d λa=>a.symm;obtain⟨k,_⟩:=a7W.1 h;rw[a9T,if_neg σ]at f;grind[decide,List.filter_eq_self,decide_eq_true]
def ez.rY(a:ez e h4):h4.rows.Pairwise (·≠ ·):=a.dC.imp λa b=>by subst b;omega
theorem ez.del{h:Nat}{b:aU}(a:ez h b){c:Ω}(d:c∈b.rows):ez h (b.del c)/\(cp (β b.aH+1) c b.bK 0).2=ζ/\c∈eN b.c9:=by
 have y:=a.c;have f:=a.row d;have k:(cp (β b.aH+1) c b.bK 0).2=true:=by
  cases p:(cp (β b.aH+1) c b.bK 0).2 with
  |true=>rfl
  |false=>exact absurd (a.fD.mem_iff.2 d) (Ah f.len a.de.eV a.de.vZ p)
 have o:=a.nk.mem_iff.2 d;have r:=a3f a.de k;refine⟨⟨a.right,a.de.del,?_,(a3V ε ε f a.go).1,?_,a.dC.filter _,a8w (a9i _ _) a.ev⟩,k,o⟩
 .exact a4h a.rY (a.fD.symm.trans r)
 .show(eN (jU b.c9 c)).Perm (b.rows.filter λx=>decide (x≠c));rw[a4f ε ε f a.go o];exact a.nk.filter _
def ez.none(a:ez e h4)(d:β n=β h4.aH+1)(b:n∉h4.rows):(cp (β h4.aH+1) n h4.bK 0).2=false:=by
 cases c:(cp (β h4.aH+1) n h4.bK 0).2 with
 |false=>rfl
 |true=>exact absurd (a.fD.mem_iff.1 ((vX c).mem_iff.2 σ)) b
variable{e3:cC}
theorem AF(a:eO e3=ζ)(b:e3.kind=1):eO ⟨1,e3.table,e3.aH,[]⟩=true:=by unfold eO at a|-;simp_all
def HV{a:List ϊ}(b:eO ⟨1,O,a,[]⟩=ζ):ez e ⟨O,a,[],.nil,η⟩:=⟨b,ml.nil,.refl _,trivial,.refl _,.nil,a7Y _⟩
theorem add_eq(b:dr e Y)(d:e<=1000){a:List ϊ}(f:eO ⟨1,O,a,[]⟩=ζ):
  ky (Y.map aU.bu) ⟨O,a,aG,aG⟩=if bB Y O<β Y then .error 4 else if 7<β Y then .error 10 else .ok ((Y.take (jV Y O)++⟨O,a,[],.nil,η⟩::Y.drop (jV Y O)).map aU.bu):=by
 have h:gm ⟨O,a,aG,aG⟩=true:=(HV f).bu ε;unfold ky;rw[b.cat d,h,Bool.and_self,if_pos rfl]
 dsimp only
 rw[AE b,a7Q];by_cases c:bB Y O<β Y;simp_all
 .rw[if_neg (by simpa using c),if_neg c,a3Z ε];by_cases c2:7<β Y
  .grind
  .rw[if_neg ε,if_neg c2,a8r,a7O,aaG,aaF];rfl
theorem AG(a:dr e Y)(c:e<=1000):cQ (Y.map aU.bu) O=if bB Y O<β Y then .ok ((Y.eraseIdx (bB Y O)).map aU.bu)else .error 3:=by
 unfold cQ;rw[a.cat c,if_pos rfl,AE a];by_cases b:bB Y O<β Y
 .rw[if_pos (decide_eq_true b),if_pos b,HO a b,a9K,a8r,aaG,aaF]
 grind
theorem rm(a:dr e Y)(b:e<=1000)(c:ez i h4)(d:i<=1000)(f:bB Y h4.name<β Y):kz (Y.map aU.bu) h4.bu=.ok ((Y.set (bB Y h4.name) h4).map aU.bu):=by unfold kz;rw[a.cat b,c.bu d,Bool.and_self,if_pos rfl];show(if gW (Y.map aU.bu) h4.name=ζ then _ else _)= _;rw[AE a,if_pos (decide_eq_true f)];grind[aU.bu,set,dd,HO,List.map_set]
def dr.AH(c:∀d∈Y,ez e d)(f:cN (Y.map aU.bu)=ζ):dr e Y:=by obtain⟨_,a,b⟩:=pj.1 f;rw[aa0]at a;rw[a7Q]at b;exact⟨c,a,b⟩
def dr.le{b c:Nat}{d:List aU}(a:dr b d)(f:b<=c):dr c d:=⟨λh k=>(a.ok h k).le f,a.dC,a.ev⟩
theorem dr.set{b:Nat}{a:List aU}(d:dr b a)(r:b<1000){c:aU}(f:ez (b+1) c)(h:bB a c.name<β a):dr (b+1) (a.set (bB a c.name) c):=
 dr.AH (λk o=>by
  rcases a9J o with p|rfl
  .exact(d.ok k p).le ε
  .exact f) (Hz (rm d ε f ε h))
def wg(a:eO e3=ζ)(f:e3.kind≠1)(h:e3.kind≠2):(e3.kind=3\/e3.kind=4):=by
 have a:=a;simp only[eO,Κ]at a;have a:=a.2;have c:∀d:UInt8,e3.kind.toNat=d.toNat->e3.kind=d:=λd b=>a8v.1 b;split at a
 .rename_i b;exact absurd (c 1 b) f
 split at a
 .rename_i b;exact absurd (c 2 b) h
 split at a
 .rename_i b;exact b.imp (c 3) (c 4)
 .cases a
theorem AI(d:dr e Y)(x:e<900)(k:bs e3.row):dr (e+1) (fh Y e3).2:=by
 have b:=d.le (show e<=e+1 by omega);unfold fh;by_cases o:eO e3=κ
 .rw[if_pos o];exact b
 rw[if_neg o];have y:eO e3=true:=by simp_all
 by_cases c1:e3.kind=1
 .rw[if_pos c1];have p:=AF y c1;have f:=add_eq d ε p;by_cases c2:bB Y e3.table<β Y
  .rw[if_pos c2];exact b
  rw[if_neg c2]at f|-;by_cases aD:7<β Y
  .rw[if_pos aD];exact b
  rw[if_neg aD]at f|-;refine dr.AH (λc a=>?_) (HC f);simp only[Ψ,a7S]at a;rcases a with a|rfl|a
  .exact b.ok c (a7J a)
  .exact HV p
  .exact b.ok c (a7U a)
 rw[if_neg c1];by_cases c2:β Y<=bB Y e3.table
 .rw[if_pos c2];exact b
 rw[if_neg c2];have h:bB Y e3.table<β Y:=ε;by_cases aD:e3.kind=2
 .rw[if_pos aD];have f:=AG (O:=e3.table) d ε;rw[if_pos h]at f;exact dr.AH (λc a=>b.ok c (aaC a)) (Hy (d.cat ε) f)
 rw[if_neg aD];have a:=d.ok _ (qv h);have z:=u1 h;generalize Y.getD (bB Y e3.table) default=c at*;by_cases aL:β e3.row≠β c.aH+1
 .rw[if_pos aL];exact b
 rw[if_neg aL];have C:bJ (β c.aH+1) e3.row:=⟨ε,k⟩;rw[<-z]at h|-;by_cases aZ:e3.kind=4
 .rw[if_pos aZ];by_cases bt:e3.row∈c.rows
  .rw[if_pos bt];exact d.set ε ((a.del bt).1.le ε) h
  .rw[if_neg bt];exact b
 .rw[if_neg aZ];by_cases bt:c.rows.any (λr=>decide (bP r=bP e3.row))=ζ
  .rw[if_pos bt];exact b
  .rw[if_neg bt];refine d.set ε (a.put x C λr k D=>bt ?_).1 h;simp_all
def lA(a:Ω):Nat:=(bP a+9223372036854775808).toNat
theorem AJ(a:bs n): -9223372036854775808<=bP n/\bP n<9223372036854775808:=by
 unfold bP;rw[a7V];cases b:n[0]? with
 |none=>simp
 |some c=>exact a c (a7C b)
theorem AK(a:bs n):IntKind.u64.wrap (IntKind.u64.wrap (bP n)+9223372036854775808)=(lA n:Int)/\(lA n:Int)=bP n+9223372036854775808:=by grind[AJ,lA,bP,Int.toNat_of_nonneg,lQ]
theorem HW(c d:Own)(a:Ω)(b:U)(h:p9 a)(k:bs a):AC δ 97 [gl.V c,.J (ab a) d] b λo p=>p=b/\o=.aJ [hi 0 (lA a),.v (.bool ζ)]:=by
 obtain⟨r,x⟩:=AK k;obtain⟨z,C⟩:=h;have D:=bn (n:=a);have E:=hZ (n:=a) ε d;have y:gl.ok (β a)=true:=by rw[rO];simp_all
 have f:=λb=>tN gl c (β a) b ε σ;rw[y]at f;unfold bP at r;clear x;refine aM hm CJ ?_;refine bg λF G=>?_;refine cy λL P S T=>?_;refine aP (f _) ?_;rfl
theorem a4i(p r x:Own)(a b:Ω)(c:U)(E:p9 a)(l:β b=β a)(y:bs a)(z:bs b):AC δ 50 [gl.V p,.J (ab a) r,.J (ab b) x] c λh k=>k=c/\h=.v (.bool (decide (bP a<bP b))):=by
 have S:p9 b:=by unfold p9 at*;omega
 have fD:=(AK y).2;have T:=(AK z).2;have F:=λc=>HW p r a c E y;have G:=λc=>HW p x b c S z;obtain⟨m,n⟩:=E;have q:=bn (n:=a);have s:=bn (n:=b);have V:=hZ (n:=a) ε r;have W:=hZ (n:=b) ε x;have L:a.getD 0 0=bP a:=rfl;have P:b.getD 0 0=bP b:=rfl;rw[L]at V;rw[P]at W;have t:lA a<lA b↔bP a<bP b:=ε;have u:lA a=lA b↔bP a=bP b:=ε;have ct:lA a<18446744073709551616/\lA b<18446744073709551616:=by have F:=AJ y;have G:=AJ z;omega
 clear L P fD T;generalize lA a=d at*;generalize lA b=f at*;generalize bP a=C at*;generalize bP b=e at*;have D:∀o:Nat,o<18446744073709551616->dO [(2,bZ.int IntKind.u64)] [R.v (Value.int IntKind.u64 0),R.v (Value.int IntKind.u64 (o))]:=λo v=>by
  simp[dO,bZ.sq]
 have w:=D d ct.1;have A:=D f ct.2;clear D;have g:peq (R.agg [R.v (Value.int IntKind.u64 0),R.v (Value.int IntKind.u64 (d))]) (R.agg [R.v (Value.int IntKind.u64 0),R.v (Value.int IntKind.u64 (f))])=decide (d=f):=by grind[peq]
 refine aM hm Cy ?_;refine bg λB H=>?_;refine aP (F _) ?_;refine cy λI K o M=>?_;refine aP (G _) ?_;refine gz λN O bS Q X Y=>?_;have i:∀c,AC δ 98 [hi 0 d,hi 0 f] c λh k=>k=c/\h=.v (.bool (decide (C<e))):=λc=>(Gp 0 d 0 f c).mono λh k j=>⟨j.1,by simp_all⟩;rw[g];refine ay (λC=>?_) λC=>?_
 .refine aP (i _) ?_;trivial
 .trivial
theorem a4j(c:∀a<e,¬bP n<bP (Q.getD a []))(b:e<=β Q)(d:e<β Q->bP n<bP (Q.getD e [])):hG n Q=Q.take e++n::Q.drop e:=by
 induction Q generalizing e with
 |nil=>simp at b;subst b;rfl
 |cons f Q ih=>
  cases e with
  |zero=>grind[bP,hG,List.takeWhile_cons,List.dropWhile_cons]
  |succ e=>have k:¬bP n<bP f:=c 0 ε;have:=ih (λa o=>c (a+1) ε) (by simpa using b) (λh=>d (by simpa using h));simp_all [hG]
theorem a4k(d:List Ω)(m:ύ)(w y:Own)(E:Nat)(z:U)(g:aw isRow d m)(n:∀F∈d,bJ E F)(k4:1<=E)(k5:E<=8)(n5:β d<=100000):
  AC δ 27 [gl.V y,.J m w] z λF G=>z.sub G/\∃A k6,aw isRow (s4 d) A/\F=.J A k6:=by
 have n9:=g.len;have k7:∀z,AC δ 25 [gl.V y,.v (.int .i64 (E:Int))] z λF G=>G=z/\F=.v (.bool ζ):=λz=>by
  have:=tN gl y E z ε σ;rw[rO,decide_eq_true ⟨k4,k5⟩]at this;exact this
 have a00:(gl.V y).cells=[.v (.int .u8 0),.v (.int .i64 0),.J (ab []) y]:=rfl;refine aM hm Cr ?_;refine bg λq k8=>?_;have B:∀P,(z.set q (.cells (gl.V y).cells)).sub P->P.read q=γ [.v (.int .u8 0),.v (.int .i64 0),.J (ab []) y]:=λP h=>μ (h _ _ (ξ _ _ _));have k9:=ν (b0:=.cells (gl.V y).cells) (ι) k8;generalize z.set q _=H at*;refine fO [1,2,5] (λf:Nat=>[(6,.v (.int .i64 f))]) (λf=>f<=β d) (λf=>β d - f) 0 ε aK ?_
 .rintro f I K;have l0:=B H ι;refine aa ?_;refine ay (λs=>?_) λs=>?_
  .have S:d[f]?=γ (d.getD f []):=by simp_all
   have M:d[0]?=γ (d.getD 0 []):=by grind
   obtain⟨_,l1,i,rfl⟩:=g.get S;obtain⟨_,l2,C,rfl⟩:=g.get M;have l3:=(n _ (a7C S)).len;have a01:=(n _ (a7C M)).len;have a02:=bn (n:=d.getD f []);have a03:=bn (n:=d.getD 0 []);generalize d.getD f []=p at*;generalize d.getD 0 []=b at*;refine aa ?_;have a04:cU 1 (.J m w) (.v (.int .i64 0))=γ (.c4 [.J (ab b) C]):=by show cU 1 _ (.v (.int .i64 ((0:Nat))))= _;rw[pX,l2];rfl
   refine aP (k7 _) ?_;exact⟨f+1,ε,rfl,ε⟩
  .refine ck [1,2] (λb:Nat×ύ×Own=>[(7,.v (.int .i64 b.1)),(5,.J b.2.1 b.2.2)]) (λb G=>H.sub G/\b.1<=β d/\∃c,(d.take b.1).foldl (λc p=>hG p c) []=c/\β c=b.1/\(∀F∈c,bJ E F)/\aw isRow c b.2.1) (λb=>β d - b.1) (0,[],.nil) ⟨⟨ι,ε,[],rfl,rfl,σ,trivial⟩,aK⟩ ?_;rintro⟨f,D,bx⟩ P ⟨j,I,c,T,l4,N,r⟩ K
   dsimp only at I T l4 r|-
   have a05:=r.len;refine aa ?_;refine ay (λs=>?_) λs=>?_
   .have S:d[f]?=γ (d.getD f []):=by simp_all
    obtain⟨_,l1,i,rfl⟩:=g.get S;have O:=n _ (a7C S);have l3:=O.len;have l5:=O.iY;have Q:=fX (a:=d) (b:=[]) (e:=f) ε;generalize d.getD f []=p at*;have el:∀a,a<β c->∃C,D[a]?=γ (.J (ab (c.getD a [])) C):=λa V=>by
     obtain⟨_,k,C,rfl⟩:=r.get (i:=a) (x:=c.getD a []) (by simp_all);exact⟨C,k⟩
    have l6:∀a,a<β c->(c.getD a []).length=E:=λa V=>(N _ (by simp_all)).len;have l7:∀a,a<β c->bs (c.getD a []):=λa V=>(N _ (by simp_all)).iY;refine ck [1,2,5,7] (λb:Nat×ύ×Own=>[(9,.v (.int .i64 b.1)),(8,.J b.2.1 b.2.2)]) (λb G=>b.1<=β c/\(∀X<b.1,¬bP p<bP (c.getD X []))/\aw isRow (c.take b.1) b.2.1/\bk P G 1 b.2.1 b.2.2) (λb=>β c - b.1) (0,[],.nil) ⟨⟨ε,λX h=>by simp at h,trivial,bk.nil ι⟩,aK⟩ ?_;rintro⟨a,l,on⟩ l8 ⟨V,Y,x,W⟩ K
    dsimp only at V Y x W|-
    have l0:=B l8 (π j W.sub);have a06:β l=a:=by rw[x.len,a7z];omega
    have Z:¬(a<β c/\¬bP p<bP (c.getD a []))->hG p c=c.take a++p::c.drop a:=λh=>a4j Y V λl9=>Classical.not_not.1 λL=>h ⟨l9,L⟩;by_cases jK:(a)<(f:Int)
    .obtain⟨C,a07⟩:=el a ε;have a08:=l6 a ε;have n0:=l7 a ε;have n2:=fX (a:=c) (b:=[]) (e:=a) ε;generalize a09:c.getD a []=b at*;refine aa ?_;refine aP (a4i y i C p b _ (by unfold p9;omega) ε l5 n0) ?_;refine ay (λc2=>?_) λc2=>?_
     .refine kR (λk2 e=>?_);refine ef (W.mono (ν ι e)) (x.cells λ_ _=>ρ) (λk o=>by rw[a7H]at o;subst o;rfl) Ι Ι λt k3 L=>?_;refine aa ?_;refine⟨(a+1,l++[.J (ab b) C],t),⟨by simp only;omega,?_,?_,L⟩,⟨rfl,rfl⟩,by simp only;omega⟩;grind
      .simp only[n2];exact x.snoc ⟨_,rfl⟩
     .have k:=Z ε;refine kR (λk2 e=>?_);refine ef (W.mono (ν ι e)) (x.cells λ_ _=>ρ) (λk o=>by rw[a7H]at o;subst o;rfl) Ι Ι λt k3 L=>?_;have n3:dU 1 (.J D bx) (γ (.v (.int .i64 (a)))) η=γ (.J (D.drop a) .any):=nR ε (r.cells λ_ _=>ρ);refine aa ?_;refine ef L (λk o=>by rcases Ψ.1 o with h|h;exact x.cells (λ_ _=>ρ) k h;rw[a7H]at h;subst h;rfl) ((r.drop a).cells λ_ _=>ρ) Ι Ι λu n4 v=>?_;refine aa ?_;refine⟨(f+1,l++[.J (ab p) i]++D.drop a,u),⟨π j v.sub,by simp only;omega,_,rfl,?_,?_,?_⟩,⟨rfl,rfl⟩,by simp only;omega⟩;grind;grind
      .simp only[Q,a9z,T,a8j,aa2,k];rw[aa5];exact(x.snoc ⟨_,rfl⟩).append (r.drop a)
    .have k:=Z ε;refine aa ?_;refine kR (λk2 e=>?_);refine ef (W.mono (ν ι e)) (x.cells λ_ _=>ρ) (λk o=>by rw[a7H]at o;subst o;rfl) Ι Ι λt k3 L=>?_;have n3:dU 1 (.J D bx) (γ (.v (.int .i64 (a)))) η=γ (.J (D.drop a) .any):=nR ε (r.cells λ_ _=>ρ);refine aa ?_;refine ef L (λk o=>by rcases Ψ.1 o with h|h;exact x.cells (λ_ _=>ρ) k h;rw[a7H]at h;subst h;rfl) ((r.drop a).cells λ_ _=>ρ) Ι Ι λu n4 v=>?_;refine aa ?_;refine⟨(f+1,l++[.J (ab p) i]++D.drop a,u),⟨π j v.sub,by simp only;omega,_,rfl,?_,?_,?_⟩,⟨rfl,rfl⟩,by simp only;omega⟩;grind;grind
     .simp only[Q,a9z,T,a8j,aa2,k];rw[aa5];exact(x.snoc ⟨_,rfl⟩).append (r.drop a)
   .obtain rfl:f=β d:=ε;rw[a8c]at T;refine⟨π k9 j,D,bx,by rw[s4,T];exact r,rfl⟩
def a4l{a:Nat->Bool}:(ψ (e+1)).all a=(a 0&&(ψ e).all λb=>a (b+1)):=by rw[abn,List.all_cons,abL];rfl
theorem HX(b:ϊ):∀(c a:Nat),β b<c+a->ma ⟨b.toArray⟩ c a=(ψ (β b - a)).all λh=>oa (a+h) (b.getD (a+h) 0)
 |0,a,k=>by
  rw[show β b - a=0 by omega];rfl
 |c+1,a,k=>by
  have o:(⟨b.toArray⟩:ByteArray).size=β b:=rfl;rw[ma,o];by_cases d:a<β b
  .rw[if_pos d];obtain⟨f,hm⟩:∃f,β b - a=f+1:=⟨β b - a - 1,ε⟩;rw[hm,a4l,a9A];have p:b.getD a 0=b[a]:=by simp[d]
   rw[p];by_cases bW:b[a].toNat<128
   .rw[Gf b a d bW]
    dsimp only
    rw[HX b c (a+1) ε,show β b -(a+1)=f by omega];have r:gi a (b[a].toNat)=oa a b[a]:=by unfold gi oa;grind
    grind
   grind[decode_high,gi,Utf8.decode,decide_eq_false,oa]
  simp_all
theorem HY(a:ϊ):ob a=ku a:=by unfold ob ku;rw[HX a (β a+1) 0 ε];grind
theorem a4m{a:List ϊ}(b:e<β a):mc a e=mZ a e:=by unfold mc mZ;rw[HY];congr 2;rw[a9W];simp only[a7L,a8B,a8V,decide_eq_false_iff_not];grind[hm,List.getElem_of_mem,List.length_take,List.getD,List.mem_iff_getElem]
theorem a4n(a:List ϊ):(ψ (β a)).all (mc a)=(ψ (β a)).all (mZ a):=by rw[a9W];grind[List.all_eq_true,a4m]
theorem a4o(a:cC):p6 a=eO a:=by
 unfold p6 eO zr o9;rw[HY,a4n];congr 1;by_cases b:a.kind.toNat=1
 .rw[if_pos b,if_pos b,Bool.and_assoc];grind
 rw[if_neg b,if_neg b];by_cases c:a.kind.toNat=2;simp_all;grind
def eQ(c:Nat)(d f:U):Prop:=∀a b,a≠c->d a=γ b->f a=γ b
theorem eQ.of{s:U}(a:s.sub g):eQ e s g:=λb c _ d=>a b c d
theorem eQ.trans(d:eQ e g w)(f:eQ e w h7):eQ e g h7:=λa b c h=>f a b c (d a b c h)
theorem eQ.set{a:Nat}{b c:U}{f:bq}(h:eQ a b c):eQ a b (c.set a f):=λk o d p=>by rw[ο _ _ d];exact h k o d p
def fI(a:ύ)(b:Nat)(d:R)(c:Nat):ύ:=if c<=b then a.take c else(a.take b++d::a.drop b).take (c+1)
def a4p(b:e<i)(a:j[e]?=γ b8):fI j i s (e+1)=fI j i s e++[b8]:=by unfold fI;rw[if_pos ε,if_pos ε];obtain⟨c,rfl⟩:=a7B.1 a;simp
theorem a4q(a:j[e]?=γ b8):fI j e s (e+1)=fI j e s e++[s]++[b8]:=by unfold fI;obtain⟨b,rfl⟩:=a7B.1 a;rw[if_neg ε,if_pos ε,a8g b];grind
theorem a4r(b:e<i)(a:j[i]?=γ b8):fI j e s (i+1)=fI j e s i++[b8]:=by unfold fI;obtain⟨c,rfl⟩:=a7B.1 a;rw[if_neg ε,if_neg ε];have d:(j.take e++s::j.drop e).length=β j+1:=Ι;rw[a8Z (show i+1<(j.take e++s::j.drop e).length by omega)];congr 2;grind
def a4s(a:e<=β j):(if e<β j then fI j e s (β j) else fI j e s (β j)++[s])=j.take e++s::j.drop e:=by
 split
 .unfold fI;rw[if_neg ε,a7x Ι]
 .obtain rfl:e=β j:=ε;unfold fI;rw[if_pos ε];simp
def a4t(a:aw (hI g) Y j)(f:β s.cells=1):ba 1 (fI j e s i):=λc b=>by
 have d:=HQ a;unfold fI at b;split at b
 .exact d c (a7J b)
 .have:=a7J b;rcases Ψ.1 this with a|a
  .exact d c (a7J a)
  .rcases a7S.1 a with rfl|a
   .exact f
   .exact d c (a7U a)
theorem a4u:(fI j i s e).length<=e+1:=by unfold fI;grind
theorem a4v:∀a<jV Y O,bY O (Y.getD a default).name=false:=by
 unfold jV
 induction Y with
 |nil=>intro a b;simp at b
 |cons d Y ih=>
  intro a b;rw[a8O]at b;cases c:bY O d.name with
  |true=>simp[c]at b
  |false=>
   simp only[c,a8q,if_true,a7I]at b;cases a with
   |zero=>trivial
   |succ a=>simp_all
def a4w:jV Y O<=β Y:=(List.takeWhile_sublist _).length_le
theorem a4x(a:jV Y O<β Y):bY O (Y.getD (jV Y O) default).name=true:=by
 induction Y with
 |nil=>simp at a
 |cons b Y ih=>
  unfold jV at a|-;rw[a8O]at a|-;cases c:bY O b.name with
  |true=>simp[c]
  |false=>simp_all [if_true,jV]
theorem a4y(a:List aU)(b:ϊ):(bB a b<β a->pn a b=(bB a b:Int))/\(β a<=bB a b->pn a b= -1):=by simp_all [pn,if_pos,if_neg]
def a4z(a:UInt8)(b:Int):ju BinOp.eql (av a) (R.v (Value.int IntKind.u8 b))=γ (.v (.bool (decide ((a.toNat:Int)=b)))):=by simp only[av,sU];rfl
theorem a4A(a:j[e]?=γ s)(b:e≠i):(j.take (e+1)).eraseIdx i=(j.take e).eraseIdx i++[s]:=by obtain⟨c,rfl⟩:=a7B.1 a;grind[List.take_succ_eq_append_getElem,Nat.lt_or_ge,List.eraseIdx_append_of_lt_length,List.length_take,List.eraseIdx_of_length_le]
theorem a4B:(j.take (e+1)).eraseIdx e=(j.take e).eraseIdx e:=by grind[List.eraseIdx_eq_take_drop_succ,List.drop_eq_nil_of_le,List.length_take,Nat.min_eq_left,Nat.min_self]
variable{K:Type}
def aw.erase{b:K->R->Prop}{c:List K}(a:Nat)(d:aw b c j):aw b (c.eraseIdx a) (j.eraseIdx a):=by rw[a9K,a9K];exact(d.take a).append (d.drop (a+1))
def AL(a:g e=γ (.cells [s]))(b:aw (hI g) Y j):ic (g.set e (.cells [.J j a7])) e Y:=
 ⟨j,a7,ξ _ _ _,b.mono λ_ _ c=>c.iF (iE.set a rfl)⟩
def HZ{a:List ϊ}(b:g e=γ (.cells [bm O,.J (bX a) a7,.J [] .nil,.v (.pointer η),.v (.pointer η)])):hI g ⟨O,a,[],.nil,η⟩ (.ptr e 0):=⟨e,a7,[],.nil,_,_,rfl,b,trivial,rfl,rfl⟩
theorem a4C(a:aw (hI g) Y j):c8 w 1 (.J j a7)=γ (β j,j):=by
 have o:∀b∈j,b.cells=[b]:=λb d=>by
  obtain⟨f,h,rfl⟩:=a8e d;have p:=a.len;obtain⟨k,c,r,_,_,_,_,_,rfl,_⟩:=a.get (Τ (show f<β Y by omega));rw[Τ h]at c;rw[Δ c];rfl
 have x:flat j=j:=by
  unfold flat;clear a
  induction j with
  |nil=>rfl
  |cons k j ih=>simp_all
 simp_all [c8,if_pos,a7L,decide_eq_true]
def kA(a:Nat)(o c:U)(p:List aU):Prop:=∃b d,aw (hI b) p d/\(∃r,b a=γ (.cells [r]))/\eQ a o b/\eQ a b c/\
 ((∃x,c a=γ (.cells [.J d x]))\/∃f h y k,b f=η/\c a=γ (.cells [.ar f h y 1])/\c f=γ (.cells k)/\h<=β k/\eZ 1 h k=d)
theorem kA.of{s:U}{ds:List aU}(a:ic g e ds)(c:eQ e s g):kA e s g ds:=by obtain⟨d,f,b,h⟩:=a;exact⟨g,d,h,⟨_,b⟩,c,λ_ _ _ a=>a,.inl ⟨f,b⟩⟩
set_option maxHeartbeats 1000000 in
theorem a4D(M:U)(w a74:Nat)(h:List aU)(c:ic M w h)(a81:dr a74 h)(b54:a74<900)(r:cX)(a83:r.d.Fit)(X:bs r.d.row):
  AC δ 18 [.ptr w 0,r.V] M λx n=>kA w M n (fh h r.d).2/\x=.v (.int .i64 (fh h r.d).1):=by
 have f:=(fh.eq_1 h r.d).symm;generalize fh h r.d=b16 at*;have Y:=λM=>a2b r a83 M;rw[a4o]at Y;have a84:=a81.ev;obtain⟨D,a19,a86,a88⟩:=c;have a01:=a88.len;have a89:r.V=.agg [av r.d.kind,bm r.d.table,.J (bX r.d.aH) r.gP,.J (ab r.d.row) r.du]:=rfl;rw[a89]at Y|-;clear a89;obtain⟨b55,b56,b57,b58⟩:=a83;generalize a27:r.d.kind=T at*;generalize b59:r.d.table=F at*;generalize b60:r.d.aH=l4 at*;generalize b61:r.d.row=y at*;refine aM hm MI ?_;refine bg λa02 a29=>?_;have V:=ν (b0:=.cells [av T,bm F,.J (bX l4) r.gP,.J (ab y) r.du]) (ι (g:=M)) a29;have aD:=ξ M a02 (.cells [av T,bm F,.J (bX l4) r.gP,.J (ab y) r.du]);have b62:w≠a02:=by rintro rfl;rw[a86]at a29;cases a29
 generalize M.set a02 _=W at*;have E:=V _ _ a86;have P:aw (hI W) h D:=a88.mono λ_ _ c=>c.sub V;have a90:=HR W w h ⟨D,a19,E,P⟩ F ε;have j:=μ aD;have fk:=μ E;obtain⟨a92,b17⟩:=a4y h F;have Z:ic W w h:=⟨D,a19,E,P⟩;cases bW:eO r.d with
 |false=>rw[bW]at Y;rw[if_pos bW]at f;refine aP (Y W) ?_;exact⟨_,ι,kA.of (by rw[<-f];exact Z) (eQ.of V),by rw[<-f]⟩
 |true=>
  rw[bW]at Y;rw[if_neg (by rw[bW];simp)]at f;refine aP (Y W) ?_;generalize pn h F=b18 at*;refine aP a90 ?_;clear Y a90;refine ay (λa94=>?_) λa94=>?_
  .have a03:T=1:=a8v.1 (by grind);rw[if_pos a03]at f;refine ay (λq=>?_) λq=>?_
   .rw[if_pos ε]at f;exact⟨_,ι,kA.of (by rw[<-f];exact Z) (eQ.of V),by rw[<-f]⟩
   rw[if_neg ε]at f;refine ay (λc2=>?_) λc2=>?_
   .rw[if_pos ε]at f;exact⟨_,ι,kA.of (by rw[<-f];exact Z) (eQ.of V),by rw[<-f]⟩
   rw[if_neg ε]at f;have b63:=a4w (Y:=h) (O:=F);have b19:=a4v (Y:=h) (O:=F);have b20:=a4x (Y:=h) (O:=F);generalize jV h F=d at*;refine eF ι (by simp[ba]) λb64 b65 a95=>?_;refine aa ?_;refine ef (j:=[]) a95 (λ_ c=>by cases c) Hl (by rw[a7E,mb];omega) (by rw[a7E,mb];omega) λa30 a34 l5=>?_;rw[a7T]at l5|-;have j:=μ (l5.sub _ _ aD);refine aa ?_;refine aR λk N=>?_;have k2:(a34.set k (.cells (R.agg [bm F,.J (bX l4) a30,.J [] .nil,.v (.pointer η),.v (.pointer η)]).cells)) k=γ (.cells [bm F,.J (bX l4) a30,.J [] .nil,.v (.pointer η),.v (.pointer η)]):=ξ _ _ _;have k3:=π l5.sub (ν (b0:=.cells (R.agg [bm F,.J (bX l4) a30,.J [] .nil,.v (.pointer η),.v (.pointer η)]).cells) (ι (g:=a34)) N);have b66:w≠k:=by rintro rfl;rw[l5.sub _ _ E]at N;cases N
   refine aa ?_;have a96:fI D d (.ptr k 0) 0=[]:=by unfold fI;rw[if_pos (a7Y _)];rfl
   have b21:decide (d<0)=false:=σ;generalize a34.set k _=b22 at*;clear a95 l5 N j;refine ck [0,3,8] (λo:Nat×Own=>[(6,.J (fI D d (.ptr k 0) o.1) o.2),(7,.v (.bool (decide (d<o.1)))),(9,.v (.int .i64 (o.1:Int)))]) (λo n=>o.1<=β h/\bk b22 n 1 (fI D d (.ptr k 0) o.1) o.2) (λo=>β h - o.1) (0,.nil) ⟨⟨a7Y _,by rw[a96];exact bk.nil ι⟩,aK⟩ ?_;rintro⟨a,bx⟩ l6 ⟨l7,p⟩ a97
   dsimp only at l7 p|-
   have a98:=a4u (j:=D) (i:=d) (e:=a) (s:=.ptr k 0);have k4:=a4t (e:=d) (i:=a) (s:=.ptr k 0) P rfl;have fk:=μ (p.sub _ _ (k3 _ _ E));have b67:=μ (p.sub _ _ k2);clear a96 b21;refine aa ?_;refine ay (λaD=>?_) λaD=>?_
   .have k9:a<β h:=ε;have k5:h[a]?=γ (h.getD a default):=by simp[List.getD,k9]
    obtain⟨_,l0,a36,l,a99,b00,a04,a05,rfl,s,_,_,_⟩:=P.get k5;have A:=μ (p.sub _ _ (k3 _ _ s));have b01:=(w1 F (h.getD a default).name).1;rcases aak a d with B|B|B
    .have a38:=b19 a B;have L:=a4p (s:=.ptr k 0) B l0;have b23:¬d<a:=ε;have l8:¬d<a+1:=ε;generalize fI D d (.ptr k 0) a=a06 at*;rw[a38]at b01;refine aa ?_;refine hv p k4 λ_ S G z _=>?_;exact⟨(a+1,S),⟨by simp only;omega,by simp only[L];exact z⟩,⟨by simp only[L],by simp[l8],rfl⟩,by simp only;omega⟩
    .subst B;have a38:=b20 k9;have L:=a4q (s:=.ptr k 0) l0;have b23:¬a<a:=ε;generalize fI D a (.ptr k 0) a=a06 at*;rw[a38]at b01;have l8:a<a+1:=ε;refine aa ?_;refine hv p k4 λ_ S G z _=>?_;have fk:=μ (z.sub _ _ (k3 _ _ E));refine aa ?_;refine hv z (λC a42=>by rcases Ψ.1 a42 with c|c;exact k4 C c;rw[a7H]at c;subst c;rfl) λ_ S g z _=>?_;exact⟨(a+1,S),⟨by simp only;omega,by simp only[L];exact z⟩,⟨by simp only[L],by simp[l8],rfl⟩,by simp only;omega⟩
    .have L:=a4r (s:=.ptr k 0) B l0;have l8:d<a+1:=ε;generalize fI D d (.ptr k 0) a=a06 at*;refine aa ?_;refine hv p k4 λ_ S G z _=>?_;exact⟨(a+1,S),⟨by simp only;omega,by simp only[L];exact z⟩,⟨by simp only[L],by simp[l8],rfl⟩,by simp only;omega⟩
   .obtain rfl:a=β h:=ε;have a43:=a4s (j:=D) (e:=d) (s:=.ptr k 0) ε;rw[a01]at a43;have b02:=ω (p.sub _ _ (k3 _ _ E));by_cases B:d<β h
    .rw[if_pos B]at a43;refine aa ?_;have e:=π k3 p.sub;refine⟨_,ι,kA.of ?_ (eQ.of (π V e)).set,by rw[<-f]⟩;rw[<-f];exact AL (e _ _ E) (((P.mono λ_ _ c=>c.sub e).take d).append ⟨HZ (p.sub _ _ k2),(P.mono λ_ _ c=>c.sub e).drop d⟩)
    .rw[if_neg B]at a43;refine aa ?_;refine hv p k4 λ_ S G z _=>?_;have b02:=ω (z.sub _ _ (k3 _ _ E));refine aa ?_;have e:=π k3 z.sub;refine⟨_,ι,kA.of ?_ (eQ.of (π V e)).set,by rw[<-f]⟩;rw[<-f];exact AL (e _ _ E) (((P.mono λ_ _ c=>c.sub e).take d).append ⟨HZ (z.sub _ _ k2),(P.mono λ_ _ c=>c.sub e).drop d⟩)
  .have a03:¬T=1:=λC=>a94 (by rw[C];rfl);rw[if_neg a03]at f;refine ay (λq=>?_) λq=>?_
   .have b24:β h<=bB h F:=by omega
    rw[if_pos b24]at f;exact⟨_,ι,kA.of (by rw[<-f];exact Z) (eQ.of V),by rw[<-f]⟩
   have k9:bB h F<β h:=by omega
   obtain rfl:=a92 k9;rw[if_neg ε]at f;clear a92 b17 q;have b25:=qv k9;generalize bB h F=d at*;refine ay (λb03=>?_) λb03=>?_
   .have a07:T=2:=a8v.1 (by grind);rw[if_pos a07]at f;have b26:([]:ύ).eraseIdx d=[]:=List.eraseIdx_nil;refine ck [0,3,5] (λo:Nat×Own=>[(10,.J ((D.take o.1).eraseIdx d) o.2),(11,.v (.int .i64 (o.1:Int)))]) (λo n=>o.1<=β h/\bk W n 1 ((D.take o.1).eraseIdx d) o.2) (λo=>β h - o.1) (0,.nil) ⟨⟨a7Y _,by grind[bk.nil,ι]⟩,aK⟩ ?_;clear b26;rintro⟨a,bx⟩ l6 ⟨l7,p⟩ a97
    dsimp only at l7 p|-
    have a98:((D.take a).eraseIdx d).length<=a:=a8w (List.length_eraseIdx_le _ _) (by rw[a7z];omega);have k4:ba 1 ((D.take a).eraseIdx d):=λC a42=>HQ P C (a7J (aaC a42));have fk:=μ (p.sub _ _ E);refine aa ?_;refine ay (λaD=>?_) λaD=>?_
    .have b27:a<β h:=ε;have k5:h[a]?=γ (h.getD a default):=by simp[List.getD,b27]
     obtain⟨_,l0,a36,l,a99,b00,a04,a05,rfl,s,_,_,_⟩:=P.get k5;by_cases jK:a=d
     .subst jK;have L:=a4B (j:=D) (e:=a);generalize (D.take a).eraseIdx a=a06 at*;refine aa ?_;exact⟨(a+1,bx),⟨by simp only;omega,by simp only[L];exact p⟩,⟨by simp only[L],rfl⟩,by simp only;omega⟩
     .have L:=a4A (i:=d) l0 jK;generalize (D.take a).eraseIdx d=a06 at*;have b68:¬(a:Int)=(d:Int):=ε;refine aa ?_;refine hv p k4 λ_ S G z _=>?_;exact⟨(a+1,S),⟨by simp only;omega,by simp only[L];exact z⟩,⟨by simp only[L],rfl⟩,by simp only;omega⟩
    .obtain rfl:a=β h:=ε;rw[<-a01,a8c]at p|-;have b02:=ω (p.sub _ _ E);refine aa ?_;have e:=p.sub;refine⟨_,ι,kA.of ?_ (eQ.of (π V e)).set,by rw[<-f]⟩;rw[<-f];exact AL (e _ _ E) ((P.mono λ_ _ c=>c.sub e).erase d)
   .have a07:¬T=2:=λC=>b03 (by rw[C];rfl);rw[if_neg a07]at f;have b28:h[d]?=γ (h.getD d default):=by simp[List.getD,k9]
    have t:=a81.ok _ b25;obtain⟨_,l0,a36,l,a99,b00,a04,a05,rfl,s,b04,a47,a48⟩:=P.get b28;have A:=μ s;have b69:=a47.cells;have hN:=a48.cells;have b70:=t.c;have b29:=λx c=>t.row (n:=x) c;have b71:=t.ev;have b72:=b04.len;generalize b73:h.getD d default=b at*;have b74:=mb (a:=b.aH);have b75:=bn (n:=y);refine aa ?_;refine ay (λq=>?_) λq=>?_
    .rw[if_pos ε]at f;exact⟨_,ι,kA.of (by rw[<-f];exact Z) (eQ.of V),by rw[<-f]⟩
    rw[if_neg ε]at f;have l9:β y=β b.aH+1:=ε;have b30:=hZ (n:=y) ε r.du;rw[show y.getD 0 0=bP y from rfl]at b30;have b31:decide (y∈([]:List Ω))=false:=σ;refine ck [0,3,5,12] (λo:Nat×ύ×Own=>[(13,.J o.2.1 o.2.2),(14,.v (.bool (decide (y∈b.rows.take o.1)))),(15,.v (.int .i64 (o.1:Int)))]) (λo n=>o.1<=β b.rows/\bk W n 1 o.2.1 o.2.2/\aw isRow ((b.rows.take o.1).filter λx=>decide (x≠y)) o.2.1/\(T=3->∀x∈b.rows.take o.1,bP x≠bP y)) (λo=>β b.rows - o.1) (0,[],.nil) ⟨⟨a7Y _,bk.nil ι,trivial,λ_ x c=>by cases c⟩,aK⟩ ?_;clear b31;rintro⟨a,O,bx⟩ l6 ⟨l7,p,i,a08⟩ a97
    dsimp only at l7 p i a08|-
    have A:=μ (p.sub _ _ s);have j:=μ (p.sub _ _ aD);have a98:β O<=a:=by rw[i.len];grind
    refine aa ?_;refine ay (λaZ=>?_) λaZ=>?_
    .have b05:a<β b.rows:=ε;have k5:b.rows[a]?=γ (b.rows.getD a []):=by simp[List.getD,b05]
     obtain⟨_,L,a09,rfl⟩:=b04.get k5;have b76:=(b29 _ (a7C k5)).len;have n0:=fX (a:=b.rows) (b:=[]) (e:=a) b05;have b32:b.rows.getD a []∈b.rows:=a7C k5;generalize b.rows.getD a []=x at*;have b33:=hZ (n:=x) ε a09;rw[show x.getD 0 0=bP x from rfl]at b33;refine aa ?_;refine ay (λbt=>?_) λbt=>?_
     .refine ay (λb06=>?_) λb06=>?_
      .have n2:T=3:=a8v.1 (by grind);rw[if_neg (by rw[n2];decide),if_pos (aat.2 ⟨x,b32,decide_eq_true bt⟩)]at f;exact⟨_,ι,kA.of (by rw[<-f];exact Z.sub p.sub) (eQ.of (π V p.sub)),by rw[<-f]⟩
      have b77:¬T=3:=λC=>b06 (by rw[C];rfl);refine aP (qe x y a09 r.du _ ε) ?_;refine ay (λcr=>?_) λa10=>?_
      .subst cr;exact⟨(a+1,O,bx),⟨by simp only;omega,p,by simp_all,λc=>absurd c id⟩,⟨rfl,by simp[n0],rfl⟩,by simp only;omega⟩
      refine hv p (i.cells λ_ _=>ρ) λ_ S G z _=>?_;refine⟨(a+1,O++[.J (ab x) a09],S),⟨by simp only;omega,z,by simp only[n0,a8S];rw[a9T,if_pos (by simpa using a10),a9N];exact i.snoc ⟨_,rfl⟩,λn2 b07 a52=>?_⟩,⟨rfl,by grind,rfl⟩,by simp only;omega⟩;exact False.elim n2
     .have a10:x≠y:=λC=>bt (by rw[C]);refine hv p (i.cells λ_ _=>ρ) λ_ S G z _=>?_;refine⟨(a+1,O++[.J (ab x) a09],S),⟨by simp only;omega,z,by simp only[n0,a8S];rw[a9T,if_pos (by simpa using a10),a9N];exact i.snoc ⟨_,rfl⟩,λn2 b07 a52=>?_⟩,⟨rfl,by simp only[n0,Ψ,a7H];congr 2;exact decide_eq_decide.2 ⟨.inl,λc=>c.resolve_right λC=>a10 C.symm⟩,rfl⟩,by simp only;omega⟩;rw[n0]at a52;rcases Ψ.1 a52 with c|c
      .exact a08 n2 b07 c
      .obtain rfl:=a7H.1 c;exact bt
    .obtain rfl:a=β b.rows:=ε;rw[a8c]at i a08|-;refine aR λk N=>?_;have u:=Ν p.sub N;have k2:(l6.set k (.cells (R.agg [bm b.name,.J (bX b.aH) l,.J [] .nil,.v (.pointer η),.v (.pointer η)]).cells)) k=γ (.cells [bm b.name,.J (bX b.aH) l,.J [] .nil,.v (.pointer η),.v (.pointer η)]):=ξ _ _ _;have a56:=ν (b0:=.cells (R.agg [bm b.name,.J (bX b.aH) l,.J [] .nil,.v (.pointer η),.v (.pointer η)]).cells) (ι (g:=l6)) N;have b78:a02≠k:=by rintro rfl;rw[aD]at u;cases u
     have b79:a36≠k:=by rintro rfl;rw[s]at u;cases u
     have b80:w≠k:=by rintro rfl;rw[E]at u;cases u
     refine aa ?_;have l1:=π p.sub a56;have b34:=a56;generalize l6.set k _=b08 at*;clear N a56;have A:=μ (l1 _ _ s);have j:=μ (l1 _ _ aD);have b81:=a4z T 4;refine aa ?_;refine nT [0,3,5,12,16] (λ_:Unit=>[]) (λ_ n=>∃a11,b16=(0,h.set d a11)/\a11.name=b.name/\hI n a11 (.ptr k 0)/\W.sub n) (λq=>?_) (λq=>?_) ?_
     .have a13:T=4:=a8v.1 (by have c:=of_decide_eq_true q;have:(4:UInt8).toNat=4:=rfl;omega);rw[if_pos a13]at f;have aS:=ω k2;refine aa ?_;refine ay (λcr=>?_) λcr=>?_
      .rw[if_neg cr]at f;exact⟨_,ι,kA.of (by rw[<-f];exact Z.sub l1) (eQ.of (π V l1)),by rw[<-f]⟩
      .have b35:=cr;rw[if_pos b35]at f;clear cr;generalize k6:b08.set k _=G;have a57:G k=γ (.cells [bm b.name,.J (bX b.aH) l,.J O bx,.v (.pointer η),.v (.pointer η)]):=by subst k6;exact ξ _ _ _
       have H:W.sub G:=by subst k6;exact ν l1 u
       clear k6 aS k2;refine ak (a2n (β b.aH+1) ε ε y r.du l9 b.bK a04 G (a47.mono H) t.de.eV.ok (by have:=t.de.ch;omega)) ?_;rintro _ a14⟨m,k7,rfl,k8⟩;have n3:=m _ _ a57;have aS:=ω n3;have b36:=k8.cells;have A:=μ (m _ _ (H _ _ s));have j:=μ (m _ _ (H _ _ aD));refine aa ?_;generalize I:a14.set k _=g;have a61:g k=γ (.cells [bm b.name,.J (bX b.aH) l,.J O bx,k7,.v (.pointer η)]):=by subst I;exact ξ _ _ _
       have n4:W.sub g:=by subst I;exact ν (π H m) u
       have a62:en g (mf (β b.aH+1) y b.bK).1 k7:=by subst I;exact k8.iF (n:=5) Μ (iE.set n3 rfl)
       clear I aS A j;refine ak (a3W (e:=β b.aH+1) ε ε y r.du ⟨l9,X⟩ b.c9 a05 g (a48.fW (U.tg n4)) t.go) ?_;rintro _ l2⟨K,a63,b37,rfl,n5⟩;have v:=K _ _ a61;have aS:=ω v;have b38:=n5.cells;refine aa ?_;exact⟨(),b.del y,f.symm,rfl,⟨k,l,O,bx,k7,a63,rfl,ξ _ _ _,i,(a62.mono K).iF (n:=5) Μ (iE.set v rfl),n5.iF (n:=5) Μ (iE.set v rfl)⟩,π n4 K⟩
     .have a13:¬T=4:=λC=>(of_decide_eq_false q) (by rw[C];rfl);rw[if_neg a13]at f;have b39:T=3:=by have:=wg bW (by rw[a27];exact a03) (by rw[a27];exact a07);rw[a27]at this;exact this.resolve_right a13
      have b09:=a08 b39;rw[if_neg (λc=>by
       obtain⟨x,X,C⟩:=aat.1 c;exact b09 x X (of_decide_eq_true C))]at f
      have b40:b.rows.filter (λx=>decide (x≠y))=b.rows:=aab.2 λx X=>decide_eq_true λC=>b09 x X (by rw[C]);rw[b40]at i;have b82:=i.len;refine aa ?_;refine eF ι (by simp[ba]) λS G z=>?_;have j:=μ (z.sub _ _ (l1 _ _ aD));refine aa ?_;refine ef (j:=[]) z (λ_ c=>by cases c) (by simp[ba,ab,τ]) (by simp[bn];omega) (by simp[bn];omega) λb10 a14 m=>?_;rw[a7T];refine aa ?_;refine eF ι (by simp[ba,τ]) λb83 g a84=>?_;refine aa ?_;have b11:b08.sub g:=π m.sub a84.sub;refine yd (p.mono (π b34 b11)) (i.cells λ_ _=>ρ) (by simp[ba,τ]) Ι Ι λb41 l2 K b42=>?_;have v:=b42 _ _ (b11 _ _ k2);have b43:aw isRow (b.rows++[y]) (O++[.J (ab y) b10]):=i.snoc ⟨b10,rfl⟩;have b44:∀x∈b.rows++[y],bJ (β b.aH+1) x:=λx c=>by
       rcases Ψ.1 c with c|c
       .exact t.row c
       .obtain rfl:=a7H.1 c;exact⟨l9,X⟩
      refine aa ?_;refine ak (a4k (b.rows++[y]) _ b41 .nil (β b.aH+1) l2 b43 b44 ε ε Ι) ?_;rintro _ a65⟨b12,a68,a69,b45,rfl⟩;have b13:=b12 _ _ v;have aS:=ω b13;have a71:W.sub a65:=π K.sub b12;have A:=μ (a71 _ _ s);have j:=μ (a71 _ _ aD);refine aa ?_;generalize k6:a65.set k _=G;have a57:G k=γ (.cells [bm b.name,.J (bX b.aH) l,.J a68 a69,.v (.pointer η),.v (.pointer η)]):=by subst k6;exact ξ _ _ _
      have H:W.sub G:=by subst k6;exact ν a71 u
      clear k6 aS A j v b13;refine ak (zC (β b.aH+1) ε ε y r.du l9 b.bK a04 0 G G (a47.mono H) ι t.de.eV.ok (by have:=t.de.ch;omega)) ?_;rintro _ a14⟨m,k7,rfl,k8⟩;have k8:=k8.mono rK;have n3:=m _ _ a57;have aS:=ω n3;have b36:=k8.cells;have A:=μ (m _ _ (H _ _ s));have j:=μ (m _ _ (H _ _ aD));refine aa ?_;generalize I:a14.set k _=g;have a61:g k=γ (.cells [bm b.name,.J (bX b.aH) l,.J a68 a69,k7,.v (.pointer η)]):=by subst I;exact ξ _ _ _
      have n4:W.sub g:=by subst I;exact ν (π H m) u
      have a62:en g (dc (β b.aH+1) y b.bK 0).1 k7:=by subst I;exact k8.iF (n:=5) Μ (iE.set n3 rfl)
      clear I aS A j;refine ak (a1J (e:=β b.aH+1) ε ε y r.du ⟨l9,X⟩ b.c9 a05 g (a48.fW (U.tg n4)) t.go) ?_;rintro _ l2⟨K,a63,b37,rfl,n5⟩;have v:=K _ _ a61;have aS:=ω v;have b38:=n5.cells;refine aa ?_;exact⟨(),b.put y,f.symm,rfl,⟨k,l,a68,a69,k7,a63,rfl,ξ _ _ _,b45,(a62.mono K).iF (n:=5) Μ (iE.set v rfl),n5.iF (n:=5) Μ (iE.set v rfl)⟩,π n4 K⟩
     .rintro _ l2⟨a11,b84,b85,b46,l3⟩b86;have fk:=μ (l3 _ _ E);refine aa ?_;rw[tb];refine aa ?_;have b47:=a4C (w:=l2) (a7:=a19) P;refine fN (aq.zero ι) ε b47 ε Ι Ι λb18 a65 a15=>?_;rw[a7T]at a15;obtain⟨Q,n9,a00,a16,rfl,a18,b48,b49,b14,hm,b87,_⟩:=a15.ar (λC=>by rw[C]at a01;simp at a01;omega);rw[a8m]at b49 b14 hm;have b88:cU 1 (.ar Q n9 a00 1) (.v (.int .i64 (d:Int)))=γ (.ptr Q d):=by have:=iL (e:=1) (i:=Q) (t:=n9) (I:=a00) (e4:=.i64) (N:=(d:Int)) ε ε;simpa using this
      have b89:=ω b48;have b50:=a15.1 _ _ (l3 _ _ E);have b51:w≠Q:=by rintro rfl;rw[l3 _ _ E]at a18;cases a18
      have b90:=ω b50;have b91:(R.ar Q n9 a00 1).cells=[.ar Q n9 a00 1]:=rfl;have b92:d+1<=β a16:=ε;refine aa ?_;have b15:putAt a16 d [R.ptr k 0]=a16.set d (.ptr k 0):=by rw[a8N,if_pos ε];unfold putAt;rw[a7P];rfl
      refine⟨_,ι,l2,D.set d (.ptr k 0),aw.set d (P.mono λ_ _ c=>c.sub l3) b46,⟨_,l3 _ _ E⟩,eQ.of (π V l3),λb52 b93 b53 a73=>?_,.inr ⟨Q,n9,a00,putAt a16 d [.ptr k 0],a18,ξ _ _ _,?_,?_,?_⟩⟩
      .have:b52≠Q:=by rintro rfl;rw[a18]at a73;cases a73
       rw[ο _ _ b53,ο _ _ this];exact a15.1 _ _ a73
      .rw[ο _ _ b51.symm,ξ]
      .rw[b15,aah];omega
      .rw[b15,ki,List.take_set,b14]
def a4E(o:U)(a p:Nat)(d:List aU)(b:ic o a d)(j:dr p d)(l:p<900)(c:cX)(m:c.d.Fit)(n:bs c.d.row):
  AC δ 18 [.ptr a 0,c.V] o λL f=>ic f a (fh d c.d).2/\eQ a o f/\L=.v (.int .i64 (fh d c.d).1):=
 (a4D o a p d b j l c m n).view λL f b=>by
  obtain⟨⟨r,P,S,⟨v,T⟩,V,x,y⟩,rfl⟩:=b;have W:∀z,eQ a r z->iE 1 r z:=λz C h D k q=>C h _ (by rintro rfl;rw[T]at k;obtain rfl:=bq.cells.inj (Δ k);exact q rfl) k;rcases y with⟨E,y⟩|⟨h,s,w,D,F,t,k,hm,C⟩
  .exact⟨_,f,View.refl,⟨P,E,y,S.mono λ_ _ b=>b.iF (W _ x)⟩,V.trans x,rfl⟩
  .have u:a≠h:=by rintro rfl;rw[T]at F;cases F
   have e:eQ a r ((f.set h (.ro D)).set a (.cells ([]++ .J (eZ 1 s D) .any::[]))):=λg E i G=>by
    have:g≠h:=by rintro rfl;rw[F]at G;cases G
    rw[ο _ _ i,ο _ _ this];exact x g E i G
   exact⟨_,_,View.obj (B:=[]) t k ε u,⟨P,.any,by rw[ξ,C];rfl,S.mono λ_ _ b=>b.iF (W _ e)⟩,V.trans e,rfl⟩
def mo(a:List cX):ύ:=a.map cX.V
def AM{a:List cX}:(mo a).length=β a:=by simp[mo]
def I0{a:List cX}{b:cX}(c:a[e]?=γ b):fC 4 (mo a)[e]?=γ (.c4 b.C):=by obtain⟨d,rfl⟩:=a7B.1 c;rw[show(mo a)[e]?=γ (a[e]).V by simp[mo,d]];rfl
structure ji(a:af)(l:List aT)(cR:List aU):Prop where
 eq:l=cR.map aU.bu
 ins:∀t∈cR,dM a t.bK/\jT a t.c9
theorem I1{b c:af->Except Int aj×af}(p:∀a:af,a.le (b a).2)(r:∀a:af,a.le (c a).2)(a:af)(x:List aT)(y:aT):a.le (fT b c a x y).2.2:=by
 unfold fT;have d:=p a;generalize b a=f at*;obtain⟨h,k⟩:=f;cases h with
 |error z=>exact d
 |ok C=>
  have o:=r k
  dsimp only
  generalize c k=f at*;obtain⟨h,D⟩:=f;cases h with
  |error z=>exact d.trans o
  |ok E=>exact d.trans o
def I2(E:dr e Y)(F:e<=1000){a:aU}(G:ez i h4)(L:i<=1000)(x:h4.name=a.name)(P:h4.aH=a.aH)(S:bB Y a.name<β Y){c b:af->Except Int aj×af}
  (p:gF H h4.bK (c H)) (f:∀d:af,H.le d->d.one=κ->qu d h4.c9 (b d)) (T:∀d:af,d.le (b d).2) (h:(fT c b H (Y.map aU.bu) a.bu).2.2.one=κ):
  (fT c b H (Y.map aU.bu) a.bu).1=0/\(fT c b H (Y.map aU.bu) a.bu).2.1=(Y.set (bB Y a.name) h4).map aU.bu/\H.le (fT c b H (Y.map aU.bu) a.bu).2.2/\dM (fT c b H (Y.map aU.bu) a.bu).2.2 h4.bK/\jT (fT c b H (Y.map aU.bu) a.bu).2.2 h4.c9:=by
 unfold fT at h|-;generalize c H=k at*;obtain⟨r,o⟩:=k;cases r with
 |error V=>cases (p.ins h).1
 |ok W=>
  dsimp only at h|-
  have z:=T o;have C:o.one=false:=by
   revert h;generalize b o=k at*;obtain⟨r,g⟩:=k;cases r with
   |error V=>exact λy=>z.zero y
   |ok W=>exact λy=>z.zero y
  obtain⟨j,l⟩:=p.ins C;obtain rfl:=Except.ok.inj j;have f:=f o p.le C;generalize b o=k at*;obtain⟨r,g⟩:=k;obtain rfl:=f.ok
  dsimp only at h|-
  have D:=rm E F G L (by rw[x];exact S);have m:h4.bu=⟨a.bu.name,a.bu.aH,br h4.bK,gn h4.c9⟩:=by show(⟨h4.name,h4.aH,br h4.bK,gn h4.c9⟩:aT)=⟨a.name,a.aH,br h4.bK,gn h4.c9⟩;rw[x,P]
  rw[m,x]at D;rw[D];exact⟨rfl,rfl,p.le.trans f.le,l.mono f.le,f.ins h⟩
def a4F(a:af)(b:aj):a.le (oh e n a b).2:=A9 _ _ _ _
variable{j8:Int × List aT × af}{e7:List aT}
theorem a4G(a:mn H e7 e3 j8):H.le j8.2.2:=by
 unfold mn at a;split at a
 .rw[a];exact Ε
 split at a
 .rcases a with⟨_,rfl⟩|⟨rows,_,_,⟨_,rfl⟩|⟨_,rfl⟩⟩
  .exact Ε
  .exact I1 (λH=>a4F _ _) (λH=>G4) _ _ _
  .exact Ε
 .rw[a];exact Ε
theorem a4H:H.le (jS H e7 e3).2.2:=by grind[jS,Ε,I1,a3c,G7]
theorem a4I(a:eP H e7 e3 j8):H.le j8.2.2:=by grind[eP,Ε,a4G,a4H]
theorem AN{b:Except Int (List aT)}(c:cN e7=ζ)(d:∀a,b=.ok a->cN a=ζ):cN (jg b e7).2=true:=by
 cases b with
 |error f=>exact c
 |ok a=>exact d a rfl
variable{h8:aT}
theorem I3{a b:af->Except Int aj×af}(c:cN e7=ζ):cN (fT a b H e7 h8).2.1=true:=by grind[fT,AN,Hz]
theorem a4J(b:cN e7=ζ)(a:eP H e7 e3 j8):cN j8.2.1=true:=by
 unfold eP at a;split at a
 .rw[a];exact b
 split at a
 .rw[a];exact AN b λc a=>HC a
 split at a
 .rw[a];exact AN b λc a=>Hy b a
 split at a
 .unfold mn at a;split at a
  .rw[a];exact b
  split at a
  .rcases a with⟨_,rfl⟩|⟨rows,_,_,⟨_,rfl⟩|⟨_,rfl⟩⟩
   .exact b
   .exact I3 b
   .exact b
  .rw[a];exact b
 grind[jS,I3]
def I4(c:cN e7=ζ):∀a∈e7,a.Fit:=λa d=>by
 have b:=(qs c).1 a d;exact⟨by have:=b.n;omega,by have:=b.c;omega,λf h=>by have:=b.cs f h;omega⟩
theorem u2(a:eP H e7 e3 j8)(p:dr e Y)(I:e<900)(k:bs e3.row)(t:ji H e7 Y)(L:j8.2.2.one=κ):
  j8.1=(fh Y e3).1/\ji j8.2.2 j8.2.1 (fh Y e3).2:=by
 obtain⟨rfl,r⟩:=t;have t:ji H (Y.map aU.bu) Y:=⟨rfl,r⟩;unfold eP at a;unfold fh;by_cases K:eO e3=κ;simp_all;rw[if_neg K]at a|-;have V:eO e3=true:=by simp_all
 by_cases x:e3.kind=1
 .rw[if_pos x]at a|-;have M:=AF V x;rw[add_eq p ε M]at a;by_cases c2:bB Y e3.table<β Y
  .rw[if_pos c2]at a|-;rw[a];trivial
  rw[if_neg c2]at a|-;by_cases aD:7<β Y
  .rw[if_pos aD]at a|-;rw[a];trivial
  rw[if_neg aD]at a|-;rw[a];refine⟨rfl,rfl,λb c=>?_⟩;simp only[Ψ,a7S]at c;rcases c with c|rfl|c;grind
  .trivial
  grind
 rw[if_neg x]at a|-;by_cases aD:e3.kind=2
 .rw[if_pos aD]at a;rw[AG p ε]at a;by_cases c2:bB Y e3.table<β Y
  .rw[if_pos c2]at a;rw[if_neg ε,if_pos aD,a];exact⟨rfl,rfl,λb c=>r b (aaC c)⟩
  .rw[if_neg c2]at a;rw[if_pos ε,a];trivial
 rw[if_neg aD]at a;by_cases c2:β Y<=bB Y e3.table
 .rw[if_pos c2];have W:(Y.map aU.bu).find? (λb=>decide (b.name=e3.table))=none:=by rw[ov,a9H c2];rfl
  rcases wg V x aD with f|f
  .rw[if_pos f]at a;unfold mn at a;simp_all
  .rw[if_neg (by rw[f];decide)]at a;unfold jS nj at a;simp_all
 rw[if_neg c2,if_neg aD];have y:bB Y e3.table<β Y:=ε;have u:=qv y;have c:=p.ok _ u;have P:=u1 y;have W:(Y.map aU.bu).find? (λb=>decide (b.name=e3.table))=γ (Y.getD (bB Y e3.table) default).bu:=by rw[ov,a7V,Τ y];rfl
 generalize Y.getD (bB Y e3.table) default=b at*;have k7:=c.c;obtain⟨z,w⟩:=r b u;have k8:=c.de.ch;have S:∀T:aU,dM j8.2.2 T.bK/\jT j8.2.2 T.c9->H.le j8.2.2->∀v∈Y.set (bB Y e3.table) T,dM j8.2.2 v.bK/\jT j8.2.2 v.c9:=λT C o v N=>by
  rcases a9J N with d|rfl
  .exact⟨(r v d).1.mono o,(r v d).2.mono o⟩
  .exact C
 rcases wg V x aD with f|f
 .rw[if_pos f]at a;rw[if_neg (show¬e3.kind=4 by rw[f];decide)];unfold mn at a;rw[W]at a
  dsimp only at a
  by_cases aL:β e3.row=β b.aH+1
  .rw[if_neg (show¬β e3.row≠β b.aH+1 from λd=>d aL)];rw[if_pos (show β e3.row=β b.bu.aH+1 from aL)]at a;have g:bJ (β b.aH+1) e3.row:=⟨aL,k⟩;rcases a with⟨D,_⟩|⟨rows,O,_,a⟩
   .exact absurd D (w8 (e:=β b.aH+1) ε ε c.de.eV ε z)
   have Q:=w9 ε ε c.de.eV ε z O;have X:rows=[]↔ ¬b.rows.any (λE=>decide (bP E=bP e3.row))=true:=by
    rw[Q,aat];constructor
    .rintro d⟨E,k,h⟩;exact d E (c.fD.mem_iff.2 k) ((u0 ε (c.row k)).2 (of_decide_eq_true h))
    .intro d Z k2 F;have A:=c.fD.mem_iff.1 k2;exact d ⟨Z,A,decide_eq_true ((u0 ε (c.row A)).1 F)⟩
   rcases a with⟨h,a⟩|⟨h,a⟩
   .have B:=X.1 h;rw[if_neg B];obtain⟨C,i,j⟩:=c.put I g λE k h=>B (aat.2 ⟨E,k,decide_eq_true h⟩);have D:=a3d ε ε g c.de.eV ε z i;rw[a]at L S|-;have F:=I2 (a:=b) p ε C ε rfl rfl (by rw[P];exact y) (c:=λH=>oh (β b.aH+1) e3.row H (br b.bK)) D (λl o k3=>a3P ε ε g c.go (w.mono o) j) (λl=>G4) L;obtain⟨m,G,n,q,s⟩:=F;rw[P]at G;exact⟨m,G,S _ ⟨q,s⟩ n⟩
   grind
  .rw[if_neg (show¬β e3.row=β b.bu.aH+1 from aL)]at a;grind
 .rw[if_neg (by rw[f];decide)]at a;rw[if_pos f];unfold jS nj at a;rw[W]at a
  dsimp only at a
  by_cases aL:β e3.row=β b.aH+1
  .rw[if_neg (show¬β e3.row≠β b.aH+1 from λd=>d aL)];rw[if_pos (show β e3.row=β b.bu.aH+1 from aL)]at a
   dsimp only at a
   rw[if_pos rfl]at a;by_cases bt:e3.row∈b.rows
   .rw[if_pos bt];obtain⟨C,i,j⟩:=c.del bt;have D:=a3e ε ε c.de.eV ε z i;rw[a]at L S|-;have F:=I2 (a:=b) p ε C ε rfl rfl (by rw[P];exact y) (c:=λH=>jf (β b.aH+1) e3.row H (br b.bK)) D (λl o k3=>a3U ε ε (c.row bt) c.go (w.mono o) j) (λl=>G7) L;obtain⟨m,G,n,q,s⟩:=F;rw[P]at G;exact⟨m,G,S _ ⟨q,s⟩ n⟩
   .rw[if_neg bt];have k4:=Hb ε ε c.de.eV ε z (c.none aL bt);have k5:j8=(9,Y.map aU.bu,H):=by
     rw[a];unfold fT;show(match jf (β b.aH+1) e3.row H (br b.bK)with
      |(.error h,k6)=> _
      |(.ok k9,k6)=> _)= _
     rw[k4]
    rw[k5];trivial
  .rw[if_neg (show¬β e3.row=β b.bu.aH+1 from aL)]at a;simp_all
inductive wh:af->List aT->List cC->Int×List aT×af->Prop
 |nil (a:af) (l:List aT):wh a l [] (0,l,a)
 |stop {a:af}{l:List aT}{d:cC}{cR:List cC}{res:Int×List aT×af}:eP a l d res->res.1≠0->wh a l (d::cR) res
 |step {a:af}{l:List aT}{d:cC}{cR:List cC}{res b:Int×List aT×af}:eP a l d res->res.1=0->wh res.2.2 res.2.1 cR b->wh a l (d::cR) b
def a4K(o:dr e Y)(p:e<=1000):∀k∈Y.map aU.bu,k.In:=λk r=>by
 obtain⟨f,x,rfl⟩:=a7M.1 r;have c:=o.ok f x;have z:=c.c;have C:=c.de.ch;have a:=(fR ε ε c.de.eV ε).o8 ε;refine⟨Hk (c.bu p),?_,?_⟩
 .show(br f.bK).In 8;have:=a.yv;have:=a.yw;have:=a.yx;exact⟨a.sum,a.az,a.aE,a.key,ε,ε,ε,a.rp,a.live,a.rq,a.size⟩
 .show(gn f.c9).In 8;rcases AB ε ε c.go with⟨_,h⟩|⟨_,h⟩
  .rw[h];have d:bs []:=λD y=>(by cases y);exact⟨bo,d,d,d,a7Y _,a7Y _,a7Y _,Μ,Μ,Μ,Μ⟩
  .have d:=c.nk.length_eq;have E:=c.ev;have b:=h.o8 ε;have:=b.yv;have:=b.yw;have:=b.yx;exact⟨b.sum,b.az,b.aE,b.key,ε,ε,ε,b.rp,b.live,b.rq,b.size⟩
abbrev jj(a:Nat):R:=hi (a/18446744073709551616) (a%18446744073709551616)
abbrev fi(a:Int):Prop:= -9223372036854775808<=a/\a<9223372036854775808
def hj(a b:Int):Nat:=(max a b - min a b).toNat
def mq(a b c:Int):Nat:=if a<b then hj a b else if a>c then hj a c else 0
def s5(a c:Ω):Nat:=((ψ (β a)).map λb=>hj (a.getD b 0) (c.getD b 0)).sum
def wi(b c d:Ω):Nat:=((ψ (β b)).map λa=>mq (b.getD a 0) (c.getD a 0) (d.getD a 0)).sum
variable{N j2:Int}
def wj(a:fi N)(b:fi j2):hj N j2<18446744073709551616:=by unfold hj;omega
def a4L{a:Int}(b:fi N)(c:fi j2)(d:fi a):mq N j2 a<18446744073709551616:=by
 have:=wj b c;have:=wj b d;unfold mq;split
 .omega
 split<;>omega
def a4M(a:fi N)(b:fi j2):IntKind.u64.wrap (IntKind.u64.wrap (max N j2) - IntKind.u64.wrap (min N j2))=(hj N j2:Int):=by show((max N j2)%18446744073709551616 -(min N j2)%18446744073709551616)%18446744073709551616= _;unfold hj;omega
def apart_spec(b:fi N)(c:fi j2)(a:U):AC δ 264 [.v (.int .i64 N),.v (.int .i64 j2)] a λd f=>f=a/\d=.v (.int .u64 (hj N j2:Int)):=by have h:=a4M b c;have k:bj .sub (.int .u64 (IntKind.u64.wrap (max N j2))) (.int .u64 (IntKind.u64.wrap (min N j2)))=γ (.int .u64 (IntKind.u64.wrap (IntKind.u64.wrap (max N j2) - IntKind.u64.wrap (min N j2)))):=rfl;rw[h]at k;refine aM hm Tj ?_;trivial
def a4N{b:Int}(c:fi N)(f:fi j2)(h:fi b)(d:U):AC δ 208 [.v (.int .i64 N),.v (.int .i64 j2),.v (.int .i64 b)] d λk o=>o=d/\k=.v (.int .u64 (mq N j2 b:Int)):=by
 refine aM hm RT ?_;refine ay (λa=>?_) λa=>?_
 .refine aP (apart_spec c f _) ?_;simp[mq,a]
 .refine ay (λc2=>?_) λc2=>?_
  .refine aP (apart_spec c h _) ?_;simp[mq,a,c2]
  .simp[mq,a,c2]
def a4O:sz (.v (.int .u64 (e:Int))) (.v (.int .u64 (i:Int))) (.v (.int .u64 0))=γ (.aJ [.v (.int .u64 (((e+i)%18446744073709551616:Nat):Int)),.v (.int .u64 (((e+i)/18446744073709551616:Nat):Int))]):=by simp only[sz];rw[if_pos ε];simp
def a4P(a b:Nat)(p:b<18446744073709551616)(r:a+b<340282366920938463463374607431768211456)(c:U):AC δ 291 [jj a,.v (.int .u64 (b:Int))] c λd f=>f=c/\d=jj (a+b):=by
 have h:=a4O (e:=a%18446744073709551616) (i:=b);have x:bj .add (.int .u64 ((a/18446744073709551616:Nat):Int)) (.int .u64 (((a%18446744073709551616+b)/18446744073709551616:Nat):Int))=γ (.int .u64 ((((a+b)/18446744073709551616:Nat):Int))):=by have k:bj .add (.int .u64 ((a/18446744073709551616:Nat):Int)) (.int .u64 (((a%18446744073709551616+b)/18446744073709551616:Nat):Int))=γ (.int .u64 (IntKind.u64.wrap (((a/18446744073709551616:Nat):Int)+(((a%18446744073709551616+b)/18446744073709551616:Nat):Int)))):=rfl;rw[k];congr 2;show(_:Int)%18446744073709551616= _;omega
 have o:(a%18446744073709551616+b)%18446744073709551616=(a+b)%18446744073709551616:=ε;rw[o]at h;refine aM hm TZ ?_;refine bg λy a=>?_;refine cy λz C D E=>?_;exact aK
abbrev UV(a:ϋ):ύ:=a.map λ(b:Nat)=>.v (.int .u64 (b:Int))
abbrev s6(a:Nat):ύ:=[.v (.int .u64 ((a/18446744073709551616:Nat):Int)),.v (.int .u64 ((a%18446744073709551616:Nat):Int))]
variable{j7:ϋ}
def I5:(UV j7).length=β j7:=a7Q _
def I6(a:e<β j7):(UV j7)[e]?=γ (.v (.int .u64 ((j7.getD e 0:Nat):Int))):=by simp[a]
def wk:∀ {l:ϋ},(∀a∈l,a<18446744073709551616)->l.sum<=β l*18446744073709551616
 |[],_=>Χ _
 |a::l,b=>by
  have f:=wk (l:=l) λc d=>b c (by simp[d]);have h:=b a σ;rw[a8o,a7I];omega
theorem a4Q(a:ϋ)(r:Own)(o:∀d∈a,d<18446744073709551616)(P:β a<=8)(c:U):AC δ 263 [.J (UV a) r] c λx f=>f=c/\x=jj a.sum:=by
 have S:=I5 (j7:=a);have T:=@υ;refine aM hm Th ?_;refine bg λp y=>?_;refine cy λz V W e=>?_;have g:=ν (b0:=.cells [.v (.int .u64 0),.v (.int .u64 0)]) (ι (g:=c)) y;have c2:=ξ c p (.cells [.v (.int .u64 0),.v (.int .u64 0)]);generalize c.set p _=C at*;refine ck [2,3,6,7] (λb:Nat=>[(8,.v (.int .i64 (b:Int)))]) (λb f=>b<=β a/\f=C.set z (.cells (s6 (a.take b).sum))) (λb=>β a - b) 0 ⟨⟨a7Y _,by simp[s6]⟩,aK⟩ ?_;rintro b _⟨i,rfl⟩j;refine aa ?_;refine ay (λD=>?_) λD=>?_
 .have h:b<β a:=ε;have l:=I6 h;have E:=fX (b:=0) h;have F:=wk (l:=a.take b) λd k=>o d (a7J k);have k:=o (a.getD b 0) (by grind);rw[a7z]at F;have G:(a.take (b+1)).sum=(a.take b).sum+a.getD b 0:=by rw[E];simp
  generalize a.getD b 0=L at*;refine aa ?_;refine aP (a4P (a.take b).sum L k ε _) ?_;refine aa ?_;exact⟨b+1,⟨h,by rw[G]⟩,rfl,ε⟩
 .obtain rfl:b=β a:=ε;rw[a8c];have m:=ω c2;refine aa ?_;trivial
def hJ(a:Nat->Nat)(b:Nat):ύ:=UV ((ψ b).map a)
def I7(c:Nat)(m:c<=8)(p:FuncId)(y z:ύ)(b:Nat->Nat)(G:gw δ p=ζ)(f:U)(L:∀a,a<c->b a<18446744073709551616)
  (P:∀h,f.sub h->∀a:Nat,a<c->AC δ p (y++[.v (.int .i64 (a:Int))]++z) h λr k=>k=h/\r=.v (.int .u64 (b a:Int))):
  AC δ 206 [.v (.int .i64 (c:Int)),.bG p y z] f λr k=>k=f/\r=jj (((ψ c).map b).sum):=by
 refine aM hm RP ?_;refine bg λC S=>?_;have D:=ν (b0:=.cells [.v (.int .u64 0),.v (.int .u64 0)]) (ι (g:=f)) S;have aL:=ξ f C (.cells [.v (.int .u64 0),.v (.int .u64 0)]);generalize f.set C _=x at*;have T:hJ b 0=[]:=rfl;refine ck [1,4,7] (λd:Nat×Own=>[(8,.v (.int .i64 (d.1:Int))),(5,.J (hJ b d.1) d.2)]) (λd k=>d.1<=c/\bk x k 1 (hJ b d.1) d.2) (λd=>c - d.1) (0,.nil) ⟨⟨a7Y _,by show bk x x 1 (hJ b 0) .nil;rw[T];exact bk.nil ι⟩,aK⟩ ?_;rintro⟨a,V⟩ h ⟨W,o⟩ n
 dsimp only at W o|-
 have q:(hJ b a).length=a:=by simp[hJ]
 refine aa ?_;refine ay (λe=>?_) λe=>?_
 .refine fa G (P h (π D o.sub) a ε) ?_;rintro _ _⟨rfl,rfl⟩;have g:hJ b a++[.v (.int .u64 (b a:Int))]=hJ b (a+1):=by simp[hJ,a9r]
  refine aa ?_;refine hv o (λd i=>by obtain⟨E,_,rfl⟩:=a7M.1 (i:d∈UV _);rfl) λ_ j s F _=>?_;rw[g]at F;exact⟨(a+1,j),⟨by show a+1<=c;omega,F⟩,⟨rfl,rfl⟩,by show c -(a+1)<c - a;omega⟩
 .obtain rfl:a=c:=ε;refine aP (a4Q ((ψ a).map b) V (λt hm=>by
   obtain⟨E,l,rfl⟩:=a7M.1 hm;exact L E (by simpa using l)) Ι _) ?_
  have u:=ω (o.sub _ _ aL);refine aa ?_;exact π D o.sub
def a4R(b:U)(f h:Nat)(c d:Ω)(k o:Own)(a:Nat)(D:b.read f=γ [.J (ab c) k])(E:b.read h=γ [.J (ab d) o])(p:a<β c)(r:a<β d)(x:fi (c.getD a 0))(y:fi (d.getD a 0)):
  AC δ 292 [.v (.int .i64 (a:Int)),.ptr f 0,.ptr h 0] b λz C=>C=b/\z=.v (.int .u64 (hj (c.getD a 0) (d.getD a 0):Int)):=by
 have F:=cP p;have G:=cP r;refine aM hm U1 ?_;refine aa ?_;refine aP (apart_spec x y _) ?_;exact aK
def a4S(b:U)(h k:Nat)(c d f:Ω)(o p r:Own)(a:Nat)(L:b.read h=γ [.J (ab c) o])(P:b.read k=γ [.J (ab d) p,.J (ab f) r])(x:a<β c)(y:a<β d)(z:a<β f)(C:fi (c.getD a 0))(D:fi (d.getD a 0))(E:fi (f.getD a 0)):
  AC δ 207 [.v (.int .i64 (a:Int)),.ptr h 0,.ptr k 0] b λF G=>G=b/\F=.v (.int .u64 (mq (c.getD a 0) (d.getD a 0) (f.getD a 0):Int)):=by
 have S:=cP x;have T:=cP y;have V:=cP z;refine aM hm RR ?_;refine aa ?_;refine aP (a4N C D E _) ?_;exact aK
def hl(b:bs n)(a:Nat):fi (n.getD a 0):=by
 rw[a7V];cases c:n[a]? with
 |none=>exact⟨Μ,Μ⟩
 |some d=>exact b d (a7C c)
def I8(a:Ω)(c:Own)(b:U)(h:β a<=1000000000000):AC δ 205 [.J (ab a) c] b λd f=>f=b/\d=.v (.bool (decide (1<=β a/\β a<=8))):=by
 have k:=bn (n:=a);refine aM hm RN ?_
 repeat' first|refine ay (λ_=>?_) λ_=>?_|trivial
 all_goals exact aY
def a4T(a c:Ω)(h r:Own)(k:U)(x:bs a)(y:bs c)(T:β c=β a)(V:1<=β a)(D:β a<=8):AC δ 266 [.J (ab a) h,.J (ab c) r] k λE F=>F=k/\E=.aJ [jj (s5 a c),.v (.int .i64 0)]:=by
 have W:=bn (n:=a);have e:=bn (n:=c);refine aM hm Tl ?_;refine bg λo g=>?_;refine cy λp i j l=>?_;refine gz λz m n q a3 a4=>?_;refine aP (I8 a h _ ε) ?_;refine aa ?_;generalize d:((k.set o _).set p _).set z _=f;have cl:f o=γ (.cells [.J (ab a) h]):=by subst d;exact aK
 have G:f p=γ (.cells [.J (ab c) r]):=by subst d;exact aK
 have L:f z=γ (.cells [.v (.int .u64 0),.v (.int .u64 0)]):=by subst d;exact aK
 have s:k.sub f:=by subst d;exact aK
 clear d;refine aP (I7 (β a) D _ [] [.ptr o 0,.ptr p 0] (λb=>hj (a.getD b 0) (c.getD b 0)) Φ f (λb _=>wj (hl x b) (hl y b)) λP C b S=>a4R P o p a c h r b (μ (C _ _ cl)) (μ (C _ _ G)) S ε (hl x b) (hl y b)) ?_;have t:=ω L;refine aa ?_;rfl
def a4U(a c d:Ω)(k x y:Own)(o:U)(z:bs a)(C:bs c)(D:bs d)(e:β c=β a)(g:β d=β a)(i:1<=β a)(G:β a<=8):AC δ 136 [.J (ab a) k,eL c d x y] o λL P=>P=o/\L=.aJ [jj (wi a c d),.v (.int .i64 0)]:=by
 have j:=bn (n:=a);have l:=bn (n:=c);have m:=bn (n:=d);refine aM hm Q9 ?_;refine bg λp n=>?_;refine cy λr q s t=>?_;refine gz λE u v w a3 a4=>?_;refine aP (I8 a k _ ε) ?_;refine aa ?_;generalize f:((o.set p _).set r _).set E _=h;have cl:h p=γ (.cells [.J (ab a) k]):=by subst f;exact aK
 have S:h r=γ (.cells [.J (ab c) x,.J (ab d) y]):=by subst f;exact aK
 have T:h E=γ (.cells [.v (.int .u64 0),.v (.int .u64 0)]):=by subst f;exact aK
 have A:o.sub h:=by subst f;exact aK
 clear f;refine aP (I7 (β a) G _ [] [.ptr p 0,.ptr r 0] (λb=>mq (a.getD b 0) (c.getD b 0) (d.getD b 0)) Φ h (λb _=>a4L (hl z b) (hl C b) (hl D b)) λV F b W=>a4S V p r a c d k x y b (μ (F _ _ cl)) (μ (F _ _ S)) W ε ε (hl z b) (hl C b) (hl D b)) ?_;have B:=ω T;refine aa ?_;rfl
def I9(c:e<9223372036854775808):e^^^9223372036854775808=e+9223372036854775808:=by
 rw[show(9223372036854775808:Nat)=2^63 from rfl]at*;apply aa1;intro a;rw[aaP,abF,aaO e];rcases aak a 63 with b|b|b
 .rw[ab0 b];have:¬63=a:=ε;simp[this]
 .subst b;rw[Nat.testBit_two_pow_add_eq];simp[a9d c]
 .have d:e<2^a:=a8F c (a9a ε ε);have f:2^63+e<2^a:=by have:2^64<=2^a:=a9a ε ε;omega
  have:¬63=a:=ε;rw[a9d d,a9d f];simp[this]
def a4V(a:9223372036854775808<=e):e^^^9223372036854775808=e - 9223372036854775808\/18446744073709551616<=e:=by
 by_cases b:e<18446744073709551616
 .have:=I9 (e:=e - 9223372036854775808) ε;rw[Nat.sub_add_cancel a]at this;refine .inl ?_
  conv=>lhs;rw[<-this]
  rw[Nat.xor_assoc,Nat.xor_self,Nat.xor_zero]
 .exact .inr ε
def Ia(f:fi N):mi N=(N+9223372036854775808).toNat:=by
 have c:(ς 64 (IntKind.u64.wrap N)).toNat=(N%18446744073709551616).toNat:=by rw[BitVec.toNat_ofInt];show((N%18446744073709551616)%18446744073709551616).toNat= _;omega
 have d:(ς 64 9223372036854775808).toNat=9223372036854775808:=by rfl
 unfold mi;rw[abd,c,d];show(((_:Nat):Int)%18446744073709551616).toNat= _;by_cases h:0<=N
 .have a:(N%18446744073709551616).toNat=N.toNat:=ε;rw[a,I9 ε];omega
 .have a:(N%18446744073709551616).toNat=(N+18446744073709551616).toNat:=ε;rw[a];rcases a4V (e:=(N+18446744073709551616).toNat) ε with b|b
  .rw[b];omega
  .omega
def kB(a:Int):Nat:=(9223372036854775807 - a).toNat
def Ib(d:fi N)(a:U):AC δ 135 [.v (.int .i64 N)] a λb c=>c=a/\b=hi 0 (kB N):=by
 have f:bj .sub (.int .u64 9223372036854775807) (.int .u64 (IntKind.u64.wrap N))=γ (.int .u64 (kB N:Int)):=by have:bj .sub (.int .u64 9223372036854775807) (.int .u64 (IntKind.u64.wrap N))=γ (.int .u64 (IntKind.u64.wrap (9223372036854775807 - IntKind.u64.wrap N))):=rfl;rw[this];congr 2;show(9223372036854775807 - N%18446744073709551616)%18446744073709551616= _;unfold kB;omega
 refine aM hm Q7 ?_;refine bg λh k=>?_;rfl
def cn(a:cq)(b:Ω):Nat:=if a.kind=3 then s5 (b.drop 1) a.at_ else if a.kind=2 then kB (b.getD a.fA.toNat 0)else(b.getD a.fA.toNat 0+9223372036854775808).toNat
def iG(a:cq)(b c:Ω):Nat:=if a.kind=3 then wi a.at_ (b.drop 1) (c.drop 1)else if a.kind=2 then kB (c.getD a.fA.toNat 0)else(b.getD a.fA.toNat 0+9223372036854775808).toNat
def AO{a:UInt8}(b:(a.toNat:Int)=2):a=2:=a8v.1 (by show a.toNat=2;omega)
def AP{a:UInt8}(b:(a.toNat:Int)=3):a=3:=a8v.1 (by show a.toNat=3;omega)
def s7(a:e<18446744073709551616):jj e=hi 0 e:=by rw[jj,abe a,a9c a]
def AQ(a:fi N):kB N<18446744073709551616:=by unfold kB;omega
def wm(a:Own)(c:1<=β n):dU 1 (.J (ab n) a) (γ (.v (.int .i64 1))) η=γ (.J (ab (n.drop 1)) .any):=by have:=pT (e:=1) (j:=ab n) (a7:=a) (e4:=.i64) (N:=1) ε (by rw[bn];omega) (λd b=>by obtain⟨f,_,rfl⟩:=a7M.1 b;rfl);rw[this];simp[ab]
def cq.kC{b:cq}(a:b.ok e=ζ):1<=e/\e<=8/\(b.kind=3/\b.fA=0/\β b.at_=e - 1/\1<e\/b.kind≠3/\0<=b.fA/\b.fA<e/\β b.at_=0):=by
 obtain⟨c,o,p⟩:=b;simp only[cq.ok,Κ,decide_eq_true_eq]at a;obtain⟨⟨h,k⟩,a⟩:=a;refine⟨h,k,?_⟩;by_cases d:c=0
 .subst d;simp only[if_true,Κ,decide_eq_true_eq]at a;exact .inr ⟨by show(0:UInt8)≠3;decide,by simp only;omega,by simp only;omega,a.2⟩
 by_cases f:c=1\/c=2
 .rw[if_neg d,if_pos f]at a;simp only[Κ,a8Y,decide_eq_true_eq]at a;exact .inr ⟨by rcases f with rfl|rfl<;>simp,by simp only;omega,by simp only;omega,a.2⟩
 .rw[if_neg d,if_neg f]at a;simp only[Κ,decide_eq_true_eq]at a;exact .inl ⟨a.1.1.1,a.1.1.2,a.2,a.1.2⟩
def AR(c:cq)(C D:Own)(a:Ω)(k:U)(x:bs a)(L:bs c.at_)(E:c.ok (β a)=ζ):AC δ 210 [c.V C,.J (ab a) D] k λP S=>S=k/\P=.aJ [jj (cn c a),.v (.int .i64 0)]:=by
 obtain⟨T,g,y⟩:=cq.kC E;have i:=bn (n:=a);have j:β c.at_<=8:=ε;have F:=λk=>p8 c C (β a) k ε ε;rw[E]at F;have l:=wm D T;obtain⟨f,m,h⟩:=c
 dsimp only at*
 have n:=fP f 2 ε;have q:=fP f 3 ε;refine aM hm CR ?_;refine bg λs t=>?_;refine cy λu w c A=>?_;refine aP (F _) ?_;refine ay (λc2=>?_) λc2=>?_
 .have z:=AO c2;obtain⟨V,o,G,_⟩:=y.resolve_left (λd=>by rw[z]at d;exact absurd d.1 Μ);obtain⟨b,rfl⟩:=a9P o;have W:=cP (a:=a) (b:=b) ε;have p:=hl x b;refine aa ?_;refine aP (Ib p _) ?_;refine aa ?_;rw[show cn ⟨2,(b:Int),h⟩ a=kB (a.getD b 0) by simp[cn],s7 (AQ p)];rfl
 .refine ay (λaD=>?_) λaD=>?_
  .have r:=AP aD;obtain⟨_,o,G,aL⟩:=y.resolve_right (λd=>d.1 r);refine aa ?_;refine aP (a4T (a.drop 1) h _ _ _ (λv e=>x v (a7U e)) L (by rw[a7F];omega) (by rw[a7F];omega) (by rw[a7F];omega)) ?_;refine aa ?_;rw[show cn ⟨3,0,h⟩ a=s5 (a.drop 1) h by simp[cn]]
  .have r:f≠3:=by rintro rfl;exact aD rfl
   have z:f≠2:=by rintro rfl;exact c2 rfl
   obtain⟨V,o,G,_⟩:=y.resolve_left (λd=>r d.1);obtain⟨b,rfl⟩:=a9P o;have W:=cP (a:=a) (b:=b) ε;have p:=hl x b;have B:=Ia p;refine aa ?_;refine aP (vJ _ _) ?_;refine aa ?_;rw[show cn ⟨f,(b:Int),h⟩ a=(a.getD b 0+9223372036854775808).toNat by simp[cn,z,r],s7 ε];rfl
def gH(a:cq)(b c:Ω):Bool:=decide (cn a b<cn a c\/cn a b=cn a c/\b.getD 0 0<c.getD 0 0)
def Ic:tO (e/18446744073709551616) (e%18446744073709551616) N (i/18446744073709551616) (i%18446744073709551616) j2=decide (e<i\/e=i/\N<j2):=by
 unfold tO ql;by_cases a:e=i
 .subst a;simp
 .have:¬(e/18446744073709551616=i/18446744073709551616/\e%18446744073709551616=i%18446744073709551616):=ε;rw[if_neg this];split
  .have:e<i:=ε;simp[this]
  .have:¬e<i:=ε;simp[this,a]
def Ie(b:cq)(f h k:Own)(a c:Ω)(d:U)(r:bs a)(x:bs c)(p:bs b.at_)(o:b.ok (β a)=ζ)(y:β c=β a):AC δ 158 [b.V f,.J (ab a) h,.J (ab c) k] d λz C=>C=d/\z=.v (.bool (gH b a c)):=by obtain⟨F,G,L⟩:=cq.kC o;have P:=bn (n:=a);have S:=bn (n:=c);have T:=hZ (n:=a) ε h;have V:=hZ (n:=c) ε k;have D:=λd=>AR b f h a d r p o;have E:=λd=>AR b f k c d x p (by rw[y];exact o);have W:=Ic (e:=cn b a) (i:=cn b c) (N:=a.getD 0 0) (j2:=c.getD 0 0);refine aM hm CO ?_;refine bg λe g=>?_;refine aP (D _) ?_;refine cy λi j b l=>?_;refine aP (E _) ?_;refine gz λm n _ _ _ _=>?_;refine aP (vK _ _ _ _ _ _ _) ?_;rfl
def ow(a:cq)(b c:Ω):Int:=if gH a b c=ζ then -1 else if gH a c b=ζ then 1 else 0
theorem a4W(a:cq)(f h k:Own)(b d:Ω)(c:U)(r:Nat)(L:c.read r=γ [.v (.int .u8 (a.kind.toNat:Int)),.v (.int .i64 a.fA),.J (ab a.at_) f])(x:bs b)(y:bs d)(z:bs a.at_)(C:a.ok (β b)=ζ)(o:β d=β b):AC δ 157 [.J (ab b) h,.J (ab d) k,.ptr r 0] c λD E=>E=c/\D=.v (.int .i64 (ow a b d)):=by
 have F:=λc=>Ie a f h k b d c x y z C o;have G:=λc=>Ie a f k h d b c y x z (by rw[o];exact C) o.symm;refine aM hm CN ?_;refine aP (F _) ?_;refine ay (λp=>?_) λp=>?_
 .rw[ow,if_pos p]
 .refine aP (G _) ?_;refine ay (λc2=>?_) λc2=>?_
  .rw[ow,if_neg (by simp[p]),if_pos c2]
  simp_all [ow]
def Ig(c:cq)(x o y:Own)(a b:Ω)(k:U)(z:bs a)(C:bs b)(L:bs c.at_)(P:cV a b (β a)=ζ)(D:c.ok (β a)=ζ):AC δ 85 [c.V x,eL a b o y] k λS T=>T=k/\S=.aJ [jj (iG c a b),.v (.int .i64 (a.getD 0 0)),.v (.int .i64 0)]:=by
 obtain⟨V,l,W⟩:=cq.kC D;obtain⟨_,m,_,_⟩:=kl P;have n:=bn (n:=a);have q:=bn (n:=b);have s:β c.at_<=8:=ε;have E:=λk=>p8 c x (β a) k ε ε;rw[D]at E;have t:=hZ (n:=a) ε o;have u:=wm (n:=a) o V;have w:=wm (n:=b) y ε;obtain⟨f,e,h⟩:=c
 dsimp only at*
 have A:=fP f 2 ε;have B:=fP f 3 ε;obtain⟨d,rfl⟩:∃d:Nat,e=d:=a9P ε;have g:d<β a:=ε;have H:=cP (a:=a) g;have I:=cP (a:=b) (b:=d) ε;have i:=hl z d;have F:=hl C d;have K:=Ia i;refine aM hm CF ?_;refine bg λM N=>?_;refine cy λO Q c X=>?_;refine gz λd Y Z k2 a3 a4=>?_;refine aP (mT _ a b _ _ _ ε) ?_;refine aP (E _) ?_;refine aP (vJ _ _) ?_;refine th λk3 k4 k5 k6 k7 k8 k9 l0=>?_;refine ay (λc2=>?_) λc2=>?_
 .have G:=AO c2;refine aP (Ib F _) ?_;refine aa ?_;rw[show iG ⟨2,(_:Nat),h⟩ a b=kB (b.getD _ 0) by simp[iG];rfl,s7 (AQ F)];rfl
 .refine ay (λaD=>?_) λaD=>?_
  .have p:=AP aD;obtain⟨_,l1,l2,aL⟩:=W.resolve_right (λj=>j.1 p);refine aP (a4U h (a.drop 1) (b.drop 1) _ _ _ _ L (λv r=>z v (a7U r)) (λv r=>C v (a7U r)) (by rw[a7F];omega) (by rw[a7F];omega) ε ε) ?_;refine aa ?_;rw[show iG ⟨3,0,h⟩ a b=wi h (a.drop 1) (b.drop 1) by simp[iG]]
  .have p:f≠3:=by rintro rfl;exact aD rfl
   have G:f≠2:=by rintro rfl;exact c2 rfl
   rw[show iG ⟨f,(_:Nat),h⟩ a b=(a.getD _ 0+9223372036854775808).toNat by simp[iG,G,p];rfl,s7 ε];rfl
def a4X(b:cq)(h p r k:Own)(a d c:Ω)(f:U)(y:bs a)(z:bs d)(C:bs c)(x:bs b.at_)(D:cV a d (β a)=ζ)(o:b.ok (β a)=ζ)(E:β c=β a):AC δ 139 [b.V h,eL a d p r,.J (ab c) k] f λF G=>G=f/\F=.v (.bool (decide (cn b c<iG b a d\/cn b c=iG b a d/\c.getD 0 0<a.getD 0 0))):=by obtain⟨S,T,V⟩:=cq.kC o;have W:=bn (n:=a);have e:=bn (n:=c);have g:=hZ (n:=c) ε k;have L:=λf=>AR b h k c f C x (by rw[E];exact o);have P:=λf=>Ig b h p r a d f y z x D o;have i:=Ic (e:=cn b c) (i:=iG b a d) (N:=c.getD 0 0) (j2:=a.getD 0 0);refine aM hm CM ?_;refine bg λj l=>?_;refine cy λm n b q=>?_;refine aP (P _) ?_;refine gz λs t u v a3 a4=>?_;refine aP (L _) ?_;refine th λw A B H I K M N=>?_;refine aP (vK _ _ _ _ _ _ _) ?_;trivial
end Go.Proofs.YtgchlmdfldnhnaaGreat
