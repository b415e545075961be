import Derived.Test.YtcfpcblgmmeioaaGreatMG
import Derived.Test.YtcfpcblgmmeioaaGreatMH
import Derived.Test.YtcfpcblgmmeioaaGreatMF
import Derived.Test.YtcfpcblgmmeioaaGreatME
set_option linter.all false
set_option maxRecDepth 100000
namespace Go.Proofs.YtcfpcblgmmeioaaGreat
open Go Go.bD
structure vP (c:ag) (d:Nat) (aT aS:List Int) (a:aq) (rows:List (List Int)):Prop where
 one:rows.length<=1
 sound: ∀b∈rows,nP c d aT aS a b
 full:rows= []->ey aT aS a=true-> ∀b,¬nP c d aT aS a b
def vQ (a:ag) (b:Nat) (c d:List Int) (h:aq):Prop:= ∃k,mH a b c d h k/\ey c d h=true/\dA a b k=none
structure A2 where
 rows:List (List Int)
 us:List R
 L:R
 bF:List aq
 es:List R
 oR:R
structure vR (c:ag) (d:Nat) (aT aS:List Int) (b:aq) (A:iv) (B:U) (h:Nat) (x:A2) (o:U):Prop where
 at_:dM A B o h x.us x.L x.es x.oR
 vS:aB isRow x.rows x.us
 rd: ∀a∈x.rows,a.length=d
 A3:x.rows.length<=1
 qb:aB ry x.bF x.es
 qX: ∀a∈x.rows,nP c d aT aS b a
 or: ∀k∈x.bF,mH c d aT aS b k/\ey aT aS b=true/\1<=bQ k
 co:x.rows= []->ey aT aS b=true-> ∀a,nP c d aT aS b a-> ∃k∈x.bF,nP c d aT aS k a
 qV:(x.bF.map bQ).sum<=2097152
variable{w j3:aq}{q b8:List Int}{e i v M b9 j2:Nat}{b4:bY}{H:ag}
def mH.snoc {a:aq} (c:mH H e q b8 j3 a) (b:dA H e a=some b4) (d:w∈b4.kids) (h:ey q b8 w=true):mH H e q b8 j3 w:=by
 induction c with
 |refl p=>exact .step b d h (.refl _)
 |step h1 k o _ ih=>exact .step h1 k o (ih b)
theorem A4: ∀ {ks:List aq},(∀a∈ks,1<=bQ a)->ks.length<=(ks.map bQ).sum
 | [],_=>a7g _
 |a::ks,b=>by
  have:=A4 (ks:=ks) λa c=>b a (by simp[c]);grind
def vR.len {c:ag}{d:Nat}{h k:List Int}{o:aq}{p:iv}{r:U}{x:Nat}{b:A2}{y:U} (a:vR c d h k o p r x b y):b.es.length<=2097152:=by rw[a.qb.len];exact a7y (A4 λz C=>(a.or z C).2.2) a.qV
theorem a3R (Z:U) (k5 b00:Nat) (m:ag) (b50:bq Z k5 b00 m) (D:aq) (n1 n2 n3:Own) (b01:D.sum.length=32) (b51:D.cv) (p x:List Int) (n4 n5 n9:Own) (F:Nat) (t:cO p x F=true) (c29:D.size<=1048576) (b02:ey p x D=true->1<=D.size):
  AC Tryz.prog 165 [.ptr k5 0,.agg (ab D n1 n2 n3),.agg (oQ p x n4 n5 n9),.v (.int .i64 (F:Int))] Z λa30 E=>Z.sub E/\
   ((vQ m F p x D/\ ∃c f,a30= .aJ [.agg [c,f],.v (.int .i64 0),.v (.int .i64 21)])\/
   ∃rows I y u v,vP m F p x D rows/\av Z E 1 I y/\aB isRow rows I/\(∀h∈rows,h.length=F)/\a30= .aJ [.agg [y,.v (.int .i64 u)],.v (.int .i64 v),.v (.int .i64 0)]):=by
 obtain⟨b03,c30,b04,a34⟩:=lv t;have b52:=(aP (N:=n1) (e5:=n2) (h6:=n3) b01).all;refine aK hm Ps ?_;refine bp λa36 c31=> ?_;refine cZ λb05 c32 c33 c34=> ?_;refine ha λa00 a38 c35 c2 aE aM=> ?_;generalize k6:((Z.set a36 _).set b05 _).set a00 _=g;have a01:Z.sub g:=by subst k6;exact aO
 have bh:g a36=some (.cells (ab D n1 n2 n3)):=by subst k6;exact aO
 have bx:g b05=some (.cells (oQ p x n4 n5 n9)):=by subst k6;exact aO
 have bt:g a00=some (.cells [.J [] .nil,.v (.int .i64 0)]):=by subst k6;exact aO
 clear k6;have b53:=b50.mono a01;refine bk (a2r p x _ _ _ F aaU g) ?_;rw[t];have b54:=U.ae bh;have b55:=U.ae bx;refine aa ?_;refine aN λd j9=> ?_;have b06:a36≠d:=by rintro rfl;rw[j9]at bh;cases bh
 have b56:=b06.symm;have b57:a00≠d:=by rintro rfl;rw[j9]at bt;cases bt
 have c36:=b57.symm;refine aa ?_
 let a:iv:=⟨k5,p,x,n4,n5,n9,F⟩;have b07:dM a g (g.set d (.cells (lH k5 p x n4 n5 n9 F (.J [] .nil) 0 0 0 (.J [] .nil)))) d [] (.J [] .nil) [] (.J [] .nil):=
  ⟨j9,⟨0,0,0,U.ai _ _ _⟩,av.nil (U.af U.a6 j9),⟨U.af U.a6 j9,(λ_ b=>by cases b),.inl ⟨rfl,.inl rfl⟩⟩,(λb=>by cases b),(λb=>by cases b),λ_ b=>by cases b⟩
 refine ah (FG a g _ d [] _ [] _ b07 D n1 n2 n3 b01 b51 (by show p.length<=8;omega) aaV) ?_;rintro _ b58 ⟨b59,b60,a42,k0⟩;have a02: ∃b08,vR m F p x D a g d ⟨[],[],.J [] .nil,b08,b60,b59⟩ b58:=by
  have c37:bQ D<=2097152:=by unfold bQ;omega
  split at k0
  .rename_i w;obtain⟨b61,a43,rfl⟩:=k0;exact⟨[D],a42,trivial,(λ_ b=>by cases b),a7b _,⟨a43,trivial⟩,(λ_ b=>by cases b),(λz a47=>by
    obtain rfl:=a6U.1 a47;have:=b02 w;exact⟨.refl _,w,by unfold bQ;omega⟩),(λ_ _ h r=>⟨D,aaV,r⟩),by trivial⟩
  .rename_i w;subst k0;exact⟨[],a42,trivial,(λ_ b=>by cases b),a7b _,trivial,(λ_ b=>by cases b),(λ_ b=>by cases b),(λ_ b=>absurd b w),a7b _⟩
 obtain⟨b08,a02⟩:=a02;refine aa ?_;refine cg [0,3,8,11] (λ_:A2=> []) (λc E=>vR m F p x D a g d c E) (λc=>(c.bF.map bQ).sum) _ ⟨a02,aO⟩ ?_;clear a02 a42 k0 b07 b54 b55 b06 b56 bh bx b52 j9;rintro⟨rows,I,y,b09,a48,c38⟩ E o c39;have i:=o.at_
 dsimp only at i
 have c40:=i;obtain⟨u,v,k7,b10⟩:=i.x;obtain⟨c41,c42⟩:=i.w.len;have eJ:=U.ae b10;refine aa ?_;refine aH (λa03=> ?_) λa03=> ?_;rotate_left;have a52:=o.qb.len
 .have c43:=a03;have b11:a48= []:=a6F aaU;have b62:b09= []:=a6F (by rw[b11]at a52;exact a52.symm);subst b11;subst b62;have b63:=U.aI (i.l.1 _ _ bt);have c44:=fJ i.l;refine aa ?_;refine⟨_,U.a6,U.af (U.au a01 i.l.1) a38,.inr ⟨rows,I,y,u,v,⟨o.A3,o.qX,λT A h r=> ?_⟩,av.other (i.l.base a01) a38 (λG=> ?_),o.vS,o.rd,rfl⟩⟩
  .obtain⟨z,a47,_⟩:=o.co T A h r;cases a47
  .have:=av.fresh i.l G;rw[bt]at this;cases this
 have a52:=o.qb.len;have b64:a48≠ []:=by grind
 obtain⟨b12,b13,post,b14,b15,c45,b16⟩:=i.sort b64;obtain⟨c46,b17⟩:=oP.of (s:=E) (l:=b12) (g:=b13) (B:=post) (c0:=a48) (b5:=216) (ds:= []) ab0 λa04 a56 a57 t=>by
  obtain⟨z,_,T⟩:=o.qb.mem a56;obtain⟨B,_,A⟩:=o.qb.mem t;obtain⟨a03,b65⟩:=a2q T A;exact⟨a03,λa61 _=>b65 _⟩
 rw[b14];clear eJ b14;refine ah (FD a2k a2e a2a a2c a1Y a1W aaU rfl b15 (a7y o.len aaU) b17 λG K=> ?_) ?_
 .obtain⟨z,_,T,_,L,P,S,c,f,id,b66,rfl⟩:=o.qb.mem K;obtain⟨M,N,_⟩:=vx (N:=L) (e5:=P) (h6:=S) (e:=c) (i:=f) (id:=id) (b1:=b66) T;exact⟨M,by rw[hR,aL,if_pos rfl,N]⟩
 rintro _ _ ⟨a61,k1,rfl⟩;have k8:=b16 a61 k1;obtain⟨b67,k9,b68⟩:=o.qb.perm k1
 match a61,b67,b68,k1,k9,k8 with
 | [],_,_,k1,_,_=>exact absurd k1.length_eq (by simp_all)
 |G::k2,z::O,⟨b69,b18⟩,k1,k9,k8=>
 obtain⟨u,v,k7,a62⟩:=k8.x;obtain⟨C,c47,c48,a63,c49,c50,b70,b19⟩:=k8.tail;generalize W E b12 b13 post (G::k2)=a05 at*;have eJ:=U.ae a62;have a65:=U.aI a62;clear b16 b17 b15 b10;obtain⟨l0,b71,L,P,S,b72,b73,b74,b75,rfl⟩:=b69;have b20:=(vx (N:=L) (e5:=P) (h6:=S) (e:=b72) (i:=b73) (id:=b74) (b1:=b75) l0).2.2.1;rw[hR,b20]at b19;have c51:=(aP (N:=L) (e5:=P) (h6:=S) l0).all;have b21:=lI (N:=L) (e5:=P) (h6:=S) l0;refine aa ?_;refine aN λk3 a68=> ?_;have b22:d≠k3:=by rintro rfl;rw[a62]at a68;cases a68
 have b23:=b22.symm;refine aa ?_;have a69:(a05.set d (.cells (lH a.gA a.aT a.aS a.gN a.eE a.hD a.d y u v k7 C))) k3=none:=(U.an _ _ b23).trans a68;have b24:=(a63 u v k7).fresh a69;have b25:=(a63 u v k7).mono (U.af (X:= .cells (ab z L P S)) U.a6 a69);rw[U.ea a05 b22]at b25;have gk:((a05.set k3 (.cells (ab z L P S))).set d (.cells (lH a.gA a.aT a.aS a.gN a.eE a.hD a.d y u v k7 C))) k3=some (.cells (ab z L P S)):=(U.an _ _ b23).trans (U.ai _ _ _);generalize (a05.set k3 (.cells (ab z L P S))).set d _=a71 at*;clear a69 a63 b70 b19 b20 a65 eJ k8 b21;obtain⟨b76,l1⟩:=b25.wide;have b77:res (kb d y C) a71 k3=some (.cells (ab z L P S)):=by
  rw[oS];exact gk;rintro(b|b|b)
  .omega
  .exact b24.l b
  .exact b24.w b
 generalize res (kb d y C) a71=b78 at*;have c52:(b09.map bQ).sum=bQ z+(O.map bQ).sum:=by rw[<-(k9.map bQ).sum_nat];simp
 have Q:=λB j=>o.or B (k9.mem_iff.1 j);have b79:=o.qV
 dsimp only at b79
 refine ah (a2u a b78 a71 d I rows y k2 C b76 o.vS o.rd a34 b03 z L P S l0) ?_;rintro _ b26 ⟨n,a57,rfl,b80⟩;have b81:=U.ae (n.l.1 _ _ b77);refine aa ?_;refine aH (λt=> ?_) λt=> ?_
 .have b02:=b80 t;refine⟨⟨rows,I,y,O,k2,C⟩,⟨n.base l1,o.vS,o.rd,o.A3,b18,o.qX,λB j=>Q B (by simp[j]),λb=> ?_,?_⟩,?_⟩;simp_all
  .show(O.map bQ).sum<= _;omega
  grind
 have b27:=(b53.mono l1).mono n.l.1;refine ah (uV b26 k5 b00 m b27 z L P S l0 b71 F b04 a34) ?_;rintro a30 X ⟨a73,a06⟩;cases H:dA m F z with
 |none=>
  rw[H]at a06;obtain rfl:=a06;have b28:=a73 _ _ (n.l.1 _ _ (l1 _ _ bt));refine aa ?_;refine aN λl q=> ?_;have b82:a00≠l:=by rintro rfl;rw[b28]at q;cases q
  have c53:=b82.symm;have b63:=U.aI b28;refine aa ?_;have b29:=U.au a01 (U.au l1 (U.au n.l.1 a73));refine⟨_,U.a6,U.af (U.af b29 (U.bI b29 q)) a38,.inl ⟨⟨z,(Q z aaV).1,(Q z aaV).2.1,H⟩,_,_,rfl⟩⟩
 |some k=>
  rw[H]at a06;obtain⟨c,f,rfl,c54,c55,c56,k4,l2,a07,a74,_,_⟩:=a06;have a08:=n.mono a73;obtain⟨l3,Y,l4,a09⟩:=a08.x;have c57:=fJ k4;have c58:=fJ l2;refine aa ?_;refine aN λl q=> ?_;have b30:d≠l:=by rintro rfl;rw[a09]at q;cases q
  have b31:=b30.symm;have eJ:=U.ae a09;have a65:=U.aI a09;have a56:br .add (.int .i64 Y) (.int .i64 1)=some (.int .i64 (IntKind.i64.wrap (Y+1))):=rfl;have b32:=bJ.dv k4 aaU rfl (a07.cells λ_ _=>cT.cells);have b83:=b32.len;rw[a07.len]at b83;have a81:(X.set d (.cells (lH a.gA a.aT a.aS a.gN a.eE a.hD a.d y l3 (IntKind.i64.wrap (Y+1)) l4 C))) l=none:=(U.an _ _ b31).trans q;have a83:=(a08.set l3 (IntKind.i64.wrap (Y+1)) l4).mono (U.af (X:= .cells [.v (.int .u8 (k.kind.toNat)),c,f]) U.a6 a81);rw[U.ea X b30]at a83;refine aa ?_;have lr:((X.set l (.cells [.v (.int .u8 (k.kind.toNat)),c,f])).set d (.cells (lH a.gA a.aT a.aS a.gN a.eE a.hD a.d y l3 (IntKind.i64.wrap (Y+1)) l4 C))) l=some (.cells [.v (.int .u8 (k.kind.toNat)),c,f]):=(U.an _ _ b31).trans (U.ai _ _ _);have b33:=(a08.set l3 (IntKind.i64.wrap (Y+1)) l4).fresh a81;have b84: ∀h a10,X h=some a10-> ¬kb d y C h->((X.set l (.cells [.v (.int .u8 (k.kind.toNat)),c,f])).set d (.cells (lH a.gA a.aT a.aS a.gN a.eE a.hD a.d y l3 (IntKind.i64.wrap (Y+1)) l4 C))) h=some a10:=λh a10 r hm=>by
   have L:h≠d:=λG=>hm (.inl G);have P:h≠l:=by rintro rfl;rw[q]at r;cases r
   rw[U.an _ _ L,U.an _ _ P];exact r
  generalize (X.set l (.cells [.v (.int .u8 (k.kind.toNat)),c,f])).set d _=a84 at*;have a86: ∀ {a04:R}{h:Nat},cL a04=some h->b26 h=none-> ¬kb d y C h:=λt r hm=>by
   rcases hm with rfl|G|G
   .obtain⟨_,_,_,b⟩:=n.x;rw[r]at b;cases b
   .exact av.has n.l G r
   .exact n.w.has G r
  have a88:(res (kb d y C) X).sub (res (kb d y C) a84):=λh a10 r=>by
   grind[hm,kb,rA,oS]
  have b85:=(bJ.dv (av.res k4 λl5 V=>a86 V (av.fresh k4 V)) aaU rfl (a07.cells λ_ _=>cT.cells)).mono (U.au (FK l2.1) a88);have b34:=(bJ.dv (av.res l2 λl5 V=>a86 V (U.bI k4.1 (av.fresh l2 V))) aaU rfl (a74.cells λ_ _=>bB.cells)).mono a88;obtain⟨b86,b87⟩:=a83.wide;have b88:res (kb d y C) a84 l=some (.cells [.v (.int .u8 (k.kind.toNat:Int)),c,f]):=by
   rw[oS];exact lr;rintro(b|b|b)
   .trivial
   .exact b33.l b
   .exact b33.w b
  generalize res (kb d y C) a84=l6 at*;have b89:=U.au l1 b87;clear b84 a86 a88 b32 k4 l2 eJ a65 a09 a08 a83 lr a56 q a81 b27 b81;have b35:=(re H).ok;obtain⟨b90,_,_⟩:=kz b35;refine cg [0,3,8,11,13,79,80] (λc:Nat×(List (List Int))×List R×R=> [(81,.v (.int .i64 (c.1)))]) (λc E=>c.1<=k.rows.length/\dM a l6 E d c.2.2.1 c.2.2.2 k2 C/\aB isRow c.2.1 c.2.2.1/\(∀h∈c.2.1,h.length=F)/\c.2.1.length<=1/\(∀h∈c.2.1,nP m F p x D h)/\(c.2.1= []->rows= []/\ ∀h,(h,true)∈k.rows.take c.1->jo p x h=false)) (λc=>k.rows.length - c.1) (0,rows,I,y) ⟨⟨a7b _,b86,o.vS,o.rd,o.A3,o.qX,λb=>⟨b,λh r=>by simp at r⟩⟩,aO⟩ ?_;rintro⟨e,b36,a11,a13⟩ b91 ⟨b92,l7,a89,l8,a14,a15,a16⟩ c59
  dsimp only at b92 l7 a89 l8 a14 a15 a16
  refine aa ?_;refine aH (λc2=> ?_) λc2=> ?_
  .have a90:e<k.rows.length:=aaU;obtain⟨_,K,a92,rfl⟩:=a07.get (i:=e) (x:=k.rows.getD e ([],false)) (by simp_all);obtain⟨l5,b93,V⟩:=b85.get e _ K;have b37: ∀E,l6.sub E->cY true 2 E l5=some (.agg [.J (ad (k.rows.getD e ([],false)).1) a92,.v (.bool (k.rows.getD e ([],false)).2)]):=λE b=>V.ld E b true 2 aaU (by simp[hR]);have b94:=b37 b91 l7.l.1;have hm:k.rows.getD e ([],false)∈k.rows:=by simp_all
   have G:=eR (b:=([],false)) a90;generalize k.rows.getD e ([],false)=b95 at*;obtain⟨a18,a94⟩:=b95
   dsimp only at b94 G hm
   have b38:=b90 _ hm;clear b37 V K;refine aa ?_;refine aN λc60 b96=> ?_;have b97:=l7.mono (U.af (X:= .cells [.J (ad a18) a92,.v (.bool a94)]) U.a6 b96);refine aa ?_;refine ah (a2t a l6 _ d a11 b36 a13 k2 C b97 a89 l8 b04 a34 b03 a14 a18 a94 a92 b38) ?_;rintro _ c61 ⟨b39,b98,b40,b41,b42,a95⟩;refine aa ?_;have b99:a94=true->jo p x a18=true->nP m F p x D a18:=λT A=>by subst T;exact⟨z,k,(Q z aaV).1,H,hm,A⟩
   split at a95
   .rename_i a19;rw[a6B]at a19;obtain⟨h,rfl,r⟩:=a95;refine⟨(e+1,[h],b39,b40),⟨a90,b41,b42,λc00 b=> ?_,aaV,λc00 b=> ?_,λb=>by cases b⟩,rfl,aaU⟩
    all_goals
     obtain rfl:=a6U.1 b;rcases r with rfl|r
    .exact b38
    .exact l8 _ r
    .exact b99 a19.1 a19.2
    .exact a15 _ r
   .rename_i a19;subst a95;refine⟨(e+1,b98,b39,b40),⟨a90,b41,b42,l8,a14,a15,λb=>⟨(a16 b).1,λh r=> ?_⟩⟩,rfl,aaU⟩;grind
  obtain rfl:e=k.rows.length:=aaU;rw[a6V]at a16;have c62:=U.ae (l7.l.1 _ _ b88);have c01:=b34.len;rw[a74.len]at c01;refine aa ?_;refine cg [0,3,8,11,90,91] (λc:Nat×List R×R=> [(92,.v (.int .i64 (c.1)))]) (λc E=>c.1<=k.kids.length/\dM a l6 E d a11 a13 c.2.1 c.2.2/\aB ry (O++(k.kids.take c.1).filter (ey p x)) c.2.1) (λc=>k.kids.length - c.1) (0,k2,C) ⟨⟨a7b _,l7,by simpa using b18⟩,aO⟩ ?_;rintro⟨s,a96,b43⟩ b44 ⟨c02,a27,l9⟩ c63
  dsimp only at c02 a27 l9
  refine aa ?_;refine aH (λaE=> ?_) λaE=> ?_
  .have b45:s<k.kids.length:=aaU;obtain⟨_,K,a97,c03,M,N,n0,rfl⟩:=a74.get (i:=s) (x:=k.kids.getD s az) (by simp_all);obtain⟨l5,b93,V⟩:=b34.get s _ K;have c04:=(aP (N:=M) (e5:=N) (h6:=n0) a97).all;have c64:cY true 37 b44 l5=some (.agg (ab (k.kids.getD s az) M N n0)):=by have:=V.ld b44 a27.l.1 true 37 aaU (by rw[hR];omega);rw[this,aL,if_pos rfl,hR,c04.2.1]
   have G:=eR (b:=az) b45;have b21:=lI (N:=M) (e5:=N) (h6:=n0) a97;generalize k.kids.getD s az=a98 at*;have c05:a96.length<=100000000:=by have T:=l9.len;rw[a6A]at T;have A:=A4 (ks:=O) λB j=>(Q B (by simp[j])).2.2;grind
   clear V K;refine aa ?_;refine aN λc65 c06=> ?_;have c07:=a27.mono (U.af (X:= .cells (ab a98 M N n0)) U.a6 c06);refine aa ?_;refine ah (FG a l6 _ d a11 a13 a96 b43 c07 a98 M N n0 a97 c03 (by show p.length<=8;omega) c05) ?_;rintro _ c66 ⟨c08,b46,k0,b47⟩;refine aa ?_;refine⟨(s+1,b46,c08),⟨b45,k0,?_⟩,rfl,aaU⟩;show aB ry (O++(k.kids.take (s+1)).filter (ey p x)) b46;rw[G,a9E,<-a6N];split at b47
   .rename_i w;obtain⟨b61,a43,rfl⟩:=b47;have w:ey p x a98=true:=w;rw[aal w];exact l9.snoc a43
   grind
  .obtain rfl:s=k.kids.length:=aaU;rw[a6V]at l9;obtain⟨c67,c68⟩:=FL (q:=p) (b8:=x) H;have c09:=tv b35;refine⟨⟨b36,a11,a13,O++k.kids.filter (ey p x),a96,b43⟩,⟨a27.base b89,a89,l8,a14,l9,a15,λB j=> ?_,λT A h r=> ?_,?_⟩,?_⟩
   .rcases a6L.1 j with j|j
    .simp_all
    .obtain⟨a29,a99⟩:=a9A.1 j;obtain⟨_,a04,a57⟩:=kQ (c09 B a29);have:=a04 (a57 (zl a99));exact⟨(Q z aaV).1.snoc H a29 a99,(Q z aaV).2.1,by unfold bQ;omega⟩
   .obtain⟨a29,a99⟩:=a16 T;obtain⟨c69,b48,c21⟩:=o.co a29 A h r;rcases a6W.1 (k9.mem_iff.2 b48)with rfl|b48
    .obtain⟨c70,c71,c22,c23,c24,c25⟩:=c21;cases c22 with
     |refl=>simp_all
     |step b49 c26 c27 c28=>rw[H]at b49;obtain rfl:=a6x b49;exact⟨_,a8H _ (a9A.2 ⟨c26,c27⟩),_,_,c28,c23,c24,c25⟩
    grind
   grind;grind
def A5 (d:ag) (h:List aU) (k:List UInt8) (id:Int) (b:R):Prop:=match h.find? (λa=>decide (a.name=k))with
 |none=>b= .aJ [.J [] .nil,.v (.bool false),.v (.int .i64 3)]
 |some a=>
  (vQ d (a.aD.length+1) (id::List.replicate a.aD.length iU) (id::List.replicate a.aD.length jq) a.bo/\b= .aJ [.J [] .nil,.v (.bool false),.v (.int .i64 21)])\/
  ∃rows,vP d (a.aD.length+1) (id::List.replicate a.aD.length iU) (id::List.replicate a.aD.length jq) a.bo rows/\(∀c∈rows,c.length=a.aD.length+1)/\
   ((rows= []/\b= .aJ [.J [] .nil,.v (.bool false),.v (.int .i64 0)])\/ ∃c o p,rows=c::o/\b= .aJ [.J (ad c) p,.v (.bool true),.v (.int .i64 0)])
variable{e3:List aU}{e8:aU}
theorem a3S (a:cI e3=true) (b:e8∈e3):fl (e8.aD.length+1) e8.bo=true:=by simp only[cI,a6B,a6P,a7O,decide_eq_true_eq]at a;obtain⟨c,d,rfl⟩:=a7l b;simp_all [fU]
theorem GI (id:Int) (a:e<=7):cO (id::List.replicate e iU) (id::List.replicate e jq) (e+1)=true:=by have hm:iU<=jq:=aaY;simp only[cO,a6E,a8s,a6B,decide_eq_true_eq,a6P,a7O];grind
theorem a3T (x:U) (y n j9:Nat) (q:ag) (E:List aU) (s:dE x y n j9 q E) (k0:cI E=true) (W:List UInt8) (id:Int):
  AC Tryz.prog 103 [.ptr y 0,bn W,.v (.int .i64 id)] x λt a03=>x.sub a03/\A5 q E W id t:=by
 obtain⟨a04,a88⟩:=oY k0;obtain⟨a05,a06,F,a07⟩:=s.x;have a89:=U.ae F;have a90:=hp.all.1;have u: ∀a T,eF a T->putAt fD 0 T=T:=λa T v=>(oU v).2.2.1;have a08:=u _ _ hp;have w:=kR;have k:=find_spec E a05 a06 W a07 aaU x;unfold Found at k;unfold A5;generalize fD=a92 at*;refine aK hm NL ?_;refine ah k ?_;clear k;rintro t k1 ⟨rfl,k⟩;cases A:E.find? (λa=>decide (a.name=W))with
 |none=>rw[A]at k;obtain rfl:=k;refine aa ?_;refine aN λa94 a95=> ?_;rw[w];exact aO
 |some a=>
  rw[A]at k;obtain⟨T,e,rfl⟩:=k;obtain⟨a96,a97,a98,a99,k2,k3,k4,k5,a09,a10,b00,b01,b02⟩:=e.all;have b03:=u _ _ e;have k6:=λx=>tw a T e x;have hm:=A1 A;have k7:=a04 a hm;have a11:=k7.c;have a13:=k7.k.size;obtain⟨a14,a15⟩:=e.k;clear u a08;refine aa ?_;refine aN λz B=> ?_;rw[w];clear w;have a16:y≠z:=by rintro rfl;rw[F]at B;cases B
  have b04:=a16.symm;have C:=U.af (X:= .cells T) (U.a6) B;have cN:=U.ai k1 z (.cells T);refine aa ?_;refine bk (k6 _) ?_;generalize k1.set z _=H at*;refine ah (a1V (a.aD.length+1) aaU aaU H) ?_;rintro _ k8 ⟨b05,b06,rfl,b07,f,g⟩;have k9:(ad (List.replicate (a.aD.length+1) iU)).length=a.aD.length+1:=by rw[bM,a8s]
  have l0:(ad (List.replicate (a.aD.length+1) jq)).length=a.aD.length+1:=by rw[bM,a8s]
  obtain⟨aR,d,G,o,rfl,L,l1,a18,I,l2,b08,_⟩:=f.ao (λK=>by rw[K]at k9;simp at k9);obtain⟨b,c,D,p,rfl,M,l3,a19,N,l4,b09,_⟩:=g.ao (λK=>by rw[K]at l0;simp at l0);rw[a7s]at a18 I l2 a19 N l4;have l5:=g.1 _ _ l1;have l6:aR≠b:=by rintro rfl;rw[l1]at M;cases M
  have a27:=l6.symm;have i:=U.au f.1 g.1;have l7:=i _ _ cN;have l8:=i _ _ (C _ _ F);have b10:=(s.sub C).sub i;have P:=U.bI f.1 M;have b11:z≠aR:=by rintro rfl;rw[cN]at L;cases L
  have b12:z≠b:=by rintro rfl;rw[cN]at P;cases P
  have b13:y≠aR:=by rintro rfl;rw[C _ _ F]at L;cases L
  have b14:y≠b:=by rintro rfl;rw[C _ _ F]at P;cases P
  refine aa ?_;refine aN λr h=> ?_;have a29:aR≠r:=by rintro rfl;rw[l5]at h;cases h
  have a30:b≠r:=by rintro rfl;rw[l3]at h;cases h
  have a34:z≠r:=by rintro rfl;rw[l7]at h;cases h
  have a36:y≠r:=by rintro rfl;rw[l8]at h;cases h
  have b15:=a29.symm;have b16:=a30.symm;have b17:=a34.symm;have b18:=a36.symm;have b19:cC 1 (.ao aR d G 1) (.v (.int .i64 0))=some (.ptr aR 0):=by grind[jJ]
  have b20:cC 1 (.ao b c D 1) (.v (.int .i64 0))=some (.ptr b 0):=by grind[jJ]
  have b21:=U.aI l5;have b22:=U.aI l3;have b23:=U.ae l7;have eJ:=U.ae l8;have b24:1<=o.length:=aaU;have b25:1<=p.length:=aaU;have a38:(putAt o 0 [R.v (.int .i64 id)]).take d=ad (id::List.replicate a.aD.length iU):=by
   have O:d=a.aD.length+1:=aaU;have S:(o.drop 1).take (d - 1)=ad (List.replicate a.aD.length iU):=by rw[<-a7T,I];rfl
   have Q:d - 1=a.aD.length:=aaU;rw[Q]at S;show([]++ [R.v (.int .i64 id)]++o.drop 1).take d= _;rw[a6T,O,aaD,a9w,S];rfl
  have a42:(putAt p 0 [R.v (.int .i64 id)]).take c=ad (id::List.replicate a.aD.length jq):=by
   have O:c=a.aD.length+1:=aaU;have S:(p.drop 1).take (c - 1)=ad (List.replicate a.aD.length jq):=by rw[<-a7T,N];rfl
   have Q:c - 1=a.aD.length:=aaU;rw[Q]at S;show([]++ [R.v (.int .i64 id)]++p.drop 1).take c= _;rw[a6T,O,aaD,a9w,S];rfl
  have b26:(putAt o 0 [R.v (.int .i64 id)]).length=o.length:=eI _ _ _ aaW;have b27:(putAt p 0 [R.v (.int .i64 id)]).length=p.length:=eI _ _ _ aaW;have b28:(k8.set r (.cells [.ao aR d G 1,.ao b c D 1])) r=some (.cells [.ao aR d G 1,.ao b c D 1]):=U.ai _ _ _;clear f g I N l2 l4;refine aa ?_;generalize putAt o 0 [R.v (.int .i64 id)]=j at*;generalize putAt p 0 [R.v (.int .i64 id)]=l at*;refine bk (k6 _) ?_;generalize X:((k8.set r (.cells [.ao aR d G 1,.ao b c D 1])).set aR (.cells j)).set b (.cells l)=V;have a43:V aR=some (.cells j):=by subst X;rw[U.an _ _ l6,U.ai]
  have a47:V b=some (.cells l):=by subst X;rw[U.ai]
  have b29:=U.bI i h;have a48:H.sub V:=by grind[U.af]
  clear X;have l9:=View.ao (n:=d) (cap:=G) (k:=1) a43 aaU;rw[mm,a38]at l9;have a52:(V.set aR (.ro j)) b=some (.cells l):=by rw[U.an _ _ a27];exact a47
  have n0:=View.ao (n:=c) (cap:=D) (k:=1) a52 aaU;rw[mm,a42]at n0;have n1:H.sub ((V.set aR (.ro j)).set b (.ro l)):=U.af (U.af a48 L) P;have a56:=View.agg (a:= []) (k:= [.ao b c D 1,.v (.int .u8 0),.v (.int .i64 0),.J [] .nil,.v (.int .i64 1),.v (.bool false)]) rfl l9;have a57:=View.agg (a:= [.J (ad (id::List.replicate a.aD.length iU)) .any]) (k:= [.v (.int .u8 0),.v (.int .i64 0),.J [] .nil,.v (.int .i64 1),.v (.bool false)]) rfl n0;have a61:=a56.trans a57;have a62:=GI id a11;have a63:ey (id::List.replicate a.aD.length iU) (id::List.replicate a.aD.length jq) a.bo=true->1<=a.bo.size:=λv=>by
   simp only[ey,a6B,decide_eq_true_eq]at v;have b30:=kQ (a3S k0 hm);simp_all
  have a65:=AC.nF (m:=Tryz.prog) (g:= [.ptr n 0,.agg (ab a.bo k2 k3 k4)]) a61 (a3R _ n j9 q (s.fO.mono (U.au C n1)) a.bo k2 k3 k4 a14 a15 _ _ .any .any .nil (a.aD.length+1) a62 a13 a63);refine ah a65 ?_;rintro t a68 ⟨a69,a71⟩;have b31:=U.au C (U.au n1 a69);rcases a71 with ⟨b32,b33,b34,rfl⟩|⟨rows,b35,Y,n2,b36,b37,Z,m,b38,rfl⟩
  .refine aa ?_;refine aN λn3 n4=> ?_;refine aa ?_;simp
  .have b39:=fJ Z;refine aa ?_;refine aN λn3 n4=> ?_;have a73:=Z.src;obtain⟨n5,k5,a09,a10⟩:=a73;rw[a7s]at k5;have n9:=m.len;refine aa ?_;cases rows with
   |nil=>
    have a00:n5=0:=by rw[a6G]at n9;omega
    subst a00;refine aa ?_;grind
   |cons a74 rest=>
    have a00: ¬(n5:Int)=0:=by rw[a6E]at n9;omega
    obtain⟨_,a81,a83,rfl⟩:=m.get (i:=0) rfl;have a84:=bJ.dv (Z.mono (U.af (X:= .cells [Y,.v (.int .i64 n2)]) (U.a6) n4)) aaU m.flat.symm (m.cells λ_ _=>isRow.cells);obtain⟨a01,a02,a86⟩:=a84.get 0 _ a81;have a02:cC 1 Y (.v (.int .i64 0))=some a01:=a02;have b40:cY false 1 (a68.set n3 (.cells [Y,.v (.int .i64 n2)])) a01=some (.J (ad a74) a83):=a86.ld _ U.a6 false 1 aaU (by simp[R.cells]);refine aa ?_;grind
def jw (d:Nat) (b:List Int×List Int) (c:List Int):Prop:= ∀a,a<d->b.1.getD a 0<=c.getD a 0/\c.getD a 0<=b.2.getD a 0
def GJ {a b:List Int×List Int} (h:hn e a) (k:hn e b) (c:jw e a q\/jw e b q):jw e (cP a b) q:=by
 have o:=lB.1 h.ok;have p:=lB.1 k.ok;unfold cP;rw[o.2.2.1,p.2.2.1,if_pos h.ok,if_pos k.ok,if_pos rfl];intro d r;have x:=F6 (a:=min) (q:=a.1) (b8:=b.1) (e:=d) aaU aaU;have y:=F6 (a:=max) (q:=a.2) (b8:=b.2) (e:=d) aaU aaU
 dsimp only
 rw[x,y];rcases c with c|c<;>have:=c d r<;>omega
variable{a7:aC}
theorem GK {a:gM} (k:mC e i a) (r:0<i) (o:ju e a7 w) (d:jw e a.aR q):jw e (ev a w).aR q:=by
 have h:hn e a.aR:=by
  rcases k.aR with ⟨b,_⟩|⟨_,b⟩
  .omega
  .exact b
 show jw e (cP a.aR (w.aT,w.aS)) q;rcases o.aR with ⟨b,c,p⟩|⟨b,c⟩
 .rw[c,p,Gv h];exact d
 .exact GJ h c (.inl d)
def GL {a:gM} (h:mC e i a) (k:ju e a7 w) (o:q∈a7.all) (d:jw e (w.aT,w.aS) q):jw e (ev a w).aR q:=by
 have x:=a9H o;show jw e (cP a.aR (w.aT,w.aS)) q;rcases k.aR with ⟨p,b,y⟩|⟨p,b⟩
 .omega
 rcases h.aR with ⟨r,c⟩|⟨r,c⟩
 .rw[c,pV b];exact d
 .exact GJ c b (.inr d)
theorem A6 {b:Nat} (h:1<=b) (k:b<=8) {c:List Int}: ∀ {o:aC},o.c7 b->o.size<=1048576->c∈o.all->jw b ((bm o).aT,(bm o).aS) c
 | .nil,_,_,d=>by cases d
 | .node p live D E,d,F,a=>by
  simp only[aC.size]at F;have x:=ez h k d.a aaU;have y:=ez h k d.b aaU;have r:=yC h k d.r;have z:mC b (if live=true then 1 else 0) (dR ⟨0,1,([],[])⟩ (p,live)):=by
   cases live with
   |false=>exact⟨rfl,.inl ⟨rfl,rfl⟩⟩
   |true=>refine⟨rfl,.inr ⟨aaY,?_⟩⟩;show hn b (cP ([],[]) (gq p));rw[pV r];exact r
  have C:=zD z x;show jw b (ev (ev (dR ⟨0,1,([],[])⟩ (p,live)) (bm D)) (bm E)).aR c;simp only[aC.all,a6L]at a;rcases a with (a|a)|a
  .have:=a9H a;exact GK C aaU y (GL z x a (A6 h k d.a aaU a))
  .exact GL C y a (A6 h k d.b aaU a)
  .have G:live=true/\c=p:=by simp_all
   obtain⟨rfl,rfl⟩:=G;have L:jw b (dR ⟨0,1,([],[])⟩ (c,true)).aR c:=by show jw b (cP ([],[]) (gq c)) c;rw[pV r];unfold gq;rw[if_pos (by have:=d.r.len;omega)];exact λP _=>⟨aaq _,aaq _⟩
   grind[GK]
def GM {a:List Int} (b:a.length=e):jo q b8 a=true↔cO q b8 e=true/\jw e (q,b8) a:=by unfold jo;simp only[b,a6B,a6P,a7O,decide_eq_true_eq];rfl
def A7 (c:1<=e) (d:e<=8) {h:List Int} (a:a7.c7 e) (k:a7.size<=1048576) (b:b8∈a7.all) (y:jo h q b8=true):ey h q (bm a7)=true:=by
 have o:=ez c d a k;have G:=a9H b;have z:=(a b8 (aC.gD b)).len;obtain⟨p,C⟩:=(GM z).1 y;have D:=A6 c d a k b;have E:=lB.1 p;have F:cO (bm a7).aT (bm a7).aS e=true:=by
  rcases o.aR with ⟨r,_⟩|⟨_,r⟩
  .omega
  .exact r.ok
 have L:=o.live;unfold ey jY oL;simp only[E.2.2.1,a6B,a6P,a7O,decide_eq_true_eq];refine⟨aaU,⟨p,F⟩,λx q=> ?_⟩;have:=C x q;have:=D x q
 dsimp only at*
 unfold hK;omega
def GN:dA H e az=none:=by
 cases a:dA H e az with
 |none=>rfl
 |some b=>have:=(FL (q:= []) (b8:= []) a).2;have c:(az).size=0:=rfl;omega
theorem GO (r:1<=e) (x:e<=8) (y:mH H e q b8 w j3): ∀ {a:aC},w=bm a->a.c7 e->a.size<=1048576->ds H a-> ∃b,j3=bm b/\b.c7 e/\b.size<=1048576/\ds H b/\(∀z∈b.all,z∈a.all)/\(ey q b8 w=true->ey q b8 j3=true):=by
 induction y with
 |refl C=>grind
 | @step C k W f c hk g i ih=>
  intro a o d p h;cases a with
  |nil=>rw[o,show bm .nil=az from rfl,GN]at c;cases c
  |node j live D E=>
   rw[o,q9 r x d p h]at c;obtain rfl:=a6x c;simp only[aC.size]at p;have F:k=bm D\/k=bm E:=by simpa[ck] using hk
   rcases F with rfl|rfl
   .obtain⟨b,G,L,P,S,T,V⟩:=ih rfl d.a aaU h.2.1;grind[aC.all]
   .obtain⟨b,G,L,P,S,T,V⟩:=ih rfl d.b aaU h.2.2;grind[aC.all]
def a3U (a:1<=e) (b:e<=8) (d:a7.c7 e) (h:a7.size<=1048576) (k:ds H a7): ¬vQ H e q b8 (bm a7):=by
 rintro⟨D,o,p,c⟩;obtain⟨r,rfl,x,y,z,_,C⟩:=GO a b o rfl d h k;cases r with
 |nil=>exact zl (C p) rfl
 |node E live F G=>rw[q9 a b x y z]at c;cases c
def a3V (b:1<=e) (c:e<=8) {d:List Int} (h:a7.c7 e) (k:a7.size<=1048576) (o:ds H a7) (p:nP H e b8 d (bm a7) q):q∈a7.all/\jo b8 d q=true:=by
 obtain⟨G,L,r,a,hm,x⟩:=p;obtain⟨y,rfl,z,C,D,E,_⟩:=GO b c r rfl h k o;refine⟨E q ?_,x⟩;cases y with
 |nil=>rw[show bm .nil=az from rfl,GN]at a;cases a
 |node F live P S=>
  rw[q9 b c z C D]at a;obtain rfl:=a6x a;have:q=F/\live=true:=by simpa[ck] using hm
  obtain⟨rfl,rfl⟩:=this;simp[aC.all]
theorem A8 {E:ag}{o:Nat} (c:1<=o) (d:o<=8) {F G p:List Int}: ∀ {h:aC},h.c7 o->h.size<=1048576->ds E h->p∈h.all->jo F G p=true->nP E o F G (bm h) p
 | .nil,_,_,_,b,_=>by cases b
 | .node P live T V,b,L,r,a,k=>by
  have x:=q9 c d b L r;simp only[aC.size]at L;simp only[aC.all,a6L]at a;rcases a with (a|a)|a
  .obtain⟨y,z,C,D⟩:=A8 c d b.a aaU r.2.1 a k;exact⟨y,z,.step x (by simp[ck]) (A7 c d b.a aaU a k) C,D⟩
  .obtain⟨y,z,C,D⟩:=A8 c d b.b aaU r.2.2 a k;exact⟨y,z,.step x (by simp[ck]) (A7 c d b.b aaU a k) C,D⟩
  .have S:live=true/\p=P:=by simp_all
   obtain⟨rfl,rfl⟩:=S;exact⟨_,_,.refl _,x,by simp[ck],k⟩
variable{O:List (List Int)}
theorem a3W (b:1<=e) (c:e<=8) (d:a7.c7 e) (h:a7.size<=1048576) (k:ds H a7) (o:vP H e q b8 (bm a7) O):(O= []↔ ∀a∈a7.all,¬jo q b8 a=true):=by
 constructor
 .intro x a p r;exact o.full x (A7 b c d h p r) a (A8 b c d h k p r)
 .intro y;cases O with
  |nil=>rfl
  |cons a rest=>obtain⟨z,C⟩:=a3V b c d h k (o.sound a aaV);simp_all
theorem GP {id:Int} (d:e<=7) (b:bN (e+1) q):jo (id::List.replicate e iU) (id::List.replicate e jq) q=true↔q.getD 0 0=id:=by
 rw[GM b.len];constructor
 .rintro⟨_,c⟩;have:=c 0 aaU;grind
 .intro h;refine⟨GI id d,λa k=> ?_⟩;cases a with
  |zero=>simp only[a7h];omega
  |succ a=>have c:a<e:=aaU;have o:=b.len;have hm:=b.kI (q.getD (a+1) 0) (by simp_all);simp only[a7k];simp only[a7z,List.getElem?_replicate,if_pos c,a8v];simp only[a7z]at hm;unfold iU jq;omega
def p0 (b:ag) (d:List aU) (c:dq) (h:Int×List aU×ag):Prop:=match d.find? (λa=>decide (a.name=c.table))with
 |none=>h=(3,d,b)
 |some a=>if c.row.length=a.aD.length+1 then
   (vQ b (a.aD.length+1) (c.row.getD 0 0::List.replicate a.aD.length iU) (c.row.getD 0 0::List.replicate a.aD.length jq) a.bo/\h=(21,d,b))\/
   ∃rows,vP b (a.aD.length+1) (c.row.getD 0 0::List.replicate a.aD.length iU) (c.row.getD 0 0::List.replicate a.aD.length jq) a.bo rows/\(∀k∈rows,k.length=a.aD.length+1)/\
    ((rows= []/\h=gF (λb=>rE (a.aD.length+1) c.row b a.bo) (λb=>lz (a.aD.length+1) c.row b a.bu) b d a)\/(rows≠ []/\h=(8,d,b)))
  else h=(6,d,b)
def a3X (z:U) (p r x:Nat) (k:ag) (c:List aU) (l:dE z p r x k c) (m: ∀d∈c,d.Fit) (n:cI c=true) (a:dr) (H:a.d.Fit):
  AC Tryz.prog 57 [.ptr p 0,a.V] z λD E=> ∃res,p0 k c a.d res/\D= .v (.int .i64 res.1)/\dE E p r x res.2.2 res.2.1/\cB p r x z E:=by
 obtain⟨I,l5⟩:=oY n;have q:=λE C=>GF E p r x k c C aaU a H;have s:a.V= .agg [ak a.d.kind,bn a.d.table,.J (bL a.d.aD) a.gx,.J (ad a.d.row) a.dt]:=rfl;obtain⟨l6,l7,K,l8⟩:=l.x;rw[s]at q|-;clear s;have l9:=U.ae K;have n0:=hp.all.1;refine aK hm Mh ?_;refine bp λP M=> ?_;have t:=U.af (X:= .cells [ak a.d.kind,bn a.d.table,.J (bL a.d.aD) a.gx,.J (ad a.d.row) a.dt]) (U.a6) M;have aE:=U.ai z P (.cells [ak a.d.kind,bn a.d.table,.J (bL a.d.aD) a.gx,.J (ad a.d.row) a.dt]);generalize z.set P _=N at*;have u:=l.sub t;refine ah (q N u) ?_;rintro D O ⟨S,b⟩;have V:=S _ _ aE;have n1:=U.ae V;have W:=u.sub S;have e:=U.au t S;have f: ∀d T,eF d T->putAt fD 0 T=T:=λd T C=>(oU C).2.2.1;have n2:=hp.all.2.1;have n3:=f _ _ hp;have g:=kR;generalize fD=n4 at*;unfold oZ at b;unfold p0;cases F:c.find? (λd=>decide (d.name=a.d.table))with
 |none=>
  rw[F]at b
  dsimp only at b
  obtain rfl:=b;refine aa ?_;refine aN λG h=> ?_;rw[g];refine aa ?_;refine⟨_,U.a6,(3,c,k),rfl,rfl,W.sub (U.af U.a6 h),cB.of (U.au e (U.af U.a6 h))⟩
 |some d=>
  rw[F]at b;have hm:=A1 F
  dsimp only at b
  by_cases y:a.d.row.length=d.aD.length+1
  .rw[if_pos y]at b;obtain⟨T,o,rfl⟩:=b;obtain⟨Q,X,Y,_⟩:=o.all;have Z:=f _ _ o;have j9:= @dP a.d.row;have n5:=bM (q:=a.d.row);refine aa ?_;refine aN λG h=> ?_;rw[g];have k0:P≠G:=by rintro rfl;rw[V]at h;cases h
   have n9:=k0.symm;obtain⟨k1,k2⟩:=o.k;obtain⟨k3,k4⟩:=o.z;have v:=I d hm;have a00:=v.c;have a01:=v.k.size;have w:=W.sub (U.af (X:= .cells T) U.a6 h);have k5:=U.af (X:= .cells T) (U.a6) h _ _ V;have k6:=U.ai O G (.cells T);have k7:=U.au e (U.af (X:= .cells T) (U.a6) h);have a02:cC 1 (.J (ad a.d.row) a.dt) (.v (.int .i64 0))=some (.bU [.v (.int .i64 (a.d.row.getD 0 0))]):=by have C:=j9 (b:=0) aaU;have k8:(0:Int)<=0:=aaU;rw[gj k8];show eB 1 (ad a.d.row)[0]? = _;rw[C];rfl
   dsimp only
   simp only[if_pos y];refine aa ?_;refine ah (a3T _ p r x k c w n a.d.table (a.d.row.getD 0 0)) ?_;rintro D k9 ⟨L,b⟩;unfold A5 at b;rw[F]at b
   dsimp only at b
   have i:=w.sub L;have j:=U.au k7 L;have a03:=U.ae (L _ _ k5);have a04:=U.ae (L _ _ k6);rcases b with ⟨a05,rfl⟩|⟨rows,A,B,⟨rfl,rfl⟩|⟨l0,l1,a06,rfl,rfl⟩⟩
   .refine aa ?_;exact⟨_,U.a6,(21,c,k),.inl rfl,rfl,i,cB.of j⟩
   .have l2:=GH k9 p r x k c i m aaU d T o (m d hm) a.d.row a.dt 105 106 _ _ aaZ aaZ (jv.a3M k1 k2 aaU aaU aaU y) (jv.a3O k3 k4 aaU aaU y);refine aa ?_;refine ah l2 ?_;rintro D a07 ⟨rfl,l3,l4⟩;refine aa ?_;exact⟨_,U.a6,_,.inr ⟨[],A,B,.inl ⟨rfl,rfl⟩⟩,rfl,l3,(cB.of j).trans l4⟩
   .refine aa ?_;exact⟨_,U.a6,(8,c,k),.inr ⟨l0::l1,A,B,.inr ⟨aaV,rfl⟩⟩,rfl,i,cB.of j⟩
  .rw[if_neg y]at b;obtain⟨T,o,rfl⟩:=b;obtain⟨Q,X,Y,_⟩:=o.all;have Z:=f _ _ o;refine aa ?_;refine aN λG h=> ?_;rw[g]
   dsimp only
   simp only[if_neg y];refine aa ?_;refine⟨_,U.a6,(6,c,k),rfl,rfl,W.sub (U.af U.a6 h),cB.of (U.au e (U.af U.a6 h))⟩
def iw (c:ag) (b:List aU) (a:dq) (d:Int×List aU×ag):Prop:=
 if eV a=false then d=(1,b,c)
 else if a.kind=1 then d=((iW (ke b ⟨a.table,a.aD,az,az⟩) b).1,(iW (ke b ⟨a.table,a.aD,az,az⟩) b).2,c)
 else if a.kind=2 then d=((iW (cJ b a.table) b).1,(iW (cJ b a.table) b).2,c)
 else if a.kind=3 then p0 c b a d
 else d=kU c b a
theorem a3Y (b:U) (d h k:Nat) (r:ag) (x:List aU) (Z:dE b d h k r x) (j: ∀j9∈x,j9.Fit) (m:cI x=true) (a:dr) (l:a.d.Fit):
  AC Tryz.prog 27 [.ptr d 0,a.V] b λg w=> ∃res,iw r x a.d res/\g= .v (.int .i64 res.1)/\dE w d h k res.2.2 res.2.1/\cB d h k b w:=by
 have k2:=(oY m).2;have n:=λb=>Fk a l b;have A:=λb L=>a3H b d h k r x L j aaU a l;have B:=λb L=>a3G b d h k r x L j aaU a;have H:=λb L=>a3X b d h k r x L j m a l;have I:=λb L=>a3Q b d h k r x L j m a l;have K:a.V= .agg [ak a.d.kind,bn a.d.table,.J (bL a.d.aD) a.gx,.J (ad a.d.row) a.dt]:=rfl;rw[K]at n A B H I|-;clear K;refine aK hm Lh ?_;refine bp λq k0=> ?_;have e:=U.af (X:= .cells [ak a.d.kind,bn a.d.table,.J (bL a.d.aD) a.gx,.J (ad a.d.row) a.dt]) (U.a6) k0;have aE:=U.ai b q (.cells [ak a.d.kind,bn a.d.table,.J (bL a.d.aD) a.gx,.J (ad a.d.row) a.dt]);generalize b.set q _=f at*;have i:=Z.sub e;have k3:=U.ae aE;cases cr:eV a.d with
 |false=>refine bk (n f) ?_;exact⟨_,U.a6,(1,x,r),by unfold iw;rw[if_pos cr],rfl,i,cB.of e⟩
 |true=>
  refine bk (n f) ?_;rw[show List.replicate 5 (R.v .nilFunc)= [.v .nilFunc,.v .nilFunc,.v .nilFunc,.v .nilFunc,.v .nilFunc]from rfl];have k4: ∀z C D E F y:R,putAt [z,C,D,E,F] 1 [y]= [z,y,D,E,F]:=λ_ _ _ _ _ _=>rfl;have k5: ∀z C D E F y:R,putAt [z,C,D,E,F] 2 [y]= [z,C,y,E,F]:=λ_ _ _ _ _ _=>rfl;have k6: ∀z C D E F y:R,putAt [z,C,D,E,F] 3 [y]= [z,C,D,y,F]:=λ_ _ _ _ _ _=>rfl;have k7: ∀z C D E F y:R,putAt [z,C,D,E,F] 4 [y]= [z,C,D,E,y]:=λ_ _ _ _ _ _=>rfl;have k8: ∀z C D E F y M N O v:R,putAt [z,C,D,E,F] 0 [y,M,N,O,v]= [y,M,N,O,v]:=λ_ _ _ _ _ _ _ _ _ _=>rfl;have k9: ∀Q X Y,(R.bG Q X Y).cells= [.bG Q X Y]:=λ_ _ _=>rfl;have P:a.d.kind.toNat=1\/a.d.kind.toNat=2\/a.d.kind.toNat=3\/a.d.kind.toNat=4:=by have L:=cr;simp only[eV,a6B]at L;grind
  refine aa ?_;refine aN λc G=> ?_;have k1:q≠c:=by rintro rfl;rw[aE]at G;cases G
  have l0:=k1.symm;rcases P with P|P|P|P
  .have s:mi 1 5 (.ptr c 0) (ak a.d.kind)=some (.ptr c 1):=by have:=si (e:=1) (i:=5) (v:=c) (M:=0) (e1:= .u8) (b1:=(a.d.kind.toNat)) aaU aaU;rw[a6X,show 0+a.d.kind.toNat*1=1 by omega]at this;exact this
   refine aa ?_;have t:a.d.kind=1:=a7v.1 P;generalize o:(f.set c _)=p;have S:dE p d h k r x:=by subst o;exact i.sub (U.af U.a6 G)
   have T:cB d h k b p:=by subst o;exact cB.of (U.au e (U.af U.a6 G))
   clear o;refine eL ab0 (A p S) ?_;rintro g u ⟨V,W,rfl⟩;refine aa ?_;refine⟨_,U.a6,(_,_,r),?_,rfl,V,T.trans W⟩;unfold iw;grind
  .have s:mi 1 5 (.ptr c 0) (ak a.d.kind)=some (.ptr c 2):=by have:=si (e:=1) (i:=5) (v:=c) (M:=0) (e1:= .u8) (b1:=(a.d.kind.toNat)) aaU aaU;rw[a6X,show 0+a.d.kind.toNat*1=2 by omega]at this;exact this
   refine aa ?_;have t:a.d.kind=2:=a7v.1 P;generalize o:(f.set c _)=p;have S:dE p d h k r x:=by subst o;exact i.sub (U.af U.a6 G)
   have T:cB d h k b p:=by subst o;exact cB.of (U.au e (U.af U.a6 G))
   clear o;refine eL ab0 (B p S) ?_;rintro g u ⟨V,W,rfl⟩;refine aa ?_;refine⟨_,U.a6,(_,_,r),?_,rfl,V,T.trans W⟩;simp_all [iw]
  .have s:mi 1 5 (.ptr c 0) (ak a.d.kind)=some (.ptr c 3):=by have:=si (e:=1) (i:=5) (v:=c) (M:=0) (e1:= .u8) (b1:=(a.d.kind.toNat)) aaU aaU;rw[a6X,show 0+a.d.kind.toNat*1=3 by omega]at this;exact this
   refine aa ?_;have t:a.d.kind=3:=a7v.1 P;generalize o:(f.set c _)=p;have S:dE p d h k r x:=by subst o;exact i.sub (U.af U.a6 G)
   have T:cB d h k b p:=by subst o;exact cB.of (U.au e (U.af U.a6 G))
   clear o;refine eL ab0 (H p S) ?_;rintro g u ⟨res,l1,rfl,V,W⟩;refine aa ?_;refine⟨_,U.a6,res,?_,rfl,V,T.trans W⟩;simp_all [iw]
  .have s:mi 1 5 (.ptr c 0) (ak a.d.kind)=some (.ptr c 4):=by have:=si (e:=1) (i:=5) (v:=c) (M:=0) (e1:= .u8) (b1:=(a.d.kind.toNat)) aaU aaU;rw[a6X,show 0+a.d.kind.toNat*1=4 by omega]at this;exact this
   refine aa ?_;have t:a.d.kind=4:=a7v.1 P;generalize o:(f.set c _)=p;have S:dE p d h k r x:=by subst o;exact i.sub (U.af U.a6 G)
   have T:cB d h k b p:=by subst o;exact cB.of (U.au e (U.af U.a6 G))
   clear o;refine eL ab0 (I p S) ?_;rintro g u ⟨rfl,V,W⟩;refine aa ?_;refine⟨_,U.a6,kU r x a.d,?_,rfl,V,T.trans W⟩;simp_all [iw]
theorem p1:cI e3=true↔(∀b∈e3,fU b=true)/\e3.Pairwise (λc d=>c8 c.name d.name=true)/\e3.length<=8:=by
 constructor
 .intro a;have o:=zX a;simp only[cI,a6B,a6P,a7O,decide_eq_true_eq]at a;refine⟨λb h=> ?_,?_,a.2⟩
  .obtain⟨p,r,rfl⟩:=a7l h;simp_all
  grind[List.pairwise_iff_getElem,List.getD]
 .rintro⟨x,k,y⟩;rw[a7Y]at k;simp only[cI,a6B,a6P,a7O,decide_eq_true_eq,a8l];grind
variable{A:List UInt8}
theorem GQ {b:List aU} (c:cI e3=true) (a:cJ e3 A= .ok b):cI b=true:=by
 unfold cJ at a;rw[if_pos c]at a;split at a
 .obtain rfl:=Except.ok.inj a;obtain⟨d,h,k⟩:=p1.1 c;have o:(e3.take (cW e3 A)++e3.drop (cW e3 A+1)).Sublist e3:=by grind[cW,List.Sublist.append_left,List.drop_drop,List.drop_sublist,List.take_append_drop]
  grind[p1,Nat.le_trans]
 .cases a
theorem GR {c:List aU} (a:kf e3 e8= .ok c):cI c=true:=by
 unfold kf at a;split at a
 .rename_i b;simp only[a6B]at b;obtain⟨b,p⟩:=b;split at a
  .rename_i d;obtain rfl:=Except.ok.inj a;simp only[gE,a6B,decide_eq_true_eq]at d;obtain⟨h,r⟩:=d;obtain⟨x,k,o⟩:=p1.1 b;have y:(e3[cW e3 e8.name]'h).name=e8.name:=by simp_all
   refine p1.2 ⟨λz C=> ?_,?_,by rw[a9z];exact o⟩;grind
   .rw[a7Y]at k|-;grind
  .cases a
 .cases a
def GS {c:aU->Bool}: ∀ {d:List aU},∀b∈d.takeWhile c,c b=true
 | [],b,a=>by cases a
 |h::d,b,a=>by
  rw[a7U]at a;split at a
  .rcases a6W.1 a with rfl|a
   .assumption
   .exact GS b a
  .cases a
theorem GU {c:aU->Bool}: ∀ {d:List aU}{b:aU}{h:List aU},d.dropWhile c=b::h->c b=false
 | [],_,_,a=>by cases a
 |k::d,b,h,a=>by
  rw[a9d]at a;split at a
  .exact GU a
  simp_all
theorem GV {o:List aU} (b:ke e3 e8= .ok o):cI o=true:=by
 unfold ke at b;split at b
 .rename_i d;simp only[a6B]at d;obtain⟨d,E⟩:=d;split at b
  .cases b
  rename_i F;split at b
  .cases b
  rename_i G;obtain rfl:=Except.ok.inj b;obtain⟨L,p,P⟩:=p1.1 d;have r:e3.take (cW e3 e8.name)=e3.takeWhile λa=>c8 a.name e8.name:=by grind[List.takeWhile_append_dropWhile,c8,cW,List.take_left]
  have x:e3.drop (cW e3 e8.name)=e3.dropWhile λa=>c8 a.name e8.name:=by grind[List.takeWhile_append_dropWhile,c8,cW,List.drop_left]
  have el:=a7t (p:=λa:aU=>c8 a.name e8.name) (l:=e3);have S: ∀a∈e3.takeWhile (λa=>c8 a.name e8.name),c8 a.name e8.name=true:=λa c=>GS a c;have y: ∀a∈e3.dropWhile (λa=>c8 a.name e8.name),c8 e8.name a.name=true:=by
   intro a c;cases h:e3.dropWhile (λa=>c8 a.name e8.name)with
   |nil=>rw[h]at c;cases c
   |cons k T=>
    have V:=GU h;have W:cW e3 e8.name<e3.length:=by grind
    have e:e3.getD (cW e3 e8.name) default=k:=by grind
    have f:k.name≠e8.name:=λg=>by
     simp_all [gE]
    have z:c8 e8.name k.name=true:=by grind[c8,absurd,FT]
    rw[h]at c;rcases a6W.1 c with rfl|c
    .exact z
    grind[vB,List.pairwise_cons]
  rw[r,x];refine p1.2 ⟨λa c=> ?_,?_,?_⟩;grind
  .rw[<-el]at p;obtain⟨C,D,i⟩:=a7G.1 p;refine a7G.2 ⟨C,a7i.2 ⟨y,D⟩,λj l m n=> ?_⟩;grind
  grind
 .cases b
end Go.Proofs.YtcfpcblgmmeioaaGreat
namespace Go.bD
open Go
variable{n b6:R}{f s e0:U}{g B c0:List R}{e i v M b9 j2:Nat}
theorem View.obj (p:f e=some (.cells (B++ .ao i M b9 1::c0))) (z:f i=some (.cells g)) (C:M*1<=g.length) (D:e≠i):
  View f n ((f.set i (.ro g)).set e (.cells (B++ .J (er 1 M g) .any::c0))) n:=λt u v E F=>by
 obtain⟨G,a⟩:=Step.freeze E z;have L:(f.set i (.ro g)) e=some (.cells (B++ .ao i M b9 1::c0)):=by rw[U.an _ _ D];exact p
 obtain⟨w,P,T,S,h,V⟩:=a.holds.db e _ L;refine⟨G,⟨⟨a.holds.ro,λr W b=> ?_⟩,a.le,a.os,a.tape,a.output,a.size,λ_ _ _=>rfl,λk A=> ?_,a.mM,λk j l o=> ?_⟩,F.mono a.le⟩
 .by_cases c:r=e
  .subst c;rw[U.ai]at b;obtain rfl:=a6x b;refine⟨λH d=> ?_,P,T,S,⟨by have:=h.1;simp_all,λx y m=> ?_⟩,V⟩
   .simp only[a6L,a6W]at d;rcases d with d|rfl|d
    .simp_all
    .rfl
    .simp_all
   .by_cases q:x=B.length
    .subst q;have s:y= .J (er 1 M g) .any:=by simpa using m.symm
     subst s;exact aX.frozen a.holds (U.ai _ _ _) C (h.2 B.length (.ao i M b9 1) aaV)
    .refine h.2 x y ?_;grind
  .rw[U.an _ _ c]at b;exact a.holds.db r W b
 grind[U.an]
 .have c:k≠e:=by rintro rfl;rw[p]at o;cases o
  rw[U.an _ _ c];exact a.jE k j l o
def A9 (k o:U):Prop:= ∀a b c d h,k a=some (.cells [.J b c,.J d h])->o a=some (.cells [.J b c,.J d h])
end Go.bD
namespace Go.Proofs.YtcfpcblgmmeioaaGreat
open Go Go.bD
def bA.vT {r x:U} (d:A9 r x): ∀ {a:Nat}{b:a1.T a}{c:R},bA r a b c->bA x a b c
 |0,b,c,⟨h,y,k,eE,h1,o,p⟩=>⟨h,y,k,eE,h1,d _ _ _ _ _ o,p⟩
 |a+1,b,c,⟨h,z,k,eE,h1,o,p,C⟩=>⟨h,z,k,eE,h1,d _ _ _ _ _ o,p.mono λ_ _=>bA.vT d,C⟩
variable{e i v M b9 j2:Nat}
theorem a3Z (r:List Int) (S:Own) (C:a1.T 0) (T:R) (o:U) (q:bA o 0 C T) (V:GT e 0 C) (Y:e<=8):
  AC Tryz.prog 116 [T,.J (ad r) S] o λy c=>o.sub c/\bA c 0 (a1.cJ bC r 0 C) y:=by
 obtain⟨Z,j9,s,k0,rfl,W,G⟩:=q;obtain⟨d,rfl⟩:=a1.ig C;rw[a1.rb]at G;have f:=V.ok;have t:=V.dK;rw[a1.jn]at f t;have k1:=G.len;show AC _ _ _ _ λy c=>o.sub c/\bA c 0 (a1.leaf (d.filter λa=>decide (a≠r))) y;refine AC.view (t:=λy c=> ∃a h k,y= .ptr a 0/\o a=none/\av (o.set a (.cells [h,.J [] .nil])) c 1 k h/\aB isRow (d.filter λa=>decide (a≠r)) k) ?_ ?_
 .have u:=U.ae W;refine aK hm BZ ?_;refine bp λa z=> ?_;refine cg [0,1,5] (λb:Nat=> [(6,.v (.int .i64 (b)))]) (λb c=>b<=d.length/\ ∃h k,av (o.set a (.cells [h,.J [] .nil])) c 1 k h/\aB isRow ((d.take b).filter λa=>decide (a≠r)) k) (λb=>d.length - b) 0 ⟨⟨aaU,_,[],av.nil U.a6,trivial⟩,aO⟩ ?_;rintro b v ⟨k2,h,k,p,x⟩ k3;have k4:=x.len;have w:=p.1 _ _ (U.ai _ _ _);have u:=rd (U.au (U.af U.a6 z) p.1) W;have L:=U.ae w;refine aa ?_;refine aH (λA=> ?_) λA=> ?_
  .obtain⟨_,k5,g,rfl⟩:=G.at [] (e:=b) aaU;have B:=eR (a:=d) (b:= []) (e:=b) aaU;have k6:=(f (d.getD b []) (by grind)).len;generalize d.getD b []=D at*;refine np (tg D r g S v aaU) ?_;refine aH (λc2=> ?_) λc2=> ?_
   .have H:=a9O (λa=>decide (a≠r)) (d.take b);rw[a6C]at H;refine Yu p (λ_ i k7 P=> ?_);have k8:=U.aI (P.1 _ _ (U.ai _ _ _));have k9:=fJ P;have j:=jP (X:= .cells [i,.J [] .nil]) P (U.ai o a (.cells [h,.J [] .nil]));rw[U.set_set]at j;refine aa ?_;exact⟨b+1,⟨aaU,i,_,j,by rw[B,a9E,aal (by simpa using c2),aap];exact x.snoc ⟨g,rfl⟩⟩,rfl,aaU⟩
   grind
  .rw[a6z aaU]at x;exact⟨_,U.a6,a,h,k,rfl,z,p,x⟩
 .rintro y c ⟨a,h,k,rfl,z,p,x⟩;have L:=p.1 _ _ (U.ai _ _ _);have l:=U.au (U.af U.a6 z) p.1;rcases p.2 with ⟨rfl,I⟩|⟨m,K,l0,M,rfl,E,N,O,l1,l2,l3,l4⟩
  .refine⟨_,c,View.refl,l,?_⟩;rcases I with rfl|rfl<;>exact⟨a,[],_,.nil,rfl,L,x⟩
  .have Q:a≠m:=by rintro rfl;rw[U.ai]at E;cases E
   refine⟨_,_,View.obj (B:= []) L N (by rw[O];omega) Q,?_,a,_,.any,.nil,rfl,U.ai _ _ _,?_⟩
   .intro D s F;have n:D≠a:=by rintro rfl;rw[z]at F;cases F
    have X:D≠m:=by rintro rfl;rw[U.an _ _ n,F]at E;cases E
    rw[U.an _ _ n,U.an _ _ X];exact l _ _ F
   .rw[mm,show M.take K=k by simp_all];exact x
def qc {d:U}{b:Nat}: ∀ {h:List (a1.T b)}{a:List R},aB (bA d b) h a->flat a=a
 | [],[],_=>rfl
 | _:: _,k::a,c=>by
  obtain⟨o,p,r,rfl,_⟩:=bA.ptr c.1;have:=qc c.2;simp only[flat,a7a]at this|-;rw[this];rfl
variable{n b6:R}{f s e0:U}
def bA.shape {p:a1.T e} (r:bA f e p n): ∃a k b d c,n= .ptr a 0/\f a=some (.cells [.J k b,.J d c])/\k.length+d.length=a1.len p/\(e=0->d= [])/\(e≠0->k= []/\d≠ []):=by
 cases e with
 |zero=>obtain⟨a,x,b,c,rfl,o,h⟩:=r;exact⟨a,x,b,[],c,rfl,o,by rw[h.len];rfl,λ_=>rfl,λe=>absurd rfl e⟩
 |succ e=>obtain⟨a,y,b,c,rfl,o,h,z,_⟩:=r;refine⟨a,[],c,y,b,rfl,o,by rw[h.len];simp[a1.len],λe=>(by cases e),λ_=>⟨rfl,?_⟩⟩;rintro rfl;exact z (aB.yn h)
variable{g B c0:List R}
theorem a4a {a:List (a1.T i)} (k:aB (bA f i) a g) (p:g≠ []) (o:B.take e=g): ∀b c d h,B≠ [.J b c,.J d h]:=by
 rintro b c d h rfl;cases g with
 |nil=>trivial
 |cons r g=>
  cases a with
  |nil=>trivial
  |cons x a=>
   obtain⟨y,_,_,rfl,_⟩:=bA.ptr k.1;cases e with
   |zero=>cases o
   |succ e=>grind
theorem av.GW (b:av f s 1 g n): ∃a,View s n a (.J g .any)/\f.sub a:=by grind[View.dv,mm,List.take_of_length_le]
theorem bA.rows {a:U}{b:a1.T 0}{c:Nat}{d h:List R}{k o:Own} (p:bA a 0 b (.ptr c 0)) (r:a c=some (.cells [.J d k,.J h o])):aB isRow (a1.rows b) d:=by obtain⟨_,_,_,_,x,y,z⟩:=p;simp_all
theorem bA.kids {b:U}{a:Nat}{c:a1.T (a+1)}{d:Nat}{k h:List R}{o p:Own} (r:bA b (a+1) c (.ptr d 0)) (x:b d=some (.cells [.J k o,.J h p])):aB (bA b a) (a1.kids c) h:=by obtain⟨_,_,_,_,y,z,a,_⟩:=r;simp_all
variable{N e5 h6:Own}
def rI (a:aW 1 g) (b:flat g=g):bV f 1 (.J g N)=some (g.length,g):=by have:=(jT.J (o:=N) a).src f U.a6;rwa[b]at this
def vU (k:av s f 1 g (.ao e v M 1)) (a:g[i]? =some n):cC 1 (.ao e v M 1) (.v (.int .i64 (i:Int)))=some (.ptr e i)/\ ∃b,f.read e=some b/\qK false 1 i (some b)=some n:=by have y:=(a6H.1 a).1;obtain⟨z,C,D,b,c,E,o,p,d,r,F,G⟩:=k.ao (by rintro rfl;simp at a);simp only[R.ao.injEq,and_true]at c;obtain⟨rfl,rfl,rfl⟩:=c;rw[a7s]at p d r;have h:=jJ (e:=1) (i:=e) (v:=v) (M:=M) (e1:= .i64) (b1:=(i)) aaU aaU;rw[a6X,a7s]at h;refine⟨h,b,U.ae o,?_⟩;rw[<-d,a7D aaU]at a;obtain⟨x,rfl⟩:=a6H.1 a;rw[C9 aaU,a6Y x];rfl
theorem a4b {a:List (a1.T i)}{b:a1.T i} (p:e<a.length) (k:2<=a.length) (o: ¬2<=a1.len b):
  ∃d h,(a.set e b)[e - 1]? =some d/\(a.set e b)[e - 1+1]? =some h/\a1.ly a e b=(a.set e b).take (e - 1)++a1.kD d h++(a.set e b).drop (e - 1+2):=by
 rw[a1.ly,if_neg o];by_cases c:e=0
 .subst c;refine⟨b,a[1],aav aaU,aaV,?_⟩;rw[if_pos rfl,a6y k,aaO aaU];rfl
 .refine⟨a[e - 1],b,by grind,by grind,?_⟩;rw[if_neg c,a6y aaU,aaO aaU,List.take_set_of_le aaU];simp[c]
set_option maxHeartbeats 1000000 in
theorem a4c (k7:1<=e) (Q:e<=8) (r:List Int) (k8:Own) (X:bN e r): ∀(a:Nat) (G:a1.T a) (C:R) (p:U),bA p a G C->GT e a G->
  AC Tryz.prog 116 [C,.J (ad r) k8] p λA c=>p.sub c/\bA c a (a1.cJ bC r a G) A:=by
 have b45:=X.len;intro a
 induction a with
 |zero=>intro G C p u l;exact a3Z r k8 G C p u l Q
 |succ a ih=>
 intro G C p u l;obtain⟨h,rfl⟩:=a1.gu G;have m:=l.kids k7 Q X;have k9:=F3 h C r k8 p u aaU λb L=>by
  obtain⟨v,_,b46,a88⟩:=m.gw b L;have:=v.dK;have:=a88.len;grind
 obtain⟨b47,l0,b48,b49,rfl,Y,k,_,_⟩:=u;rw[a1.fo]at k;have b50:=k.len;obtain⟨a89,b51⟩:=m.two;obtain⟨b,L⟩:=m.at_;have Z:a1.cJ bC r (a+1) (a1.node h)=a1.node (a1.ly h (a1.cQ bC r (h.map (a1.cM a))) (a1.cJ bC r a b)):=by simp only[a1.cJ,a1.fo];rw[L]
 obtain⟨_,_,a90,a92⟩:=a1.pT (ga k7 Q) X (a+1) (a1.node h) l.wf l.dX l.ok;rw[Z,a1.dI,a1.dI]at a90;rw[Z,a1.dI]at a92;rw[Z];rw[m.F4]at k9;clear Z;generalize a1.cQ bC r (h.map (a1.cM a))=o at*;have a16:=(a6H.1 L).1;obtain⟨v,a94,_,_⟩:=m.gw b (a6D L);obtain⟨_,_,a95,a96⟩:=a1.pT (ga k7 Q) X a b v.wf v.dX v.ok;have a18:=λC p u=>ih b C p u v;have a97:=λb L=>(a1.hf.1 (m.gw b L).2.1).2.1;have a98:=(a1.hf.1 a94).1;have l1:=a4b (b:=a1.cJ bC r a b) a16 a89;have l2:2<=a1.len (a1.cJ bC r a b)->a1.ly h o (a1.cJ bC r a b)=h.set o (a1.cJ bC r a b):=λa=>by rw[a1.ly,if_pos a]
 clear m l;generalize a1.ly h o (a1.cJ bC r a b)=l3 at*;generalize a1.cJ bC r a b=B at*;refine AC.view (t:=λA c=> ∃d x z D P,A= .ptr d 0/\p d=none/\p x=none/\d≠x/\c d=some (.cells [.J [] .nil,.ao x z D 1])/\(∃E,c x=some (.cells E)/\z<=E.length/\E.take z=P)/\aB (bA c a) l3 P/\p.sub c) ?_ ?_;rotate_left
 .rintro A c ⟨d,x,z,D,P,rfl,F,a99,b00,j9,⟨E,f,b52,b01⟩,b02,b03⟩;have b53:P≠ []:=by rintro rfl;grind[aB.yn]
  refine⟨_,_,View.obj (B:= [.J [] .nil]) j9 f aaU b00,?_,d,_,.any,.nil,rfl,U.ai _ _ _,?_,?_,by rw[a1.fo];omega⟩
  .intro n a19 H;have b04:n≠d:=by rintro rfl;rw[F]at H;cases H
   have a27:n≠x:=by rintro rfl;rw[a99]at H;cases H
   rw[U.an _ _ b04,U.an _ _ a27];exact b03 _ _ H
  .rw[a1.fo,mm,b01];refine b02.mono λ_ _=>bA.vT λI b05 b06 b07 a19 K=> ?_;have k0:I≠d:=by rintro rfl;rw[j9]at K;simp at K
   have l4:I≠x:=by rintro rfl;grind[a4a,bs.cells.inj,Option.some.inj]
   rw[U.an _ _ k0,U.an _ _ l4];exact K
  grind[a1.fo]
 have b08:=U.ae Y;have b54: ¬(h.length:Int)=0:=aaU;have l5:=bA.c k;refine aK hm BZ ?_;refine cl k9 ?_;rintro _ a29 ⟨M,rfl⟩;have b09:=rd M Y;have l6:=k.mono λ_ _=>bA.mono M;refine uA (rI l5 (qc k)) λb55 b10 N=> ?_;obtain⟨g,z,D,b56,rfl,a27,a30,b11,b12,b13,b57,b58⟩:=av.ao N (by grind);obtain rfl:z=h.length:=aaU;have a34:=N.1;have b14:=rd (U.au M a34) Y;obtain⟨_,a36,l7⟩:=l6.get L;obtain⟨b15,_,_,rfl,_⟩:=l7.ptr;refine cl (a18 _ b10 (bA.mono a34 l7)) ?_;rintro A l8 ⟨l9,n0⟩;obtain⟨i,_,_,rfl,_⟩:=n0.ptr;obtain⟨n1,a38,a42,-,y⟩:=av.put (a:= .ptr i 0) (by rw[qc l6];exact N.mono l9) aaU l5 a36 rfl;have b16:=(vU (N.mono l9) a36).1;have b17:=U.aI a38;rw[a7s]at y a42;have aE:n1.take h.length=l0:=by have I:=l9 _ _ a30;simp_all
 obtain⟨S,n2⟩: ∃S,l8.set g (.cells (putAt n1 o [.ptr i 0]))=S:=⟨_,rfl⟩;have a43:A9 l8 S:=λI b05 b06 b07 a19 K=>by
  have l4:I≠g:=by grind
  rw[<-n2,U.an _ _ l4];exact K
 change av a29 (l8.set g (.cells (putAt n1 o [.ptr i 0]))) 1 _ _ at y;rw[n2]at y;have T:=aB.set o (l6.mono λ_ _ j9=>bA.mono y.1 j9) (bA.vT a43 n0);rw[qc T]at y;have b18:=T.len;rw[a9z,a9z]at b18;have a47:(l0.set o (.ptr i 0))[o]? =some (.ptr i 0):=aav aaU;have a48:(h.set o B)[o]? =some B:=by simp[a16]
 clear aE a43 n0 k l5 b08 b09 b14 a30 b11 b12 b13 N;generalize b59:h.set o B=a52 at*;generalize l0.set o (.ptr i 0)=a56 at*;have b60:a52.length=h.length:=by grind
 have a57:=U.au M y.1;have n3: ∀b∈a52,a1.len b<=4:=λb L=>by
  grind
 obtain⟨b61,b19,b20⟩:=(vU y a47).2;obtain⟨b21,a61,b22,a62,n4,a63,a65,b23,_,_⟩:=(T.get a48|>.elim λC a=>by simp_all:bA S a B (.ptr i 0)).shape;obtain rfl:i=b21:=by simpa using a63
 clear a63 a18 ih k9;have b24:=U.ae a65;have a68: ∀(n5 c) (P) (q) (d),p.sub n5->av n5 c 1 P q->aB (bA c a) l3 P->c d=none->
   ∃k1 x z D a69,R.ptr d 0= .ptr k1 0/\p k1=none/\p x=none/\k1≠x/\(c.set d (.cells [.J [] .nil,q])) k1=some (.cells [.J [] .nil,.ao x z D 1])/\(∃E,(c.set d (.cells [.J [] .nil,q])) x=some (.cells E)/\z<=E.length/\E.take z=a69)/\aB (bA (c.set d (.cells [.J [] .nil,q])) a) l3 a69/\p.sub (c.set d (.cells [.J [] .nil,q])):=λn5 c P q d n9 a00 k F=>by
  have a01:=U.af (X:= .cells [.J [] .nil,q]) U.a6 F;obtain⟨x,z,D,E,rfl,a02,a71,b62,b63,b64,b65,_⟩:=a00.ao (λs=>by grind[aB.yn]);exact⟨d,x,z,D,P,rfl,U.bI (U.au n9 a00.1) F,U.bI n9 a02,(λs=>by rw[s,a71]at F;cases F),U.ai _ _ _,⟨E,a01 _ _ a71,aaU,by simp_all⟩,k.mono λ_ _ a=>bA.mono a01 a,U.au n9 (U.au a00.1 a01)⟩
 by_cases c2:2<=a1.len B
 .have aE:(1)<(a61.length)+(a62.length:Int):=aaU;obtain rfl:=l2 c2;clear l2 l1;have b25:=fJ y;refine aa ?_;refine bp λd F=> ?_;exact⟨_,U.a6,a68 a29 S a56 _ d M y T F⟩
 obtain⟨a73,a74,a03,k2,rfl⟩:=l1 c2;have aE: ¬(1)<(a61.length)+(a62.length:Int):=aaU;clear l2 c2 l1;refine aa ?_;clear aE a65 b23 b24 b20 b19 a47 a48 b16 b17 a38 a42;refine om [0,7,8] (λ_:Unit=> [(9,.v (.int .i64 ((o - 1:Nat))))]) (λ_ c=>c=S) (λb=> ?_) (λb=> ?_) ?_
 .have b:=of_decide_eq_true b;have s:((o - 1:Nat):Int)=0:=aaU;exact aO
 .have b:=of_decide_eq_false b;have s:(o) - 1=((o - 1:Nat):Int):=aaU;exact aO
 clear n2;rintro _ S rfl b26;generalize o - 1=j at*;have b66:=(a6H.1 k2).1;have b67:=n3 _ (a6D a03);have b68:=n3 _ (a6D k2);obtain⟨_,b27,a04⟩:=T.get a03;obtain⟨_,b28,a05⟩:=T.get k2;obtain⟨b69,b70,b71,b72,b73,rfl,w,b74,_,_⟩:=a04.shape;obtain⟨x,b75,b76,cj,b77,rfl,f,b78,_,_⟩:=a05.shape;obtain⟨b29,b79,b80,b81,b82,s,b30,_,b31,b32⟩:=(bA.mono y.1 l7).shape;obtain rfl:b15=b29:=by simpa using s
 obtain⟨b83,b84,b33,b85⟩:=vU y b27;obtain⟨a81,b86,a06,b87⟩:=vU y b28;have a81:cC 1 (.ao g h.length D 1) (.v (.int .i64 ((j)+1)))=some (.ptr g (j+1)):=a81;have b88:=U.ae b30;have b89:=rd a57 Y;rw[b33]at a06;obtain rfl:=a6x a06;clear s a06 n3 a95 a96 a97 a98 a03 k2;refine aa ?_;refine om [8,9] (λn:List R×Own=> [(12,.J n.1 n.2)]) (λn c=>S.sub c/\aB (bA c a) (a1.kD a73 a74) n.1) (λcN=> ?_) (λcN=> ?_) ?_
 .have cN:=of_decide_eq_true cN;cases a with
  |succ a=>exact absurd (a6F aaU) (b32 aaU).2
  |zero=>have k:=a04.rows w;have V:=a05.rows f;have b34:=k.len;have b35:=V.len;have a07:=U.ae w;have a08:=U.ae f;refine uA (rI (iR k) (nE k)) λa5 b36 t=> ?_;have a07:=rd t.1 w;have a08:=rd t.1 f;refine qY t (rI (iR V) (nE V)) λdi b37 a09=> ?_;obtain⟨a10,a11,k3⟩:=av.GW a09;refine cl (AC.nF (g:= []) a11 (EX _ _ .any a10 (k.append V) (by rw[a6A];omega))) ?_;rintro _ a13 ⟨a14,k4,k5,rfl,W⟩;refine aa ?_;exact⟨(k4,k5),⟨U.au k3 a14,W⟩,rfl⟩
 .have cN:=of_decide_eq_false cN;cases a with
  |zero=>exact absurd (by rw[b31 rfl];rfl) cN
  |succ a=>have k:=a04.kids w;have V:=a05.kids f;have b34:=k.len;have b35:=V.len;have a07:=U.ae w;have a08:=U.ae f;refine uA (rI (bA.c k) (qc k)) λa5 b36 t=> ?_;have a07:=rd t.1 w;have a08:=rd t.1 f;refine qY t (rI (bA.c V) (qc V)) λdi b37 a09=> ?_;obtain⟨a10,a11,k3⟩:=av.GW a09;refine cl (AC.nF (g:= []) a11 (yx S _ _ .any a10 (k.append V) (by rw[a6A];omega) k3)) ?_;rintro _ a13 ⟨a14,k4,k5,rfl,W⟩;refine aa ?_;exact⟨(k4,k5),⟨U.au k3 a14,W⟩,rfl⟩
 rintro⟨k4,k5⟩ a13 ⟨a15,W⟩ b26
 dsimp only at W|-
 have b90:=W.len;have b91:(a1.kD a73 a74).length<=4:=by grind
 have a83:=y.mono a15;have b38:=T.len;have b22:=hU (e:=1) (M:=g) (b9:=h.length) (i:=D) (v:=j) (e1:= .i64) aaU;obtain⟨b92,b93,b39,_⟩:=(a83.first (i:=j) aaU).src;obtain⟨_,_,_,b94,k0,_,b40,b95,b41,_,_,_⟩:=a83.ao (by rintro rfl;simp at b38;omega);simp only[R.ao.injEq,and_true]at k0;obtain⟨rfl,rfl,rfl⟩:=k0;refine uA b39 (λb96 b97 b42=> ?_) (x:=by rw[a6C];omega);refine qY b42 (rI (bA.c W) (qc W)) (λb98 b43 a84=> ?_) (y:=by rw[a6C];omega);obtain⟨a02,n4,_,k6⟩:=oG (i:=1) (j2:=g) (M:=h.length) (e:=j+2) (e1:= .i64) aaU aaU;have k6:=k6 b43 _ a56 (a84.1 _ _ b40) aaU b41;rw[a7s]at k6;have n4:cn 1 (.ao g h.length D 1) (some (.v (.int .i64 ((j)+2)))) none none=some a02:=n4;refine qY a84 k6 (λb99 b44 O=> ?_) (x:=by rw[a6R];omega) (y:=by grind);have b25:=fJ O;have a86:=λ{G:a1.T a}{C:R}=>bA.mono (t:=G) (a:=C) (U.au a15 O.1);refine aa ?_;refine bp λd F=> ?_;rw[a7s]at O;exact⟨_,U.a6,a68 a13 b44 _ _ d (U.au a57 a15) O ((((T.take j).mono λ_ _ a=>a86 a).append (W.mono λ_ _ a=>bA.mono O.1 a)).append ((T.drop (j+2)).mono λ_ _ a=>a86 a)) F⟩
variable{O:List (List Int)}
def Aa:(dD 0 (a1.leaf O)).rows.map Prod.fst=O:=by rw[a0L];show(O.map λa=>(a,true)).map Prod.fst=O;rw[a8D];exact List.map_id' O
def GX:(dD 0 (a1.leaf O)).kind=2:=rfl
def Ab {a:a1.T (e+1)}: ¬(dD (e+1) a).kind=2:=by show¬(3)=2;decide
def GY (c:1<=i) (d:i<=8) {a:List (a1.T e)} (h:dp i (e+1) (a1.node a)) (b:List Int):hG b (dD (e+1) (a1.node a))=a1.cQ bC b (a.map (a1.cM e)):=by unfold hG;rw[yD];congr 1;show(a.map (bK e)).map (·.key)= _;rw[a8D];exact a8i λk o=>a0O c d (h.gw k o).1
def GZ {a:List (a1.T e)}:(dD (e+1) (a1.node a)).kids[i]? =a[i]?.map (bK e):=by rw[yD];show(a.map (bK e))[i]? = _;simp
variable{q b8:List Int}
theorem H0 (r:1<=i) (x:i<=8) {a:List (a1.T e)} (c:GT i (e+1) (a1.node a)) (y:bN i q) {b:a1.T e} (d:a[a1.cQ bC q (a.map (a1.cM e))]? =some b):q∈a1.ba (e+1) (a1.node a)↔q∈a1.ba e b:=by obtain⟨h,D,z,E⟩:=c.wf;rw[a1.dI]at h;have F: ∀b∈a,a1.WF e b:=z;have k:=c.dX;have o:=c.ok;rw[a1.fN]at k o|-;obtain⟨G,p,L,P⟩:=a1.vf (ga r x) y (by intro C;subst C;simp at h) (λb d=>by grind[a1.hf]) k o;rw[d]at p;obtain rfl:=a6x p;have S:=a1.rh d;grind[a1.cQ,bC,a1.cM,pS]
theorem H2 {D:Nat} (p:1<=D) (r:D<=8) {c:List Int} (z:bN D c): ∀(a:Nat) (y:a1.T a) (C:ag) (F:Nat),GT D a y->fg C a y->a<F->c∉a1.ba a y->Laid C a (a1.eS bC c a y) (gv D c F C (bK a y))
 |0,y,C,F+1,h,G,_,f=>by
  obtain⟨L,rfl⟩:=a1.ig y;obtain⟨s,t,_⟩:=h.wf;rw[a1.hF]at s t;have S:=h.ok;have g:(dD 0 (a1.leaf L)).rows.map Prod.fst=L:=Aa;rw[gv,rD p r h.fQ G];simp only;rw[if_pos GX,g,zv (O:=L) p r h.dX S z,decide_eq_false (p:=c∈L) f,if_neg aaY,a2N (O:=L) p r h.dX S z];exact G1 p r C (a1.dT bC L c) (by rw[a1.oD];omega) (by rw[a1.oD];omega) λE k=>by
   rcases a1.sZ.1 k with rfl|k
   .exact z
   .exact S E k
 |a+1,y,C,F+1,h,G,H,f=>by
  obtain⟨b,rfl⟩:=a1.gu y;have i:=h.kids p r z;obtain⟨d,P⟩:=i.at_;have j:=a6D P;have l:c∉a1.ba a d:=λx=>f ((H0 p r h z P).2 x);obtain⟨I,K⟩:=i.two;have T:=(i.gw d j).1;obtain⟨u,M,N,O⟩:=a1.ri (ga p r) z a d T.wf T.dX T.ok l;have ih:=H2 p r z a d C F T (G.2 d j) aaU l;rw[gv,rD p r h.fQ G];simp only;rw[if_neg Ab,GY p r h.fQ,GZ,P];simp only[a7F];have m:a1.eS bC c (a+1) (a1.node b)=(a1.chunks (b.take (a1.cQ bC c (b.map (a1.cM a)))++a1.eS bC c a d++b.drop (a1.cQ bC c (b.map (a1.cM a))+1))).map a1.node:=by simp only[a1.eS,a1.fo];rw[P]
  rw[m];clear m;have Q:=(a6H.1 P).1;have X:=a1.rh P;generalize a1.cQ bC c (b.map (a1.cM a))=o at*;generalize gv D c F C (bK a d)=E at*;obtain⟨Y,v⟩:=E;obtain⟨n,V,q⟩:=ih;simp only at n V q;subst n;simp only;have g:(dD (a+1) (a1.node b)).kids.take o++((a1.eS bC c a d).map (bK a)++(dD (a+1) (a1.node b)).kids.drop (o+1))=(b.take o++a1.eS bC c a d++b.drop (o+1)).map (bK a):=by rw[yD];show(b.map (bK a)).take o++(_++(b.map (bK a)).drop (o+1))= _;simp
  rw[g];have w: ∀E∈(b.take o++a1.eS bC c a d++b.drop (o+1)).flatMap (a1.ba a),bN D E:=λE k=>by
   rw[a7r,a7r,u,a6L,a6L]at k;have S:=h.ok;rw[a1.fN]at S;rcases k with (k|k)|k;grind
   .rcases a1.sZ.1 k with rfl|k
    .exact z
    .exact T.ok E k
   grind
  have A:((b.take o++a1.eS bC c a d++b.drop (o+1)).flatMap (a1.ba a)).length=(a1.ba (a+1) (a1.node b)).length+1:=by grind[a1.fN,List.length_append,a1.oD]
  have Z:=h.dK;have j9: ∀d∈b,a1.WF a d:=h.wf.2.2.1;have:=zs p r v (b.take o++a1.eS bC c a d++b.drop (o+1)) (by grind) (by grind) (λW x=>by
   grind) w (by rw[A];omega) (λk0 e B W x=>by
   simp only[a6L]at x;rcases x with (x|x)|x
   .exact(G.2 W (a6M x)).mono (V.trans e)
   .exact(q (e.zero B) W x).mono e
   .exact(G.2 W (a7e x)).mono (V.trans e))
  exact⟨this.ok,V.trans this.le,this.ins⟩
def gV:dC->aq
 |none=>az
 |some ⟨a,b⟩=>bK a b
def ix (a:ag):dC->Prop
 |none=>True
 |some ⟨b,c⟩=>fg a b c
def ix.mono {a b:ag} (c:a.le b) {t:dC} (d:ix a t):ix b t:=by
 match t with
 |none=>trivial
 |some ⟨_,_⟩=>exact fg.mono c d
structure qd (a:ag) (t:dC) (r:Except Int aq×ag):Prop where
 ok:r.1= .ok (gV t)
 le:a.le r.2
 ins:r.2.one=false->ix r.2 t
variable{H:ag}
def a4d (F:1<=i) (G:i<=8) {r:ag}{a:List (a1.T e)} (L:1<=a.length) (P:a.length<=2) (k:Laid r e a (.ok (a.map (bK e)),H)) (S: ∀b∈a,a1.WF e b) (T: ∀o∈a.flatMap (a1.ba e),bN i o) (V:(a.flatMap (a1.ba e)).length<=1048576):
  qd r (pU a) (hi i ((a.map (bK e)).length+1) H (a.map (bK e))):=by
 match a,L,P with
 | [b],_,_=>
  have p:hi i (([b].map (bK e)).length+1) H ([b].map (bK e))=(.ok (bK e b),H):=by rw[hi];rfl
  rw[p];exact⟨rfl,k.le,λc=>k.ins c b aaV⟩
 | [d,h],_,_=>
  have x:=zs F G H [d,h] aaV aaV S T V (λg y c W f=>(k.ins (y.zero c) W f).mono y);rw[a1.oC aaV aaV]at x;rw[hi,if_pos aaV];generalize jS H i ([d,h].map (bK e))=o at*;obtain⟨j,z⟩:=o;obtain⟨C,D,E⟩:=x;simp only at C D E;subst C;simp only;have p:hi i (([d,h].map (bK e)).length) z (([[d,h]].map a1.node).map (bK (e+1)))=(.ok (bK (e+1) (a1.node [d,h])),z):=by rfl
  rw[p];exact⟨rfl,k.le.trans D,λc=>E c _ aaV⟩
variable{b7:dC}
def a4e (c:1<=e) (d:e<=8) (h:bN e q) (D:gT e b7) (E:ix H b7) (F:q∉ec b7):qd H (kJ b7 q) (lz e q H (gV b7)):=by
 match b7 with
 |none=>have G:=vg c d (O:= [q]) aaV aaV (by simpa using h);unfold lz;show qd H _ (if az=az then _ else _);rw[if_pos rfl,q6 G.oI];exact⟨rfl,lK _ _,λL=>rC L⟩
 |some ⟨a,b7⟩=>
  have b:GT e a b7:=D;have o:q∉a1.ba a b7:=F;have y:=kL c d b.fQ;have g:=dp.high a b7 b.fQ;have i:=y.size;have j:=b.dK;have P:=H2 c d h a b7 H ((bK a b7).size.toNat+1) b E aaU o;obtain⟨z,S,T,V⟩:=a1.ri (ga c d) h a b7 b.wf b.dX b.ok o;have p:kJ (some ⟨a,b7⟩) q=pU (a1.eS bC q a b7):=by simp only[kJ];rw[if_neg o]
  rw[p];unfold lz;show qd H _ (if bK a b7=az then _ else(match gv e q ((bK a b7).size.toNat+1) H (bK a b7)with|(.error p,r)=>(.error p,r)|(.ok bF,r)=>hi e (bF.length+1) r bF));rw[if_neg y.ne];generalize gv e q ((bK a b7).size.toNat+1) H (bK a b7)=x at*;obtain⟨l,m⟩:=x;obtain⟨C,W,f⟩:=P;simp only at C;subst C;simp only;refine a4d c d T V ⟨rfl,W,f⟩ S (λx k=> ?_) (by rw[z,a1.oD];omega);rw[z]at k;rcases a1.sZ.1 k with rfl|k
  .exact h
  .exact b.ok x k
theorem a4f (y:1<=e) (z:e<=8) (d:bN e q) (P:gT e b7) (S:(ec b7).length<1000):gT e (kJ b7 q)/\(ec (kJ b7 q)).length<=(ec b7).length+1:=by
 match b7 with
 |none=>
  refine⟨⟨⟨?_,?_,trivial,λa=>by omega⟩,?_,?_,?_⟩,?_⟩
  .simp[a1.hF]
  .simp[a1.hF]
  .rw[a1.jn];simp
  .rw[a1.jn];simpa using d
  .rw[a1.jn];simp
  .show(a1.ba 0 (a1.leaf [q])).length<= _;rw[a1.jn];simp
 |some ⟨a,b7⟩=>
  have c:GT e a b7:=P;have W:(a1.ba a b7).length<1000:=S;simp only[kJ];by_cases k:q∈a1.ba a b7;simp_all;rw[if_neg k];obtain⟨o,h,T,V⟩:=a1.ri (ga y z) d a b7 c.wf c.dX c.ok k;have C:=a1.ZN (ga y z) c.dX c.ok d k;have D: ∀p∈a1.dT bC (a1.ba a b7) q,bN e p:=λp r=>by
   rcases a1.sZ.1 r with rfl|r
   .exact d
   .exact c.ok p r
  have f:=a1.oD (lt:=bC) (j1:=a1.ba a b7) (h4:=q);generalize a1.dT bC (a1.ba a b7) q=E at*
  match F:a1.eS bC q a b7,T,V with
  | [x],_,_=>
   rw[F]at o h;have b:a1.ba a x=E:=by rw[<-o];simp
   refine⟨⟨a1.jQ.of (h x aaV),by rw[b];exact C,by rw[b];exact D,by rw[b];omega⟩,?_⟩;show(a1.ba a x).length<=(a1.ba a b7).length+1;rw[b];omega
  | [G,L],_,_=>
   rw[F]at o h;have b:a1.ba (a+1) (a1.node [G,L])=E:=by trivial
   refine⟨⟨⟨by rw[a1.dI];simp,by rw[a1.dI];simp,h,λ_=>by rw[a1.dI];simp⟩,by rw[b];exact C,by rw[b];exact D,by rw[b];omega⟩,?_⟩;show(a1.ba (a+1) (a1.node [G,L])).length<=(a1.ba a b7).length+1;rw[b];omega
def fq:(a:Nat)->a1.T a->ij
 |0,b=>⟨true,a1.rows b,[]⟩
 |a+1,b=>⟨false,[],(a1.kids b).map (bK a)⟩
def p2 (b:ag):(a:Nat)->a1.T a->Prop
 |0,_=>True
 |a+1,c=> ∀d∈a1.kids c,fg b a d
def p2.mono {b c:ag} (h:b.le c): ∀ {a:Nat}{d:a1.T a},p2 b a d->p2 c a d
 |0,_,_=>trivial
 | _+1,_,a=>λk o=>fg.mono h (a k o)
def fg.p: ∀ {a:Nat}{b:a1.T a},fg H a b->p2 H a b
 |0,_,_=>trivial
 | _+1,_,a=>a.2
def a4g: ∀ {b:Nat}{a:a1.T b},(fq b a).rows.length+(fq b a).kids.length=a1.len a
 |0,a=>rfl
 |b+1,a=>by show 0+((a1.kids a).map (bK b)).length= _;rw[a6J,a7c];rfl
def H3: ∀ {b:Nat}{a:a1.T b},hj (dD b a)=fq b a
 |0,a=>by
  obtain⟨c,rfl⟩:=a1.ig a;unfold hj;rw[Aa];rfl
 |b+1,a=>rfl
def Ac: ∀ {a:Nat}{b:a1.T a},mz H e (fq a b).leaf (fq a b).rows (fq a b).kids=dB H e (dD a b)
 |0,b=>rfl
 |a+1,b=>rfl
theorem H4 (C:1<=e) (D:e<=8) (k:ag): ∀ {c:Nat} (a b:a1.T c),a1.lx c a->a1.lx c b->2<=a1.len a+a1.len b->a1.len a+a1.len b<=5->(∀d∈a1.ba c a,bN e d)->(∀d∈a1.ba c b,bN e d)->
  (a1.ba c a).length+(a1.ba c b).length<=1048576->(∀h,k.le h->h.one=false->p2 h c a/\p2 h c b)->Laid k c (a1.kD a b) (kF k e (fq c a) (fq c b))
 |0,a,b,_,_,p,r,x,y,_,_=>by
  obtain⟨a,rfl⟩:=a1.ig a;obtain⟨b,rfl⟩:=a1.ig b;rw[a1.hF,a1.hF]at p r;exact G1 C D k (a++b) (by rw[a6A];omega) (by rw[a6A];omega) λd E=>(a6L.1 E).elim (x d) (y d)
 |c+1,a,b,bZ,cr,p,r,x,y,F,G=>by
  obtain⟨a,rfl⟩:=a1.gu a;obtain⟨b,rfl⟩:=a1.gu b;rw[a1.dI,a1.dI]at p r;rw[a1.fN]at x y F;rw[a1.fN]at F;have:=zs C D k (a++b) (by rw[a6A];omega) (by rw[a6A];omega) (λo z=>(a6L.1 z).elim (bZ o) (cr o)) (λd E=>by
   grind) (by simp_all) (λh L P o z=>(a6L.1 z).elim ((G h L P).1 o) ((G h L P).2 o))
  rw[a7x]at this;exact this
theorem a4h (C:1<=i) (D:i<=8) (o:ag) {d:List (a1.T e)}{c:a1.T e} (m:v<d.length) (B:2<=d.length) (z: ∀b∈d,dp i e b/\a1.WF e b/\fg o e b) (H:1<=a1.len c) (n:a1.len c<=4) (T:a1.lx e c)
  (V: ∀E∈a1.ba e c,bN i E) (q: ∀b∈d,(a1.ba e b).length+(a1.ba e c).length<=1048576) (W: ∀r,o.le r->r.one=false->p2 r e c):Laid o e (a1.ly d v c) (jV o i (d.map (bK e)) v (fq e c)):=by
 unfold jV a1.ly;rw[a4g];have s:(a1.ba e c).length<=1048576:=by have:=q _ (a6Z m);omega
 by_cases F:2<=a1.len c
 .rw[if_pos F,if_pos F,Ac];have t:=a1.hf.2 ⟨F,n,T⟩;have u:=(lC C D e c (G0 t V s)).1;rw[q6 u.oI];simp only;refine⟨?_,lK _ _,λk b a=> ?_⟩
  .rw[<-ti,List.map_set]
  .rcases a8J a with a|rfl
   .exact(z b a).2.2.mono (lK _ _)
   .have S:=rC k;have f:=W _ (lK o (cG (dD e b))) k
    match e,b,S,f with
    |0,b,S,f=>exact S
    |e+1,b,S,f=>trivial
 .rw[if_neg F,if_neg F];have I:a1.len c=1:=aaU;by_cases l:v=0
  .subst l;simp only[if_true];have x:d[1]? =some d[1]:=a6y aaU;rw[a7d,x];generalize d[1]=y at x;have h:=z y (a6D x);have g:=a1.hf.1 h.2.1;simp only[a7F];rw[rD C D h.1 h.2.2];simp only;rw[H3];have j:=H4 C D o c y T g.2.2 aaU aaU V h.1.ok (by grind) (λr G k=>⟨W r G k,(h.2.2.mono G).p⟩);generalize kF o i (fq e c) (fq e y)=E at*;obtain⟨w,A⟩:=E;obtain⟨L,p,P⟩:=j;simp only at L p P;subst L;simp only;refine⟨aaV,p,λk b a=> ?_⟩;simp only[a6L]at a;rcases a with (a|a)|a;simp_all
   .exact P k b a
   .exact(z b (a7e a)).2.2.mono p
  .simp only[if_neg l];have x:d[v - 1]? =some d[v - 1]:=a6y aaU;rw[a7d,x];generalize d[v - 1]=y at x;have h:=z y (a6D x);have g:=a1.hf.1 h.2.1;simp only[a7F];rw[rD C D h.1 h.2.2];simp only;rw[H3];have j:=H4 C D o y c g.2.2 T aaU aaU h.1.ok V (by grind) (λr G k=>⟨(h.2.2.mono G).p,W r G k⟩);generalize kF o i (fq e y) (fq e c)=E at*;obtain⟨w,A⟩:=E;obtain⟨L,p,P⟩:=j;simp only at L p P;subst L;simp only;refine⟨aaV,p,λk b a=> ?_⟩;simp only[a6L]at a;rcases a with (a|a)|a
   .exact(z b (a6M a)).2.2.mono p
   .exact P k b a
   .exact(z b (a7e a)).2.2.mono p
structure a4i (a:ag) (h:Nat) (t:a1.T h) (r:Except Int ij×ag):Prop where
 ok:r.1= .ok (fq h t)
 le:a.le r.2
 ins:r.2.one=false->p2 r.2 h t
theorem H5 {p:Nat} (c:1<=p) (d:p<=8) {b:List Int} (y:bN p b): ∀(a:Nat) (k:a1.T a) (r:ag) (z:Nat),GT p a k->fg r a k->a<z->b∈a1.ba a k->a4i r a (a1.cJ bC b a k) (ik p b z r (bK a k))
 |0,k,r,z+1,h,E,_,T=>by
  obtain⟨F,rfl⟩:=a1.ig k;have V:(dD 0 (a1.leaf F)).rows.map Prod.fst=F:=Aa;rw[ik,rD c d h.fQ E];simp only;rw[if_pos GX,V,zv (O:=F) c d h.dX h.ok y,decide_eq_true (p:=b∈F) T,if_pos rfl,a2O (O:=F) c d h.dX h.ok y T];exact⟨rfl,ag.le_refl,λ_=>trivial⟩
 |a+1,k,r,z+1,h,E,O,T=>by
  obtain⟨x,rfl⟩:=a1.gu k;have C:=h.kids c d y;obtain⟨o,G⟩:=C.at_;have e:=a6D G;have t:=(H0 c d h y G).1 T;obtain⟨u,Q⟩:=C.two;obtain⟨D,v,_,_⟩:=C.gw o e;have X:=a1.hf.1 v;obtain⟨w,A,Y,B⟩:=a1.pT (ga c d) y a o D.wf D.dX D.ok;have ih:=H5 c d y a o r z D (E.2 o e) aaU t;rw[ik,rD c d h.fQ E];simp only;rw[if_neg Ab,GY c d h.fQ,GZ,G];simp only[a7F];have f:a1.cJ bC b (a+1) (a1.node x)=a1.node (a1.ly x (a1.cQ bC b (x.map (a1.cM a))) (a1.cJ bC b a o)):=by simp only[a1.cJ,a1.fo];rw[G]
  rw[f];clear f;have H:=(a6H.1 G).1;generalize a1.cQ bC b (x.map (a1.cM a))=I at*;generalize ik p b z r (bK a o)=L at*;obtain⟨K,g⟩:=L;obtain⟨i,W,j⟩:=ih;simp only at i W j;subst i;simp only;have Z:=D.dK;have j9:(a1.ba a (a1.cJ bC b a o)).length<=1000:=by grind
  have M:=a4h c d g H u (λP S=>⟨(C.gw P S).1.fQ,(C.gw P S).2.1,(E.2 P S).mono W⟩) aaU B A (λL l=>by
   rw[w]at l;exact D.ok L (a9A.1 l).1) (λP S=>by have:=(C.gw P S).1.dK;omega) (λk0 m N=>(j (m.zero N)).mono m)
  have V:(dD (a+1) (a1.node x)).kids=x.map (bK a):=rfl;rw[V];generalize jV g p (x.map (bK a)) I (fq a (a1.cJ bC b a o))=L at*;obtain⟨K,k1⟩:=L;obtain⟨n,q,s⟩:=M;simp only at n q s;subst n;simp only;exact⟨rfl,W.trans q,s⟩
def vV:(b:Nat)->a1.T b->dC
 |0,a=>if a1.len a=0 then none else some ⟨0,a⟩
 |b+1,a=>match a1.kids a with
  | [c]=>some ⟨b,c⟩
  | _=>some ⟨b+1,a⟩
def jx (a:dC) (c:List Int):dC:=
 match a with
 |none=>none
 |some ⟨b,a⟩=>if c∈a1.ba b a then vV b (a1.cJ bC c b a)else some ⟨b,a⟩
theorem a4j (C:1<=e) (D:e<=8) (j:bN e q) (l:gT e b7) (m:ix H b7) (S:q∈ec b7):qd H (jx b7 q) (lA e q H (gV b7)):=by
 match b7 with
 |none=>cases S
 |some ⟨a,b7⟩=>
  have d:GT e a b7:=l;have T:q∈a1.ba a b7:=S;have V:=kL C D d.fQ;have h:=dp.high a b7 d.fQ;have w:=V.size;have A:=d.dK;have B:=H5 C D j a b7 H ((bK a b7).size.toNat+1) d m aaU T;obtain⟨n,r,x,o⟩:=a1.pT (ga C D) j a b7 d.wf d.dX d.ok;have s:jx (some ⟨a,b7⟩) q=vV a (a1.cJ bC q a b7):=by simp only[jx];rw[if_pos T]
  have t:gV (some ⟨a,b7⟩)=bK a b7:=rfl;rw[s];unfold lA;rw[t,if_neg V.ne];have p: ∀E∈a1.ba a (a1.cJ bC q a b7),bN e E:=λE u=>by
   rw[n]at u;exact d.ok E (a9A.1 u).1
  have z:(a1.ba a (a1.cJ bC q a b7)).length<=1000:=by grind
  have P:=d.wf;clear w V m s t l;generalize ik e q ((bK a b7).size.toNat+1) H (bK a b7)=E at*;generalize a1.cJ bC q a b7=b at*;obtain⟨K,M⟩:=E;obtain⟨v,F,k⟩:=B;simp only at v F k;subst v;simp only;clear S T d h A n
  match a,b7,b,r,x,o,p,z,k,P with
  |0,b7,b,r,x,o,p,z,k,P=>
   show qd H (if a1.len b=0 then none else some ⟨0,b⟩) _;have W: ¬((fq 0 b).leaf=false/\(fq 0 b).kids.length=1):=λh=>absurd h.1 (show¬true=false by decide);by_cases c:a1.len b=0
   .rw[if_pos c,if_pos (⟨rfl,c⟩)];exact⟨rfl,F,λ_=>trivial⟩
   .have f: ¬((fq 0 b).leaf=true/\(fq 0 b).rows.length=0):=λh=>c h.2;rw[if_neg c,if_neg f,if_neg W,Ac];have g:=(lC C D 0 b ⟨⟨aaU,o,trivial,λh=>by omega⟩,p,aaU⟩).1;rw[q6 g.oI];exact⟨rfl,F.trans (lK _ _),λc=>rC c⟩
  |a+1,b7,b,r,x,o,p,z,k,P=>
   have N:=P.2.2.2 aaU;have f: ¬((fq (a+1) b).leaf=true/\(fq (a+1) b).rows.length=0):=λh=>absurd h.1 (show¬false=true by decide);rw[if_neg f];obtain⟨y,rfl⟩:=a1.gu b;rw[a1.dI]at x o
   match y,x,o,r,p,z,k with
   | [],x,_,_,_,_,_=>simp at x;omega
   | [i],_,_,r,p,z,k=>rw[if_pos (⟨rfl,rfl⟩)];exact⟨rfl,F,λc=>k c i (by simp[a1.fo])⟩
   |G::L::y,_,o,r,p,z,k=>
    have W: ¬((fq (a+1) (a1.node (G::L::y))).leaf=false/\(fq (a+1) (a1.node (G::L::y))).kids.length=1):=λh=>by
     have:=h.2;rw[show(fq (a+1) (a1.node (G::L::y))).kids=(G::L::y).map (bK a)from rfl]at this;simp at this
    rw[if_neg W,Ac];have g:=(lC C D (a+1) (a1.node (G::L::y)) ⟨⟨by rw[a1.dI];simp,by rw[a1.dI];exact o,r,λ_=>by rw[a1.dI];simp⟩,p,aaU⟩).1;rw[q6 g.oI];exact⟨rfl,F.trans (lK _ _),λc=>⟨rC c,λi I=>(k ((lK _ _).zero c) i I).mono (lK _ _)⟩⟩
theorem a4k (P:1<=e) (S:e<=8) (T:bN e q) (F:gT e b7):gT e (jx b7 q)/\(ec (jx b7 q)).length<=(ec b7).length:=by
 match b7 with
 |none=>exact⟨trivial,a7g _⟩
 |some ⟨c,b7⟩=>
  have d:GT e c b7:=F;simp only[jx];by_cases G:q∈a1.ba c b7
  .rw[if_pos G];obtain⟨b,h,o,k⟩:=a1.pT (ga P S) T c b7 d.wf d.dX d.ok;have i:=a9O (λa=>decide (a≠q)) (a1.ba c b7);have y:=d.dX.filter λa=>decide (a≠q);have z: ∀C∈(a1.ba c b7).filter (λa=>decide (a≠q)),bN e C:=λC V=>d.ok C (a9A.1 V).1;have j:=d.dK;have p:=d.wf;show gT e _/\ _<=(a1.ba c b7).length;generalize (a1.ba c b7).filter (λa=>decide (a≠q))=W at*;generalize a1.cJ bC q c b7=a at*;generalize (a1.ba c b7).length=r at*;clear G F d
   match c,a,b7,b,h,o,k,p with
   |0,a,b7,b,h,o,k,p=>
    show gT e (if a1.len a=0 then none else some ⟨0,a⟩)/\(ec (if a1.len a=0 then none else some ⟨0,a⟩)).length<=r;by_cases L:a1.len a=0
    .rw[if_pos L];exact⟨trivial,by simp[ec]⟩
    .rw[if_neg L];refine⟨⟨⟨aaU,k,trivial,λl=>by omega⟩,by rw[b];exact y,by rw[b];exact z,by rw[b];omega⟩,?_⟩;show(a1.ba 0 a).length<=r;rw[b];omega
   |c+1,a,b7,b,h,o,k,p=>
    have m:=p.2.2.2 aaU;obtain⟨D,rfl⟩:=a1.gu a;rw[a1.dI]at o k
    match D,o,k,h,b with
    | [],o,_,_,_=>simp at o;omega
    | [E],_,_,h,b=>
     have x:a1.ba c E=W:=by rw[<-b,a1.fN];simp
     refine⟨⟨a1.jQ.of (h E (by simp[a1.fo])),by rw[x];exact y,by rw[x];exact z,by rw[x];omega⟩,?_⟩;show(a1.ba c E).length<=r;rw[x];omega
    |f::g::D,_,k,h,b=>refine⟨⟨⟨by rw[a1.dI];simp,by rw[a1.dI];exact k,h,λ_=>by rw[a1.dI];simp⟩,by rw[b];exact y,by rw[b];exact z,by rw[b];omega⟩,?_⟩;show(a1.ba (c+1) (a1.node (f::g::D))).length<=r;rw[b];omega
  simp_all
def a4l (q:1<=e) (s:e<=8) (b:List Int) (S:Own) (t:bN e b) (a:dC) (o:R) (p:U) (C:fe p a o) (H:gT e a):
  AC Tryz.prog 63 [o,.J (ad b) S] p λT u=>p.sub u/\ ∃v h,T= .aJ [v,.v (.bool h)]/\fe u (jx a b) v:=by
 have D: ∀o h:R,aL false 1 [o,h]=o:=λ_ _=>rfl;have E: ∀o h:R,aL false 1 ([o,h].drop 1)=h:=λ_ _=>rfl;refine bc hm Mt aaV ?_
 match a with
 |none=>obtain rfl:=C;refine bT ?_;refine ah (a0E p) ?_;rintro _ p ⟨rfl,rfl⟩;refine bT ?_;refine ah (yz [] [] .nil S b p trivial aaV aaV) ?_;rintro _ _ ⟨rfl,rfl⟩;have I:decide (b∈([]))=false:=aaV;refine aj @I ?_;exact⟨_,U.a6,U.a6,_,_,rfl,rfl⟩
 |some ⟨c,a⟩=>
  obtain⟨h,k3,k4,rfl,k5⟩:=bA.ptr C;have r:GT e c a:=H;have k6:=r.dK;refine bT ?_;refine ah (yy c a (.ptr h 0) p C aaU) ?_;rintro _ l ⟨V,K,M,rfl,N⟩;refine bT ?_;refine ah (yz _ K M S b l N aaU λT O=>by have:=(r.ok T O).len;omega) ?_;rintro _ l ⟨rfl,rfl⟩;by_cases W:b∈a1.ba c a
  .refine aj @W ?_;refine ah (a4c q s b S t c a (.ptr h 0) l (bA.mono V C) r) ?_;rintro T m ⟨Q,z⟩;have X:jx (some ⟨c,a⟩) b=vV c (a1.cJ bC b c a):=by simp only[jx];rw[if_pos W]
   rw[X];obtain⟨_,k7,k8,F⟩:=a1.pT (ga q s) t c a r.wf r.dX r.ok;have k9:=r.wf;have f:=U.au V Q;generalize a1.cJ bC b c a=x at*;cases c with
   |zero=>
    obtain⟨Y,g,w,Z,rfl,k,d⟩:=id z;have G:=d.len;have l0:g.length<=4:=by rw[G];exact F
    have L:(([]:List R).length:Int)=0:=rfl;have y: ¬((0:Int)=1):=aaU;refine aj (bh (U.ae k) @D @E @L @y) ?_;by_cases A:(g.length:Int)=0
    .have n:(0)+(g.length:Int)=0:=aaU;refine aj (c9 (U.ae k) @D @E @L @y @A @n) ?_;refine⟨_,U.a6,f,_,_,rfl,?_⟩;show fe m (if a1.len x=0 then none else some ⟨0,x⟩) _;rw[if_pos (by show(a1.rows x).length=0;omega)];rfl
    .have n: ¬((0)+(g.length:Int)=0):=aaU;refine aj (c9 (U.ae k) @D @E @L @y @A @n) ?_;refine⟨_,U.a6,f,_,_,rfl,?_⟩;show fe m (if a1.len x=0 then none else some ⟨0,x⟩) _;rw[if_neg (by show¬(a1.rows x).length=0;omega)];exact z
   |succ c=>
    obtain⟨B,rfl⟩:=a1.gu x;obtain⟨Y,i,w,Z,rfl,k,d,j,_⟩:=id z;rw[a1.fo]at d j;have G:=d.len;rw[a1.dI]at F
    match B,i,d,j,G,k,z,F with
    | [],_,_,j,_,_,_,_=>exact absurd rfl j
    | [j9],[l1],d,_,_,k,_,_=>
     have l2:=d.1.cells;obtain⟨P,l3,l4,rfl,_⟩:=bA.ptr d.1;have k0:cC 1 (.J [.ptr P 0] w) (.v (.int .i64 0))=some (.bU [.ptr P 0]):=by rw[gj aaU];rfl
     have k1:cY false 1 m (.bU [.ptr P 0])=some (.ptr P 0):=rfl;have y:(([R.ptr P 0]).length)=1:=rfl;refine aj (bx (U.ae k) @D @E @y @k0 @k1) ?_;refine⟨_,U.a6,f,_,_,rfl,?_⟩;exact d.1
    |j9::c2::B,i,d,_,G,k,z,F=>simp only[a6E]at G F;have y: ¬((i.length:Int)=1):=aaU;have L:(([]:List R).length)=0:=rfl;have k2: ¬((i.length:Int)+0=0):=aaU;refine aj (bx (U.ae k) @D @E @L @y @k2) ?_;refine⟨_,U.a6,f,_,_,rfl,?_⟩;exact z
  .refine aj @W ?_;refine⟨_,U.a6,V,_,_,rfl,?_⟩;simp only[jx,if_neg W];exact bA.mono V C
structure bb where
 name:List UInt8
 aD:List (List UInt8)
 rows:List (List Int)
 bo:aC
 bu:dC
instance:Inhabited bb:=⟨⟨[],[],[],.nil,none⟩⟩
def bb.bR (a:bb):aU:=⟨a.name,a.aD,bm a.bo,gV a.bu⟩
def ct (a:List bb) (b:List UInt8):Nat:=a.findIdx λc=>decide (c.name=b)
def jy (a:List bb) (b:List UInt8):Nat:=(a.takeWhile λc=> !c8 b c.name).length
def c5 (a:List Int):Int:=a.getD 0 0
def hq (a:List Int) (c:List (List Int)):List (List Int):=c.takeWhile (λb=> !decide (c5 a<c5 b))++a::c.dropWhile (λb=> !decide (c5 a<c5 b))
def rJ (a:List (List Int)):List (List Int):=a.foldl (λb c=>hq c b) []
def bb.put (a:bb) (b:List Int):bb:=⟨a.name,a.aD,rJ (a.rows++ [b]),(cV (a.aD.length+1) b a.bo 0).1,kJ a.bu b⟩
def bb.del (a:bb) (b:List Int):bb:=⟨a.name,a.aD,a.rows.filter (λc=>decide (c≠b)),(lE (a.aD.length+1) b a.bo).1,jx a.bu b⟩
def hr (a:List bb) (b:dq):Int×List bb:=
 if eV b=false then(1,a)
 else if b.kind=1 then(if ct a b.table<a.length then(4,a)else if 7<a.length then(10,a)else(0,a.take (jy a b.table)++⟨b.table,b.aD,[],.nil,none⟩::a.drop (jy a b.table)))
 else if a.length<=ct a b.table then(3,a)
 else if b.kind=2 then(0,a.eraseIdx (ct a b.table))
 else if b.row.length≠(a.getD (ct a b.table) default).aD.length+1 then(6,a)
 else if b.kind=4 then(if b.row∈(a.getD (ct a b.table) default).rows then(0,a.set (ct a b.table) ((a.getD (ct a b.table) default).del b.row))else(9,a))
 else if(a.getD (ct a b.table) default).rows.any (λc=>decide (c5 c=c5 b.row))=true then(8,a)
 else(0,a.set (ct a b.table) ((a.getD (ct a b.table) default).put b.row))
structure ep (n:Nat) (t:bb):Prop where
 right:eV ⟨1,t.name,t.aD,[]⟩=true
 df:lM (t.aD.length+1) n t.bo
 fh:t.bo.all.Perm t.rows
 go:gT (t.aD.length+1) t.bu
 nV:(ec t.bu).Perm t.rows
 dX:t.rows.Pairwise (λa b=>c5 a<c5 b)
 dK:t.rows.length<=n
variable{h5:bb}
theorem ep.c (a:ep e h5):1<=h5.aD.length/\h5.aD.length<=7:=by have b:=a.right;simp_all [eV,nI]
def ep.row (a:ep e h5) (b:q∈h5.rows):bN (h5.aD.length+1) q:=a.df.eW q (aC.gD (a.fh.mem_iff.2 b))
def ep.le (a:ep e h5) (b:e<=i):ep i h5:=⟨a.right,⟨a.df.eW,a.df.vN,by have:=a.df.cf;omega⟩,a.fh,a.go,a.nV,a.dX,by have:=a.dK;omega⟩
structure ee (n:Nat) (cK:List bb):Prop where
 ok: ∀t∈cK,ep n t
 dX:cK.Pairwise (λa b=>c8 a.name b.name=true)
 dK:cK.length<=8
theorem ee.nil {n:Nat}:ee n []:=⟨λb a=>(by cases a),.nil,aaV⟩
def H6 (b:1<=e) (c:e<=8) (a:gT e b7):(b7=none/\gV b7=az)\/(b7≠none/\iT e (ec b7).length (gV b7)):=by
 match b7,a with
 |none,_=>exact .inl ⟨rfl,rfl⟩
 |some ⟨d,b7⟩,a=>exact .inr ⟨aaV,kL b c (GT.fQ a)⟩
theorem ep.bR {d:Nat}{h:bb} (a:ep d h) (x:d<=1000):fU h.bR=true:=by
 have y:=a.c;have c:=ez aaU aaU a.df.eW (by have:=a.df.cf;omega);have z:=a.df.cf;have C:=a.fh.length_eq;have k:=a.nV.length_eq;have D:=a.dK;have o:=c.live;unfold fU bb.bR
 dsimp only
 simp only[a6B,a8l,decide_eq_true_eq];rcases H6 aaU aaU a.go with ⟨p,b⟩|⟨p,b⟩
 .have r:(az).live=0:=rfl;rw[p]at k;refine⟨a.right,c.ok aaU,?_,?_,by rw[c.key];rfl,.inl b⟩
  .rw[b];unfold fl;rfl
  .rw[b,o,r];simp[ec]at k;omega
 .refine⟨a.right,c.ok aaU,b.ok aaU,?_,by rw[c.key];rfl,.inr ⟨b.key.len,?_⟩⟩
  .rw[o,b.live];omega
  .rw[b.size,b.live]
variable{a8:List bb}
def ee.cat (a:ee e a8) (b:e<=1000):cI (a8.map bb.bR)=true:=by
 refine p1.2 ⟨λk c=> ?_,?_,by rw[a6J];exact a.dK⟩
 .obtain⟨d,h,rfl⟩:=a6S.1 c;exact(a.ok d h).bR b
 .rw[a8Z];exact a.dX
theorem Ad: ∀ {a:List aU}{nm:List UInt8},a.Pairwise (λh k=>c8 h.name k.name=true)->(a.findIdx λb=>decide (b.name=nm))<a.length->cW a nm=a.findIdx λb=>decide (b.name=nm)
 | [],nm,_,c=>by rfl
 |b::a,nm,o,c=>by
  obtain⟨x,p⟩:=a7i.1 o;rw[List.findIdx_cons]at c|-;unfold cW;rw[a7U];by_cases d:b.name=nm
  .rw[decide_eq_true d];simp[d,zp]
  .rw[decide_eq_false d]at c|-;simp only[cond_false,a6E]at c|-;have ih:=Ad (nm:=nm) p aaU;have r:c8 b.name nm=true:=by grind
   rw[if_pos r,a6E];unfold cW at ih;rw[ih]
variable{A:List UInt8}
theorem vW:((a8.map bb.bR).findIdx λa=>decide (a.name=A))=ct a8 A:=by rw[List.findIdx_map];rfl
theorem vX (a:ct a8 A<a8.length):(a8.getD (ct a8 A) default).name=A:=by have:=List.findIdx_getElem (w:=a);rw[a7z,a6y a];exact of_decide_eq_true this
theorem Ae (a:ct a8 A<a8.length):a8.getD (ct a8 A) default∈a8:=by simp_all
def H7 (b:a8.length<=ct a8 A): ∀a∈a8,a.name≠A:=λa c d=>by
 have:=List.findIdx_lt_length_of_exists (p:=λa:bb=>decide (a.name=A)) ⟨a,c,decide_eq_true d⟩;have h:a8.length<=a8.findIdx λa=>decide (a.name=A):=b;omega
theorem Af (c:ee e a8):gE (a8.map bb.bR) A=decide (ct a8 A<a8.length):=by
 have d:(a8.map bb.bR).Pairwise (λh k=>c8 h.name k.name=true):=by rw[a8Z];exact c.dX
 by_cases a:ct a8 A<a8.length
 .have b:=Ad d (by rw[vW,a6J];exact a);rw[vW]at b;unfold gE;rw[b,decide_eq_true a,a6J,decide_eq_true a,a8e];refine decide_eq_true ?_;have:=vX a;rw[a7z,a6y (by rw[a6J];exact a),a8v,aah];rw[a7z,a6y a,a8v]at this;exact this
 .rw[decide_eq_false a];unfold gE;rw[a9N];by_cases c2:cW (a8.map bb.bR) A<(a8.map bb.bR).length
  .right;refine decide_eq_false λb=> ?_;rw[a7z,a6y c2,a8v,aah]at b;exact H7 aaU _ (a6Z (by rw[a6J]at c2;exact c2)) b
  .left;simp_all
theorem H8 (a:ee e a8) (d:ct a8 A<a8.length):cW (a8.map bb.bR) A=ct a8 A:=by
 have h:(a8.map bb.bR).Pairwise (λb c=>c8 b.name c.name=true):=by rw[a8Z];exact a.dX
 grind[vW,Ad,List.length_map]
def H9:(a8.map bb.bR).find? (λa=>decide (a.name=A))=(a8[ct a8 A]?).map bb.bR:=by rw[List.find?_eq_getElem?_findIdx,vW,a7d]
theorem a4m {a:List UInt8} (b:A≠a):(!c8 a A)=c8 A a:=by grind[c8,absurd,FT,vB,zp]
theorem a4n (a:a8.length<=ct a8 A):cW (a8.map bb.bR) A=jy a8 A:=by
 have b:=H7 a;clear a;unfold cW jy
 induction a8 with
 |nil=>rfl
 |cons c a8 ih=>have d:=a4m (b c aaV);have ih:=ih λh k=>b h (by simp[k]);rw[a6Q,a7U,a7U,d];show(if c8 c.name A=true then _ else _:List aU).length= _;grind
def iy (c:Nat) (d h:U):Prop:= ∀b a,d b=some (.cells a)->a.length≠c->h b=some (.cells a)
theorem iy.of {s:U} (a:iG s f):iy e s f:=λb c d _=>a b c d
theorem iy.set {c a:Nat}{b:U}{d:List R}{h:bs} (p:b a=some (.cells d)) (r:d.length=c):iy c b (b.set a h):=λk x o y=>by
 have:k≠a:=by grind
 rw[U.an _ _ this];exact o
def dL.iz {n:Nat}{c d:U} (a:n≠4) (b:iy n c d): ∀ {h:aC}{k:R},dL c h k->dL d h k
 | .nil,_,o=>o
 | .node _ _ _ _,_,⟨p,r,x,y,h1,z,C,D⟩=>⟨p,r,x,y,h1,b _ _ z (by simpa using a.symm),C.iz a b,D.iz a b⟩
def fe.Ha (b:A9 f s) (a:fe f b7 n):fe s b7 n:=by
 match b7 with
 |none=>exact a
 |some ⟨_,_⟩=>exact bA.vT b a
def fe.iz {n:Nat} (a:n≠2) (b:iy n f s) (c:fe f b7 b6):fe s b7 b6:=c.Ha λh k o p r d=>b _ _ d (by simpa using a.symm)
variable{X j8:bs}
theorem qe (a:bf f s i g N) (d:f e=none) (b:s e=some (.cells B)):bf f (s.set e X) i g N:=by
 refine⟨U.af a.1 d,?_⟩;have c:=a.2;cases N with
 |buf h k=>
  have o:h≠e:=by rintro rfl;rw[c.2]at b;cases b
  grind[U.an]
 | _=>exact c
theorem fe.cells {d:U}{b:dC}{a:R} (c:fe d b a):a.cells= [a]:=by
 match b with
 |none=>obtain rfl:a= .v (.pointer none):=c;rfl
 |some ⟨_,_⟩=>obtain⟨h,k,o,rfl,_⟩:=bA.ptr c;rfl
def hs (b:U) (a:bb) (o:R):Prop:= ∃c p d r h k,o= .ptr c 0/\b c=some (.cells [bn a.name,.J (bL a.aD) p,.J d r,h,k])/\aB isRow a.rows d/\dL b a.bo h/\fe b a.bu k
def hs.iz {b c:U} (a:iy 1 b c) {d:bb}{h:R} (k:hs b d h):hs c d h:=by obtain⟨o,p,r,x,y,z,C,D,E,F,G⟩:=k;exact⟨o,p,r,x,y,z,C,a _ _ D aaV,E,F.iz aaY a,G.iz aaY a⟩
def hs.sub (a:f.sub s) (b:hs f h5 n):hs s h5 n:=b.iz (iy.of (U.qW a))
def ht (a:U) (c:Nat) (d:List bb):Prop:= ∃b h,a c=some (.cells [.J b h])/\aB (hs a) d b
def ht.sub {b c:U} (d:b.sub c) {h:Nat}{k:List bb} (a:ht b h k):ht c h k:=by obtain⟨o,p,r,x⟩:=a;exact⟨o,p,d _ _ r,x.mono λy z a=>a.sub d⟩
def Hb (a:aB (hs f) a8 g):aW 1 g:=λk c=>by
 obtain⟨d,h,rfl⟩:=a7l c;have o:=a.len;obtain⟨p,b,r,_,_,_,_,_,rfl,_⟩:=a.get (a6y (show d<a8.length by omega));rw[a6y h]at b;rw[a6x b];rfl
theorem a4o (b:e<a8.length) (c: ∀a<e,(a8.getD a default).name≠A) (d:(a8.getD e default).name=A):ct a8 A=e:=by grind[ct,List.findIdx_eq,List.getElem?_eq_getElem,decide_eq_true,decide_eq_false]
theorem a4p (b: ∀a<a8.length,(a8.getD a default).name≠A):a8.length<=ct a8 A:=by grind[Nat.lt_or_ge,ct,absurd,vX]
def qf (a:List bb) (b:List UInt8):Int:=if ct a b<a.length then(ct a b:Int)else -1
theorem a4q (h:U) (k:Nat) (b:List bb) (o:ht h k b) (d:List UInt8) (P:b.length<=1000):
  AC Tryz.prog 60 [.ptr k 0,bn d] h λz C=>C=h/\z= .v (.int .i64 (qf b d)):=by
 obtain⟨S,T,D,p⟩:=o;have V:=p.len;have W:=U.ae D;refine aK hm Mn ?_;refine gL [0,1] (λa:Nat=> [(5,.v (.int .i64 a))]) (λa=>a<=b.length/\ ∀c<a,(b.getD c default).name≠d) (λa=>b.length - a) 0 ⟨a7b _,λc o=>by omega⟩ aO ?_;rintro a ⟨e,r⟩ f;refine aa ?_;refine aH (λE=> ?_) λE=> ?_
 .have x:a<b.length:=aaU;have F:b[a]? =some (b.getD a default):=by simp_all
  obtain⟨_,g,i,j,l,m,n,q,rfl,G,_,_,_⟩:=p.get F;have s:=U.ae G;have t:=(vC (b.getD a default).name d).1;refine aa ?_;refine aH (λc2=> ?_) λc2=> ?_
  .have y:=a4o x r c2;unfold qf;rw[y,if_pos x]
  .exact⟨a+1,⟨aaU,λc L=>by grind⟩,rfl,aaU⟩
 .have y:=a4p λc L=>r c aaU;unfold qf;simp_all
def Ag (c d:Own):Prop:= ∀a h b k,c= .buf a h->d= .buf b k->a≠b
variable{t Z:R -> U -> Prop}
def Hc {F:cz t} (r:bf s f e g e5) (x:bf s f e c0 N) (y:Ag e5 N) (G:aW e g) (L:aW e B) (P:(g.length+B.length)*i<=140737488355328) (S:g.length+B.length<=9223372036854775807)
  (T: ∀c b,bf s b e (g++B) c->bf s b e c0 N->Ag c N->iG f b->t (.J (g++B) c) b):mj e i f (.J g e5) (.J B h6) (bX t F):=by
 obtain⟨j,V,l,z,k⟩:=r.ns;refine eh V G L P S λc b d=>T c b (d.base z) ⟨U.au z d.sub,?_⟩ ?_ λW m o=>d.sub _ _ ?_
 .have a:=x.2;cases N with
  |buf h C=>refine⟨a.1,d.sub _ _ ?_⟩;rw[k h λD E p=>y _ _ _ _ p rfl];exact a.2
  | _=>exact a
 .rintro h C D E rfl rfl rfl;have a:=d.2.1;rw[k h λD E p=>y _ _ _ _ p rfl,x.2.2]at a;cases a
 .rw[k W (λh C a=>by subst a;rintro rfl;rw[r.2.2]at o;cases o)];exact o
theorem Hd {a:Int->Int->Int} (b:e<q.length) (c:e<b8.length):(List.zipWith a q b8).take (e+1)=(List.zipWith a q b8).take e++ [a (q.getD e 0) (b8.getD e 0)]:=by rw[a7K (by rw[a8q];omega),List.getElem_zipWith];simp_all
theorem He (C D:List Int×List Int) (j l m n:Own) (T:U) (k9:C.1.length<=1000000) (l0:D.1.length<=1000000):
  AC Tryz.prog 137 [eN C.1 C.2 j l,eN D.1 D.2 m n] T λl1 G=>T.sub G/\ ∃l2 r,l1=eN (cP C D).1 (cP C D).2 l2 r:=by
 obtain⟨b,h⟩:=C;obtain⟨c,d⟩:=D
 dsimp only at*
 have a01:=bM (q:=b);have a02:=bM (q:=c);have X:= @dP b;have Y:= @dP h;have Z:= @dP c;have j9:= @dP d;have p:(if cO b h b.length=true then
  (if cO c d c.length=true then(if b.length=c.length then(List.zipWith min b c,List.zipWith max h d)else([],[]))else(b,h))
  else if cO c d c.length=true then(c,d)else([],[]))=cP (b,h) (c,d):=rfl
 generalize cP (b,h) (c,d)=a03 at*;refine aK hm OO ?_;refine bp λq a04=> ?_;refine cZ λs a05 a06 k0=> ?_;refine ha λt a07 a08 V a09 W=> ?_;refine bk (FR b h _ _ _ _ k9) ?_;refine bk (FR c d _ _ _ _ l0) ?_;cases q4:cO b h b.length with
 |false=>
  cases iu:cO c d c.length with
  |false=>rw[q4,iu,if_neg aaV,if_neg aaV]at p;refine aa ?_;exact⟨.nil,.nil,by rw[<-p];rfl⟩
  |true=>rw[q4,iu,if_neg aaV,if_pos rfl]at p;refine aa ?_;exact⟨m,n,by rw[<-p]⟩
 |true=>
  cases iu:cO c d c.length with
  |false=>rw[q4,iu,if_pos rfl,if_neg aaV]at p;refine aa ?_;exact⟨j,l,by rw[<-p]⟩
  |true=>
   rw[q4,iu,if_pos rfl,if_pos rfl]at p;by_cases cl:b.length=c.length
   .rw[if_pos cl]at p;have a10:=lv q4;have a11:=lv iu;refine aa ?_;refine aN λr k=> ?_;generalize L:((T.set q _).set s _).set t _=E at*;have l3:T.sub E:=by subst L;exact aO
    have u:E q=some (.cells [.J (ad b) j,.J (ad h) l]):=by subst L;exact aO
    have v:E s=some (.cells [.J (ad c) m,.J (ad d) n]):=by subst L;exact aO
    have aM:E t=some (.cells [.J [] .nil,.J [] .nil]):=by subst L;exact aO
    have a13:t≠r:=by rintro rfl;rw[aM]at k;cases k
    have a14:q≠r:=by rintro rfl;rw[u]at k;cases k
    have a15:s≠r:=by rintro rfl;rw[v]at k;cases k
    clear L q4 iu;have k1:=λa P w=>Hd (a:=min) (q:=b) (b8:=c) (e:=a) P w;have k2:=λa P w=>Hd (a:=max) (q:=h) (b8:=d) (e:=a) P w;have a16:(List.zipWith min b c).length=b.length:=by rw[a8q];omega
    have a18:(List.zipWith max h d).length=b.length:=by rw[a8q];omega
    generalize List.zipWith min b c=y at*;generalize List.zipWith max h d=z at*;refine aa ?_;refine cg [2,3,4,7] (λa:Nat=> [(8,.v (.int .i64 (a)))]) (λa G=>a<=b.length/\ ∃S x,G r=some (.cells [.J (ad (y.take a)) S,.J (ad (z.take a)) x])/\bf E G 1 (ad (y.take a)) S/\bf E G 1 (ad (z.take a)) x/\Ag S x) (λa=>b.length - a) 0
     ⟨⟨a7b _,.nil,.nil,U.ai _ _ _,bf.nil (U.af U.a6 k),bf.nil (U.af U.a6 k),λ_ _ _ _ P=>by cases P⟩,aO⟩ ?_
    rintro a a19 ⟨a27,S,x,A,o,F,B⟩ a29;have qS:=U.ae (o.sub _ _ u);have nq:=U.ae (o.sub _ _ v);have l4:=U.ae A;have a30:(ad (y.take a)).length=a:=by rw[bM,a6C];omega
    have a34:(ad (z.take a)).length=a:=by rw[bM,a6C];omega
    by_cases a36:a<b.length
    .have a38:=X aaU;have a42:=Y (b:=a) aaU;have a43:=Z (b:=a) aaU;have a47:=j9 (b:=a) aaU;have k3:=k1 a aaU aaU;have k4:=k2 a aaU aaU;clear X Y Z j9 k1 k2;generalize b.getD a 0=e at*;generalize c.getD a 0=f at*;generalize h.getD a 0=a3 at*;generalize d.getD a 0=a4 at*;have k5:(a)<(c.length:Int):=aaU;have l5:aW 1 (ad (y.take a)):=λk0 H=>by obtain⟨l6,_,rfl⟩:=a6S.1 H;rfl
     have l7:aW 1 (ad (z.take a)):=λk0 H=>by obtain⟨l6,_,rfl⟩:=a6S.1 H;rfl
     have k6:ad (y.take (a+1))=ad (y.take a)++ [.v (.int .i64 (min e f))]:=by rw[k3];simp[ad]
     have k7:ad (z.take (a+1))=ad (z.take a)++ [.v (.int .i64 (max a3 a4))]:=by rw[k4];simp[ad]
     clear k3 k4;generalize ad (y.take a)=I at*;generalize ad (z.take a)=K at*;refine aa ?_;refine dF U.a6 (by simp[aW,R.cells]) λa48 a52 M=> ?_;refine aa ?_;refine Hc (o.mono M.sub) (F.mono M.sub) B l5 (by simp[aW,R.cells]) aaW aaW λg k8 o F B l8=> ?_;have i:=l8 _ _ (M.sub _ _ A);have aF:=U.aI i;have qS:=U.ae (o.sub _ _ u);have nq:=U.ae (o.sub _ _ v);refine aa ?_;have l9:=qe (X:= .cells [.J (I++ [.v (.int .i64 (min e f))]) g,.J K x]) o k i;have n0:=qe (X:= .cells [.J (I++ [.v (.int .i64 (min e f))]) g,.J K x]) F k i;have n1:=U.ai k8 r (.cells [.J (I++ [.v (.int .i64 (min e f))]) g,.J K x]);clear i aF qS nq o F A l4;generalize k8.set r _=a56 at*;refine dF U.a6 (by simp[aW,R.cells]) λa57 a61 N=> ?_;refine aa ?_;refine Hc (n0.mono N.sub) (l9.mono N.sub) (λn2 k5 n3 n4 V W O=>B _ _ _ _ W V O.symm) l7 (by simp[aW,R.cells]) aaW aaW λn5 a62 F o n9 a00=> ?_;have Q:=a00 _ _ (N.sub _ _ n1);have aF:=U.aI Q;refine aa ?_;refine⟨a+1,⟨aaU,g,n5,?_,?_,?_,λn2 k5 n3 n4 V W O=>n9 _ _ _ _ W V O.symm⟩,rfl,aaU⟩
     .rw[k6,k7]
     .rw[k6];exact qe o k Q
     .rw[k7];exact qe F k Q
    .obtain rfl:a=b.length:=aaU;have a63:=U.aI (o.sub _ _ aM);refine aa ?_;refine iH ?_;exact⟨U.au l3 o.sub,S,x,by grind⟩
   .rw[if_neg cl]at p;refine aa ?_;refine iH ?_;exact⟨.nil,.nil,by rw[<-p];rfl⟩
def iX (a:aq) (b c d:Own) (k:a.sum.length=32):(ab a b c d).length=37/\aL true 2 ((ab a b c d).drop 32)=eN a.aT a.aS b c/\aL false 1 ((ab a b c d).drop 34)= .v (.int .i64 a.live)/\aL false 1 ((ab a b c d).drop 35)= .v (.int .i64 a.size)/\aL false 1 ((ab a b c d).drop 36)= .J (ad a.key) d/\aL true 37 (ab a b c d)= .agg (ab a b c d):=by have h:=aP (N:=b) (e5:=c) (h6:=d) k;refine⟨h.len,by rw[h.d32];rfl,by rw[h.d34];rfl,by rw[h.d35];rfl,by rw[h.d36];rfl,?_⟩;show R.agg ((ab a b c d).take 37)= _;rw[h.t37]
theorem Hf (a:bY) (S V:List R) (l m:Own) (y:U) (Z:aB cT a.rows S) (j9:aB bB a.kids V) (a69:a.rows.length<=4) (a71:a.kids.length<=4)
  (k4: ∀o∈a.rows,1<=o.1.length/\o.1.length<=8) (l8: ∀c∈a.kids,c.hE/\c.sum.length=32/\c.cv) (a03:(eD a).size<=1048576) (a04:a.kind=2->a.rows≠ []) (a05:a.kind=3->a.kids≠ []):
  AC Tryz.prog 82 [gO a (.J S l) (.J V m)] y λo F=>y.sub F/\ ∃h k H,o= .aJ [.agg (ab (fm a) h k H),.v (.bool true)]:=by
 have a73:=Z.len;have a74:=j9.len;have a81:(cG a).length<=3000:=by have l9:=r9 λo r=>y5 (k4 o r).2;grind[z8,cG,List.length_append,List.length_cons]
 have fv:=iX az .nil .nil .nil bj;have x:(fZ (cG a)).length=32:=ox _;have z:(⟨fZ (cG a),(eD a).aR.1,(eD a).aR.2,(eD a).live,(eD a).size,keyOf a⟩)=fm a:=rfl;have k0:=λa06 y r=>a2B (cG a) a06 y r aaU;have n0:=λy=>a1I a S V l m y Z j9 aaU aaU (λo r=>(k4 o r).2) l8;generalize fZ (cG a)=p at*;generalize fm a=G at*;have a83:(bz p).cells=p.map ak:=rfl;have a84:(p.map ak).length=32:=by simp[x]
 have a86:putAt (ab az .nil .nil .nil) 0 (p.map ak)=ab (fL p ⟨0,0,([],[])⟩) .nil .nil .nil:=uS bj x;have n: ∀c:aq,c.sum.length=32-> ∀h k H,putAt (ab az .nil .nil .nil) 0 (ab c h k H)=ab c h k H:=λc r h k H=>cy bj r;have a88:=n (fL p ⟨0,0,([],[])⟩) x .nil .nil .nil;have P:=λd h k=>iX (fL p d) h k .nil x;have a89:=P ⟨0,0,([],[])⟩ .nil .nil;refine aK hm N3 ?_;refine bp λv a07=> ?_;refine cZ λI a08 a90 a09=> ?_;rw[ch];have n1:((y.set v (.cells [.v (.int .u8 a.kind.toNat),.J S l,.J V m])).set I (.cells (ab az .nil .nil .nil))) v=some (.cells [.v (.int .u8 a.kind.toNat),.J S l,.J V m]):=by rw[U.an _ _ a09,U.ai]
 have n2:=U.ai (y.set v (.cells [.v (.int .u8 a.kind.toNat),.J S l,.J V m])) I (.cells (ab az .nil .nil .nil));have n3:y.sub ((y.set v (.cells [.v (.int .u8 a.kind.toNat),.J S l,.J V m])).set I (.cells (ab az .nil .nil .nil))):=U.af (U.af U.a6 a07) a08;generalize (y.set v _).set I _=a10 at*;refine hX (n0 a10) λa11 w k5=> ?_;have k0:=k0 a11 w (nQ.ao k5);have k1:=k5.sub;refine bk k0 ?_;clear k0 n0;refine aN λf g=> ?_;have k6:=k1 _ _ n1;have c2:=k1 _ _ n2;have a92:v≠f:=by rintro rfl;rw[k6]at g;cases g
 have a94:I≠f:=by rintro rfl;rw[c2]at g;cases g
 have a13:=U.au n3 k1;clear k1 n1 n2 n3 k5;refine aa ?_;refine cg [1,2,4] (λb:Nat=> [(5,.v (.int .i64 (b)))]) (λb F=>b<=a.rows.length/\w.sub F/\(0<=((a.rows.take b).foldl dR ⟨0,a.rows.length,([],[])⟩).live/\((a.rows.take b).foldl dR ⟨0,a.rows.length,([],[])⟩).live<=b/\((a.rows.take b).foldl dR ⟨0,a.rows.length,([],[])⟩).aR.1.length<=8/\((a.rows.take b).foldl dR ⟨0,a.rows.length,([],[])⟩).aR.2.length<=8)/\
   ∃h k,F f=some (.cells (ab (fL p ⟨((a.rows.take b).foldl dR ⟨0,a.rows.length,([],[])⟩).live,b,((a.rows.take b).foldl dR ⟨0,a.rows.length,([],[])⟩).aR⟩) h k .nil))) (λb=>a.rows.length - b) 0 ⟨⟨a7b _,U.af (U.af U.a6 g) g,aaV,.nil,.nil,U.ai _ _ _⟩,aO⟩ ?_
 rintro b k7 ⟨a14,i,⟨a95,a96,a15,a16⟩,h,k,aM⟩ a18;have K:=λr=>eR (a:=a.rows) (b:=([],false)) (e:=b) r;have C:=λr=>congrArg (List.foldl dR ⟨0,a.rows.length,([],[])⟩) (K r);generalize k2:(a.rows.take b).foldl dR ⟨0,a.rows.length,([],[])⟩=d at*;have n4:=U.ae (i _ _ k6);have M:=U.ae aM;have N:=P ⟨d.live,b,d.aR⟩ h k;have n5:putAt (ab (fL p ⟨d.live,b,d.aR⟩) h k .nil) 35 [.v (.int .i64 ((b)+1))]=ab (fL p ⟨d.live,(b)+1,d.aR⟩) h k .nil:=sS x;have q:=U.aI aM
 dsimp only at N
 refine aa ?_;refine aH (λO=> ?_) λO=> ?_
 .have A:b<a.rows.length:=aaU;have Q:a.rows[b]? =some (a.rows.getD b ([],false)):=by simp_all
  obtain⟨_,j,W,rfl⟩:=Z.get Q;have k3:=k4 _ (a6D Q);have C:=C A;rw[a8z,k2]at C;generalize a.rows.getD b ([],false)=o at*;have n9:eB 2 S[b]? =some (.bU [.J (ad o.1) W,.v (.bool o.2)]):=by rw[j];rfl
  obtain⟨o,a19⟩:=o
  dsimp only at k3 n9
  have k8:=P ⟨d.live,(b)+1,d.aR⟩ h k
  dsimp only at k8
  cases a19 with
  |false=>
   refine aa ?_;have s:(a.rows.take (b+1)).foldl dR ⟨0,a.rows.length,([],[])⟩=d:=by rw[C];rfl
   refine⟨b+1,⟨A,?_,h,k,?_⟩,rfl,aaU⟩;grind
   .rw[s];push_cast;rfl
  |true=>
   have a27:putAt (ab (fL p ⟨d.live,(b)+1,d.aR⟩) h k .nil) 34 [.v (.int .i64 (d.live+1))]=ab (fL p ⟨d.live+1,(b)+1,d.aR⟩) h k .nil:=sR x;have e:=P ⟨d.live+1,(b)+1,d.aR⟩ h k
   dsimp only at e
   refine aa ?_;generalize t:k7.set f _=u;have k9:u f=some (.cells (ab (fL p ⟨d.live+1,(b)+1,d.aR⟩) h k .nil)):=by subst t;exact U.ai _ _ _
   have l0:w.sub u:=by subst t;exact U.af i g
   clear t q M;refine ah (He d.aR (o,o) h k W W u aaU (by dsimp only;omega)) ?_;rintro _ a29 ⟨X,D,E,rfl⟩;have l1:=X _ _ k9;have q:=U.aI l1;have a30:cP d.aR (gq o)=cP d.aR (o,o):=by unfold gq;rw[if_pos k3]
   have a34:putAt (ab (fL p ⟨d.live+1,(b)+1,d.aR⟩) h k .nil) 32 [.J (ad (cP d.aR (o,o)).1) D,.J (ad (cP d.aR (o,o)).2) E]=ab (fL p ⟨d.live+1,(b)+1,cP d.aR (o,o)⟩) D E .nil:=y7 x;have a36:=oA d.aR (o,o) 8 a15 a16 k3.2 k3.2;refine aa ?_;have s:(a.rows.take (b+1)).foldl dR ⟨0,a.rows.length,([],[])⟩=⟨d.live+1,d.size,cP d.aR (o,o)⟩:=by rw[C];show dR d (o,true)= _;rw[dR,if_pos rfl,a30]
   refine⟨b+1,⟨A,U.au l0 X,?_,D,E,?_⟩,rfl,aaU⟩;grind
   .rw[s];push_cast;rfl
 obtain rfl:b=a.rows.length:=aaU;rw[a6V]at k2;have a38:d.size=a.rows.length:=by rw[<-k2,yp]
 have a42:(⟨d.live,a.rows.length,d.aR⟩)=d:=by rw[<-a38]
 rw[a42]at aM;clear C K O M N n5 q n4;refine cg [1,2,4] (λb:Nat=> [(6,.v (.int .i64 (b)))]) (λb F=>b<=a.kids.length/\w.sub F/\(0<=((a.kids.take b).foldl ev d).live/\((a.kids.take b).foldl ev d).live<=4+b*1048576/\0<=((a.kids.take b).foldl ev d).size/\((a.kids.take b).foldl ev d).size<=4+b*1048576/\((a.kids.take b).foldl ev d).aR.1.length<=8/\((a.kids.take b).foldl ev d).aR.2.length<=8)/\
   ∃h k,F f=some (.cells (ab (fL p ((a.kids.take b).foldl ev d)) h k .nil))) (λb=>a.kids.length - b) 0 ⟨⟨a7b _,i,aaW,h,k,aM⟩,aO⟩ ?_
 clear aM i;rintro b k7 ⟨a14,i,⟨a97,a98,a99,b00,a43,a47⟩,h,k,aM⟩ a18;have K:=λr=>eR (a:=a.kids) (b:=az) (e:=b) r;have C:=λr=>congrArg (List.foldl ev d) (K r);generalize l2:(a.kids.take b).foldl ev d=T at*;have n4:=U.ae (i _ _ k6);have M:=U.ae aM;have N:=P T h k;have q:=U.aI aM
 dsimp only at N
 refine aa ?_;refine aH (λO=> ?_) λO=> ?_
 .have A:b<a.kids.length:=aaU;have Q:a.kids[b]? =some (a.kids.getD b az):=by simp_all
  obtain⟨_,j,l3,a48,D,E,L,rfl⟩:=j9.get Q;obtain⟨a52,_,_⟩:=l8 _ (a6D Q);obtain⟨l9,a56,b01,b02,b03,b04,b05⟩:=a52;have C:=C A;rw[a8z,l2]at C;generalize a.kids.getD b az=c at*;have l4:=iX c D E L l3;have n9:eB 37 V[b]? =some (.bU (ab c D E L)):=by rw[j];exact iE l4.1
  have n5:putAt (ab (fL p T) h k .nil) 35 [.v (.int .i64 (T.size+c.size))]=ab (fL p ⟨T.live,T.size+c.size,T.aR⟩) h k .nil:=sS x;have a27:putAt (ab (fL p ⟨T.live,T.size+c.size,T.aR⟩) h k .nil) 34 [.v (.int .i64 (T.live+c.live))]=ab (fL p ⟨T.live+c.live,T.size+c.size,T.aR⟩) h k .nil:=sR x;have k8:=P ⟨T.live,T.size+c.size,T.aR⟩ h k;have e:=P ⟨T.live+c.live,T.size+c.size,T.aR⟩ h k
  dsimp only at k8 e
  generalize ab c D E L=a57 at*;clear j;refine aa ?_;generalize t:k7.set f _=u;have k9:u f=some (.cells (ab (fL p ⟨T.live+c.live,T.size+c.size,T.aR⟩) h k .nil)):=by subst t;exact U.ai _ _ _
  have l0:w.sub u:=by subst t;exact U.af i g
  clear t q M;refine ah (He T.aR (c.aT,c.aS) h k D E u aaU (by dsimp only;omega)) ?_;rintro _ a29 ⟨X,l5,l6,rfl⟩;have l1:=X _ _ k9;have q:=U.aI l1;have a34:putAt (ab (fL p ⟨T.live+c.live,T.size+c.size,T.aR⟩) h k .nil) 32 [.J (ad (cP T.aR (c.aT,c.aS)).1) l5,.J (ad (cP T.aR (c.aT,c.aS)).2) l6]=ab (fL p ⟨T.live+c.live,T.size+c.size,cP T.aR (c.aT,c.aS)⟩) l5 l6 .nil:=y7 x;have a36:=oA T.aR (c.aT,c.aS) 8 a43 a47 l9 a56;refine aa ?_;have s:(a.kids.take (b+1)).foldl ev d=⟨T.live+c.live,T.size+c.size,cP T.aR (c.aT,c.aS)⟩:=by rw[C];rfl
  refine⟨b+1,⟨A,U.au l0 X,?_,l5,l6,?_⟩,rfl,aaU⟩;grind
  .rw[s]
 obtain rfl:b=a.kids.length:=aaU;rw[a6V]at l2;have a61:eD a=T:=by unfold eD;rw[k2,l2]
 rw[a61]at a03 z;have b06:=U.aI (i _ _ c2);have b07: ∀F:U,w.sub F->y.sub F:=λF r=>U.au a13 r;clear C K O;have B:G.sum.length=32:=by rw[<-z];exact x
 have l7:G.size=T.size:=by rw[<-z]
 by_cases g2:a.kind=2
 .have bp:(a.kind.toNat:Int)=2:=by rw[g2];rfl
  obtain⟨o,b08,a00⟩:=a8F (a04 g2);obtain⟨_,j,W,rfl⟩:=Z.get (i:=0) (by rw[a00];rfl);have Y:keyOf a=o.1:=by unfold keyOf;rw[if_pos g2,a00];rfl
  rw[Y]at z;have a62:cC 2 (.J S l) (.v (.int .i64 0))=some (.bU [.J (ad o.1) W,.v (.bool o.2)]):=by show cC 2 _ (.v (.int .i64 ((0:Nat))))= _;rw[og,j];rfl
  have a63:putAt (ab (fL p T) h k .nil) 36 [.J (ad o.1) W]=ab G h k W:=by rw[<-z];exact sT x
  have e:=iX G h k W B;have a01:=n G B h k W;rw[l7]at e;generalize o.1=a65 at*;clear P n z;refine iH ?_;refine iH ?_;grind
 have bp: ¬(a.kind.toNat:Int)=2:=λs=>g2 (a7v.1 (by grind));refine iH ?_;by_cases g3:a.kind=3
 .have ha:(a.kind.toNat:Int)=3:=by rw[g3];rfl
  obtain⟨c,b09,a02⟩:=a8F (a05 g3);obtain⟨_,j,l3,a48,D,E,L,rfl⟩:=j9.get (i:=0) (by rw[a02];rfl);have Y:keyOf a=c.key:=by unfold keyOf;rw[if_neg g2,if_pos g3,a02];rfl
  rw[Y]at z;have l4:=iX c D E L l3;have a62:cC 37 (.J V m) (.v (.int .i64 0))=some (.bU (ab c D E L)):=by show cC 37 _ (.v (.int .i64 ((0:Nat))))= _;rw[og,j];exact iE l4.1
  have a63:putAt (ab (fL p T) h k .nil) 36 [.J (ad c.key) L]=ab G h k L:=by rw[<-z];exact sT x
  have e:=iX G h k L B;have a01:=n G B h k L;rw[l7]at e;generalize ab c D E L=a57 at*;generalize c.key=a65 at*;clear P n z;refine iH ?_;refine iH ?_;grind
 .have ha: ¬(a.kind.toNat:Int)=3:=λs=>g3 (a7v.1 (by grind));have Y:keyOf a= []:=by unfold keyOf;simp_all
  rw[Y]at z;have a68:fL p T=G:=z;rw[a68]at M N q;have e:=iX G h k .nil B;have a01:=n G B h k .nil;rw[l7]at e;clear P n z;refine iH ?_;refine iH ?_;grind
def a4r: ∀(a:List (a1.T e)),ec (pU a)=a.flatMap (a1.ba e)
 | []=>rfl
 | [b]=>by simp[pU,ec]
 |c::d::h=>rfl
theorem a4s: ∀(a:Nat) (b:a1.T a),ec (vV a b)=a1.ba a b
 |0,b=>by
  obtain⟨d,rfl⟩:=a1.ig b;show ec (if a1.len (a1.leaf d)=0 then none else some ⟨0,a1.leaf d⟩)= _;by_cases c:a1.len (a1.leaf d)=0
  .rw[if_pos c];rw[a1.hF]at c;rw[a1.jn,a6F c];rfl
  .rw[if_neg c];rfl
 |a+1,b=>by
  obtain⟨h,rfl⟩:=a1.gu b;show ec (match a1.kids (a1.node h)with
   | [k]=>some ⟨a,k⟩
   | _=>some ⟨a+1,a1.node h⟩)= _
  grind[a1.fo,a1.fN,ec]
def a4t (d:1<=e) (h:e<=8) (k:bN e q) (o:gT e b7) (p:q∉ec b7):(ec (kJ b7 q)).Perm (q::ec b7):=by
 match b7 with
 |none=>show(a1.ba 0 (a1.leaf [q])).Perm _;rw[a1.jn];rfl
 |some ⟨a,b7⟩=>have b:GT e a b7:=o;have c:q∉a1.ba a b7:=p;simp only[kJ];rw[if_neg c,a4r];rw[(a1.ri (ga d h) k a b7 b.wf b.dX b.ok c).1];unfold a1.dT;exact a9c.trans (.cons _ (List.Perm.of_eq a7t))
def a4u (d:1<=e) (h:e<=8) (k:bN e q) (o:gT e b7) (c:q∈ec b7):ec (jx b7 q)=(ec b7).filter λp=>decide (p≠q):=by
 match b7 with
 |none=>cases c
 |some ⟨a,b7⟩=>have b:GT e a b7:=o;have r:q∈a1.ba a b7:=c;simp only[jx];rw[if_pos r,a4s];exact(a1.pT (ga d h) k a b7 b.wf b.dX b.ok).1
theorem Hg (a:List Int) (b:List (List Int)):(hq a b).Perm (a::b):=by grind[List.takeWhile_append_dropWhile,decide,c5,hq,List.perm_middle]
theorem Hh {b:List Int}: ∀ {a:List (List Int)},a.Pairwise (λk o=>c5 k<c5 o)->(∀c∈a,c5 b≠c5 c)->(hq b a).Pairwise (λk o=>c5 k<c5 o)
 | [],_,_=>by simp[hq]
 |c::a,r,x=>by
  obtain⟨z,C⟩:=a7i.1 r;have D:=x c aaV;by_cases y:c5 b<c5 c
  .have p:hq b (c::a)=b::c::a:=by simp[hq,y]
   rw[p];refine a7i.2 ⟨λh d=> ?_,r⟩;grind
  .have p:hq b (c::a)=c::hq b a:=by simp[hq,y]
   rw[p];refine a7i.2 ⟨λh d=> ?_,Hh C λh d=>x h (by simp[d])⟩;rcases a6W.1 ((Hg b a).mem_iff.1 d)with rfl|d
   .omega
   .exact z h d
theorem Hi: ∀(b a:List (List Int)),(a++b).Pairwise (λh k=>c5 h≠c5 k)->a.Pairwise (λh k=>c5 h<c5 k)->(b.foldl (λo c=>hq c o) a).Perm (a++b)/\(b.foldl (λo c=>hq c o) a).Pairwise (λh k=>c5 h<c5 k)
 | [],a,_,d=>by simpa using d
 |c::b,a,d,p=>by
  have r:=((Hg c a).append_right b).trans a9c.symm;obtain⟨D,E,x⟩:=a7G.1 d;obtain⟨F,G⟩:=Hi b (hq c a) (r.symm.pairwise d λd=>d.symm) (Hh p λy z C=>x y z c aaV C.symm);grind
theorem a4v (c:O.Pairwise (λa b=>c5 a<c5 b)) (p: ∀d∈O,c5 q≠c5 d):(rJ (O++ [q])).Perm (q::O)/\(rJ (O++ [q])).Pairwise (λa b=>c5 a<c5 b):=by
 have h:([]++(O++ [q])).Pairwise (λa b=>c5 a≠c5 b):=by rw[a6T];refine a7G.2 ⟨c.imp λc=>by omega,aaV,λa r b x=> ?_⟩;grind
 obtain⟨k,o⟩:=Hi (O++ [q]) [] h .nil;exact⟨k.trans (List.perm_append_singleton _ _),o⟩
def ep.put {d:Nat}{a:bb} (b:ep d a) (G:d<900) {c:List Int} (h:bN (a.aD.length+1) c) (o: ∀y∈a.rows,c5 y≠c5 c):ep (d+1) (a.put c)/\(cV (a.aD.length+1) c a.bo 0).2=true/\c∉ec a.bu:=by
 have L:=b.c;have p:c∉a.rows:=λhm=>o c hm rfl;have r:(cV (a.aD.length+1) c a.bo 0).2=true:=by
  cases z:(cV (a.aD.length+1) c a.bo 0).2 with
  |true=>rfl
  |false=>exact absurd (b.fh.mem_iff.1 (zQ z)) p
 have x:c∉ec a.bu:=λhm=>p (b.nV.mem_iff.1 hm);obtain⟨k,C⟩:=a4v b.dX λD E F=>o D E F.symm;have P:=b.nV.length_eq;have S:=b.dK;refine⟨⟨b.right,b.df.ins h,?_,(a4f aaU aaU h b.go aaU).1,?_,C,?_⟩,r,x⟩
 .exact(zP h b.df.eW r).trans ((b.fh.cons c).trans k.symm)
 .exact(a4t aaU aaU h b.go x).trans ((b.nV.cons c).trans k.symm)
 .show(rJ (a.rows++ [c])).length<=d+1;rw[k.length_eq,a6E];omega
theorem a4w {b:List (List Int)} (d:O.Pairwise (·≠ ·)) (a:O.Perm (q::b)):b.Perm (O.filter λc=>decide (c≠q)):=by have h:=(a.filter λc=>decide (c≠q)).symm;have k:(q::b).Pairwise (·≠ ·):=a.pairwise d λa=>a.symm;obtain⟨o,_⟩:=a7i.1 k;rw[a9L,if_neg aaV]at h;grind[decide,List.filter_eq_self,decide_eq_true]
def ep.rH (a:ep e h5):h5.rows.Pairwise (·≠ ·):=a.dX.imp λa b=>by subst b;omega
theorem ep.del {k:Nat}{b:bb} (a:ep k b) {c:List Int} (d:c∈b.rows):ep k (b.del c)/\(cp (b.aD.length+1) c b.bo 0).2=true/\c∈ec b.bu:=by
 have z:=a.c;have h:=a.row d;have o:(cp (b.aD.length+1) c b.bo 0).2=true:=by
  cases r:(cp (b.aD.length+1) c b.bo 0).2 with
  |true=>rfl
  |false=>exact absurd (a.fh.mem_iff.2 d) (zR h.len a.df.eW a.df.vN r)
 have p:=a.nV.mem_iff.2 d;have x:=a3s a.df o;refine⟨⟨a.right,a.df.del,?_,(a4k aaU aaU h a.go).1,?_,a.dX.filter _,a7y (a9O _ _) a.dK⟩,o,p⟩
 .exact a4w a.rH (a.fh.symm.trans x)
 .show(ec (jx b.bu c)).Perm (b.rows.filter λy=>decide (y≠c));rw[a4u aaU aaU h a.go p];exact a.nV.filter _
def ep.none (a:ep e h5) (d:q.length=h5.aD.length+1) (b:q∉h5.rows):(cp (h5.aD.length+1) q h5.bo 0).2=false:=by
 cases c:(cp (h5.aD.length+1) q h5.bo 0).2 with
 |false=>rfl
 |true=>exact absurd (a.fh.mem_iff.1 ((vL c).mem_iff.2 aaV)) b
variable{h3:dq}
theorem Hj (a:eV h3=true) (b:h3.kind=1):eV ⟨1,h3.table,h3.aD,[]⟩=true:=by unfold eV at a|-;simp_all
variable{e6:List (List UInt8)}
def Hk (a:eV ⟨1,A,e6,[]⟩=true):ep e ⟨A,e6,[],.nil,none⟩:=⟨a,lM.nil,.refl _,trivial,.refl _,.nil,a7b _⟩
theorem add_eq (a:ee e a8) (c:e<=1000) (d:eV ⟨1,A,e6,[]⟩=true):
  ke (a8.map bb.bR) ⟨A,e6,az,az⟩=if ct a8 A<a8.length then .error 4 else if 7<a8.length then .error 10 else .ok ((a8.take (jy a8 A)++⟨A,e6,[],.nil,none⟩::a8.drop (jy a8 A)).map bb.bR):=by
 have h:fU ⟨A,e6,az,az⟩=true:=(Hk d).bR aaU;unfold ke;rw[a.cat c,h,Bool.and_self,if_pos rfl]
 dsimp only
 rw[Af a,a6J];by_cases b:ct a8 A<a8.length;simp_all
 .rw[if_neg (by simpa using b),if_neg b,a4n aaU];by_cases c2:7<a8.length
  .grind
  .rw[if_neg aaU,if_neg c2,a7x,a6Q,aa1,a9u];rfl
theorem Hl (a:ee e a8) (c:e<=1000):cJ (a8.map bb.bR) A=if ct a8 A<a8.length then .ok ((a8.eraseIdx (ct a8 A)).map bb.bR)else .error 3:=by
 unfold cJ;rw[a.cat c,if_pos rfl,Af a];by_cases b:ct a8 A<a8.length
 .rw[if_pos (decide_eq_true b),if_pos b,H8 a b,a8K,a7x,aa1,a9u]
 grind
theorem pF (a:ee e a8) (b:e<=1000) (c:ep i h5) (d:i<=1000) (h:ct a8 h5.name<a8.length):kf (a8.map bb.bR) h5.bR= .ok ((a8.set (ct a8 h5.name) h5).map bb.bR):=by unfold kf;rw[a.cat b,c.bR d,Bool.and_self,if_pos rfl];show(if gE (a8.map bb.bR) h5.name=true then _ else _)= _;rw[Af a,if_pos (decide_eq_true h)];grind[bb.bR,set,cW,H8,List.map_set]
def ee.Ah (c: ∀d∈a8,ep e d) (h:cI (a8.map bb.bR)=true):ee e a8:=by obtain⟨_,a,b⟩:=p1.1 h;rw[a8Z]at a;rw[a6J]at b;exact⟨c,a,b⟩
def ee.le {b c:Nat}{d:List bb} (a:ee b d) (h:b<=c):ee c d:=⟨λk o=>(a.ok k o).le h,a.dX,a.dK⟩
theorem ee.set {b:Nat}{a:List bb} (d:ee b a) (x:b<1000) {c:bb} (h:ep (b+1) c) (k:ct a c.name<a.length):ee (b+1) (a.set (ct a c.name) c):=
 ee.Ah (λo p=>by
  rcases a8J p with r|rfl
  .exact(d.ok o r).le aaU
  .exact h) (GR (pF d aaU h aaU k))
def Ai (a:eV h3=true) (h:h3.kind≠1) (k:h3.kind≠2):(h3.kind=3\/h3.kind=4):=by
 have a:=a;simp only[eV,a6B]at a;have a:=a.2;have c: ∀d:UInt8,h3.kind.toNat=d.toNat->h3.kind=d:=λd b=>a7v.1 b;split at a
 .rename_i b;exact absurd (c 1 b) h
 split at a
 .rename_i b;exact absurd (c 2 b) k
 split at a
 .rename_i b;exact b.imp (c 3) (c 4)
 .cases a
theorem a4x (d:ee e a8) (y:e<900) (o:dj h3.row):ee (e+1) (hr a8 h3).2:=by
 have b:=d.le (show e<=e+1 by omega);unfold hr;by_cases p:eV h3=false
 .rw[if_pos p];exact b
 rw[if_neg p];have z:eV h3=true:=by simp_all
 by_cases c1:h3.kind=1
 .rw[if_pos c1];have r:=Hj z c1;have h:=add_eq d aaU r;by_cases c2:ct a8 h3.table<a8.length
  .rw[if_pos c2];exact b
  rw[if_neg c2]at h|-;by_cases aE:7<a8.length
  .rw[if_pos aE];exact b
  rw[if_neg aE]at h|-;refine ee.Ah (λc a=> ?_) (GV h);simp only[a6L,a6W]at a;rcases a with a|rfl|a
  .exact b.ok c (a6M a)
  .exact Hk r
  .exact b.ok c (a7e a)
 rw[if_neg c1];by_cases c2:a8.length<=ct a8 h3.table
 .rw[if_pos c2];exact b
 rw[if_neg c2];have k:ct a8 h3.table<a8.length:=aaU;by_cases aE:h3.kind=2
 .rw[if_pos aE];have h:=Hl (A:=h3.table) d aaU;rw[if_pos k]at h;exact ee.Ah (λc a=>b.ok c (a9F a)) (GQ (d.cat aaU) h)
 rw[if_neg aE];have a:=d.ok _ (Ae k);have C:=vX k;generalize a8.getD (ct a8 h3.table) default=c at*;by_cases aM:h3.row.length≠c.aD.length+1
 .rw[if_pos aM];exact b
 rw[if_neg aM];have D:bN (c.aD.length+1) h3.row:=⟨aaU,o⟩;rw[<-C]at k|-;by_cases bh:h3.kind=4
 .rw[if_pos bh];by_cases bx:h3.row∈c.rows
  .rw[if_pos bx];exact d.set aaU ((a.del bx).1.le aaU) k
  .rw[if_neg bx];exact b
 .rw[if_neg bh];by_cases bx:c.rows.any (λx=>decide (c5 x=c5 h3.row))=true
  .rw[if_pos bx];exact b
  .rw[if_neg bx];refine d.set aaU (a.put y D λx o E=>bx ?_).1 k;simp_all
def kV (a:List Int):Nat:=(c5 a+9223372036854775808).toNat
theorem Aj (a:dj q): -9223372036854775808<=c5 q/\c5 q<9223372036854775808:=by
 unfold c5;rw[a7z];cases b:q[0]? with
 |none=>simp
 |some c=>exact a c (a6D b)
theorem Ak (a:dj q):IntKind.u64.wrap (IntKind.u64.wrap (c5 q)+9223372036854775808)=(kV q:Int)/\(kV q:Int)=c5 q+9223372036854775808:=by grind[Aj,kV,c5,Int.toNat_of_nonneg,kt]
theorem Hm (c d:Own) (a:List Int) (b:U) (k:oM a) (o:dj a):AC Tryz.prog 178 [fT.V c,.J (ad a) d] b λp r=>r=b/\p= .aJ [ir 0 (kV a),.v (.bool true)]:=by
 obtain⟨x,y⟩:=Ak o;obtain⟨C,D⟩:=k;have E:=bM (q:=a);have F:=mG (q:=a) aaU d;have z:fT.ok a.length=true:=by rw[ru];simp_all
 have h:=λb=>Fs fT c a.length b aaU aaV;rw[z]at h;unfold c5 at x;clear y;refine aK hm PV ?_;refine bp λG L=> ?_;refine cZ λP S T V=> ?_;refine bk (h _) ?_;rfl
theorem a4y (r x y:Own) (a b:List Int) (c:U) (F:oM a) (l:b.length=a.length) (z:dj a) (C:dj b):AC Tryz.prog 118 [fT.V r,.J (ad a) x,.J (ad b) y] c λk o=>o=c/\k= .v (.bool (decide (c5 a<c5 b))):=by
 have T:oM b:=by unfold oM at*;omega
 have fh:=(Ak z).2;have V:=(Ak C).2;have G:=λc=>Hm r x a c F z;have L:=λc=>Hm r y b c T C;obtain⟨m,n⟩:=F;have q:=bM (q:=a);have s:=bM (q:=b);have W:=mG (q:=a) aaU x;have e:=mG (q:=b) aaU y;have P:a.getD 0 0=c5 a:=rfl;have S:b.getD 0 0=c5 b:=rfl;rw[P]at W;rw[S]at e;have t:kV a<kV b↔c5 a<c5 b:=aaU;have u:kV a=kV b↔c5 a=c5 b:=aaU;have cj:kV a<18446744073709551616/\kV b<18446744073709551616:=by have G:=Aj z;have L:=Aj C;omega
 clear P S fh V;generalize kV a=d at*;generalize kV b=h at*;generalize c5 a=D at*;generalize c5 b=f at*;have E: ∀p:Nat,p<18446744073709551616->dk [(2,cb.int IntKind.u64)] [R.v (Value.int IntKind.u64 0),R.v (Value.int IntKind.u64 (p))]:=λp v=>by
  simp[dk,cb.tT]
 have w:=E d cj.1;have A:=E h cj.2;clear E;have g:peq (R.agg [R.v (Value.int IntKind.u64 0),R.v (Value.int IntKind.u64 (d))]) (R.agg [R.v (Value.int IntKind.u64 0),R.v (Value.int IntKind.u64 (h))])=decide (d=h):=by grind[peq]
 refine aK hm O9 ?_;refine bp λB H=> ?_;refine bk (G _) ?_;refine cZ λI K p M=> ?_;refine bk (L _) ?_;refine ha λN O Q X Y Z=> ?_;have i: ∀c,AC Tryz.prog 179 [ir 0 d,ir 0 h] c λk o=>o=c/\k= .v (.bool (decide (D<f))):=λc=>(a1J 0 d 0 h c).mono λk o j=>⟨j.1,by simp_all⟩;rw[g];refine aH (λD=> ?_) λD=> ?_
 .refine bk (i _) ?_;trivial
 .trivial
theorem a4z (c: ∀a<e,¬c5 q<c5 (O.getD a [])) (b:e<=O.length) (d:e<O.length->c5 q<c5 (O.getD e [])):hq q O=O.take e++q::O.drop e:=by
 induction O generalizing e with
 |nil=>simp at b;subst b;rfl
 |cons h O ih=>
  cases e with
  |zero=>grind[c5,hq,List.takeWhile_cons,List.dropWhile_cons]
  |succ e=>have o: ¬c5 q<c5 h:=c 0 aaU;have:=ih (λa p=>c (a+1) aaU) (by simpa using b) (λk=>d (by simpa using k));simp_all [hq]
theorem a4A (d:List (List Int)) (m:List R) (w z:Own) (F:Nat) (C:U) (g:aB isRow d m) (n: ∀G∈d,bN F G) (k1:1<=F) (k2:F<=8) (n1:d.length<=100000):
  AC Tryz.prog 64 [fT.V z,.J m w] C λG L=>C.sub L/\ ∃A k3,aB isRow (rJ d) A/\G= .J A k3:=by
 have n2:=g.len;have k4: ∀C,AC Tryz.prog 117 [fT.V z,.v (.int .i64 (F:Int))] C λG L=>L=C/\G= .v (.bool true):=λC=>by
  have:=Fs fT z F C aaU aaV;rw[ru,decide_eq_true ⟨k1,k2⟩]at this;exact this
 have n3:(fT.V z).cells= [.v (.int .u8 0),.v (.int .i64 0),.J (ad []) z]:=rfl;refine aK hm Mv ?_;refine bp λq k5=> ?_;have B: ∀S,(C.set q (.cells (fT.V z).cells)).sub S->S.read q=some [.v (.int .u8 0),.v (.int .i64 0),.J (ad []) z]:=λS k=>U.ae (k _ _ (U.ai _ _ _));have k6:=U.af (X:= .cells (fT.V z).cells) (U.a6) k5;generalize C.set q _=H at*;refine gL [1,2,5] (λh:Nat=> [(6,.v (.int .i64 h))]) (λh=>h<=d.length) (λh=>d.length - h) 0 aaU aO ?_
 .rintro h I K;have k7:=B H U.a6;refine aa ?_;refine aH (λs=> ?_) λs=> ?_
  .have T:d[h]? =some (d.getD h []):=by simp_all
   have M:d[0]? =some (d.getD 0 []):=by grind
   obtain⟨_,k8,i,rfl⟩:=g.get T;obtain⟨_,k9,D,rfl⟩:=g.get M;have l0:=(n _ (a6D T)).len;have n4:=(n _ (a6D M)).len;have n5:=bM (q:=d.getD h []);have n9:=bM (q:=d.getD 0 []);generalize d.getD h []=r at*;generalize d.getD 0 []=b at*;refine aa ?_;have a00:cC 1 (.J m w) (.v (.int .i64 0))=some (.bU [.J (ad b) D]):=by show cC 1 _ (.v (.int .i64 ((0:Nat))))= _;rw[og,k9];rfl
   refine bk (k4 _) ?_;exact⟨h+1,aaU,rfl,aaU⟩
  .refine cg [1,2] (λb:Nat×List R×Own=> [(7,.v (.int .i64 b.1)),(5,.J b.2.1 b.2.2)]) (λb L=>H.sub L/\b.1<=d.length/\ ∃c,(d.take b.1).foldl (λc r=>hq r c) []=c/\c.length=b.1/\(∀G∈c,bN F G)/\aB isRow c b.2.1) (λb=>d.length - b.1) (0,[],.nil) ⟨⟨U.a6,aaU,[],rfl,rfl,aaV,trivial⟩,aO⟩ ?_;rintro⟨h,E,bH⟩ S ⟨j,I,c,V,l1,N,x⟩ K
   dsimp only at I V l1 x|-
   have a01:=x.len;refine aa ?_;refine aH (λs=> ?_) λs=> ?_
   .have T:d[h]? =some (d.getD h []):=by simp_all
    obtain⟨_,k8,i,rfl⟩:=g.get T;have O:=n _ (a6D T);have l0:=O.len;have l2:=O.kI;have Q:=eR (a:=d) (b:= []) (e:=h) aaU;generalize d.getD h []=r at*;have el: ∀a,a<c.length-> ∃D,E[a]? =some (.J (ad (c.getD a [])) D):=λa W=>by
     obtain⟨_,o,D,rfl⟩:=x.get (i:=a) (x:=c.getD a []) (by simp_all);exact⟨D,o⟩
    have l3: ∀a,a<c.length->(c.getD a []).length=F:=λa W=>(N _ (by simp_all)).len;have l4: ∀a,a<c.length->dj (c.getD a []):=λa W=>(N _ (by simp_all)).kI;refine cg [1,2,5,7] (λb:Nat×List R×Own=> [(9,.v (.int .i64 b.1)),(8,.J b.2.1 b.2.2)]) (λb L=>b.1<=c.length/\(∀X<b.1,¬c5 r<c5 (c.getD X []))/\aB isRow (c.take b.1) b.2.1/\bf S L 1 b.2.1 b.2.2) (λb=>c.length - b.1) (0,[],.nil) ⟨⟨aaU,λX k=>by simp at k,trivial,bf.nil U.a6⟩,aO⟩ ?_;rintro⟨a,l,on⟩ l5 ⟨W,Y,y,e⟩ K
    dsimp only at W Y y e|-
    have k7:=B l5 (U.au j e.sub);have a02:l.length=a:=by rw[y.len,a6C];omega
    have Z: ¬(a<c.length/\ ¬c5 r<c5 (c.getD a []))->hq r c=c.take a++r::c.drop a:=λk=>a4z Y W λl6=>Classical.not_not.1 λP=>k ⟨l6,P⟩;by_cases jU:(a)<(h:Int)
    .obtain⟨D,a03⟩:=el a aaU;have a04:=l3 a aaU;have l7:=l4 a aaU;have l8:=eR (a:=c) (b:= []) (e:=a) aaU;generalize a05:c.getD a []=b at*;refine aa ?_;refine bk (a4y z i D r b _ (by unfold oM;omega) aaU l2 l7) ?_;refine aH (λc2=> ?_) λc2=> ?_
     .refine jM (λj9 f=> ?_);refine eh (e.mono (U.af U.a6 f)) (y.cells λ_ _=>isRow.cells) (λo p=>by rw[a6U]at p;subst p;rfl) aaW aaW λt k0 P=> ?_;refine aa ?_;refine⟨(a+1,l++ [.J (ad b) D],t),⟨by simp only;omega,?_,?_,P⟩,⟨rfl,rfl⟩,by simp only;omega⟩;grind
      .simp only[l8];exact y.snoc ⟨_,rfl⟩
     .have o:=Z aaU;refine jM (λj9 f=> ?_);refine eh (e.mono (U.af U.a6 f)) (y.cells λ_ _=>isRow.cells) (λo p=>by rw[a6U]at p;subst p;rfl) aaW aaW λt k0 P=> ?_;have l9:dO 1 (.J E bH) (some (.v (.int .i64 (a)))) none=some (.J (E.drop a) .any):=pz aaU (x.cells λ_ _=>isRow.cells);refine aa ?_;refine eh P (λo p=>by rcases a6L.1 p with k|k;exact y.cells (λ_ _=>isRow.cells) o k;rw[a6U]at k;subst k;rfl) ((x.drop a).cells λ_ _=>isRow.cells) aaW aaW λu n0 v=> ?_;refine aa ?_;refine⟨(h+1,l++ [.J (ad r) i]++E.drop a,u),⟨U.au j v.sub,by simp only;omega,_,rfl,?_,?_,?_⟩,⟨rfl,rfl⟩,by simp only;omega⟩;grind;grind
      .simp only[Q,a8z,V,a7j,a8S,o];rw[a9K];exact(y.snoc ⟨_,rfl⟩).append (x.drop a)
    .have o:=Z aaU;refine aa ?_;refine jM (λj9 f=> ?_);refine eh (e.mono (U.af U.a6 f)) (y.cells λ_ _=>isRow.cells) (λo p=>by rw[a6U]at p;subst p;rfl) aaW aaW λt k0 P=> ?_;have l9:dO 1 (.J E bH) (some (.v (.int .i64 (a)))) none=some (.J (E.drop a) .any):=pz aaU (x.cells λ_ _=>isRow.cells);refine aa ?_;refine eh P (λo p=>by rcases a6L.1 p with k|k;exact y.cells (λ_ _=>isRow.cells) o k;rw[a6U]at k;subst k;rfl) ((x.drop a).cells λ_ _=>isRow.cells) aaW aaW λu n0 v=> ?_;refine aa ?_;refine⟨(h+1,l++ [.J (ad r) i]++E.drop a,u),⟨U.au j v.sub,by simp only;omega,_,rfl,?_,?_,?_⟩,⟨rfl,rfl⟩,by simp only;omega⟩;grind;grind
     .simp only[Q,a8z,V,a7j,a8S,o];rw[a9K];exact(y.snoc ⟨_,rfl⟩).append (x.drop a)
   .obtain rfl:h=d.length:=aaU;rw[a6V]at V;refine⟨U.au k6 j,E,bH,by rw[rJ,V];exact x,rfl⟩
def a4B {a:Nat->Bool}:(List.range (e+1)).all a=(a 0&&(List.range e).all λb=>a (b+1)):=by rw[aas,List.all_cons,aaS];rfl
theorem Hn (b:List UInt8): ∀(c a:Nat),b.length<c+a->lF ⟨b.toArray⟩ c a=(List.range (b.length - a)).all λk=>nJ (a+k) (b.getD (a+k) 0)
 |0,a,o=>by
  rw[show b.length - a=0 by omega];rfl
 |c+1,a,o=>by
  have p:(⟨b.toArray⟩:ByteArray).size=b.length:=rfl;rw[lF,p];by_cases d:a<b.length
  .rw[if_pos d];obtain⟨h,hm⟩: ∃h,b.length - a=h+1:=⟨b.length - a - 1,aaU⟩;rw[hm,a4B,a8A];have r:b.getD a 0=b[a]:=by simp[d]
   rw[r];by_cases cr:b[a].toNat<128
   .rw[Fi b a d cr]
    dsimp only
    rw[Hn b c (a+1) aaU,show b.length -(a+1)=h by omega];have x:fS a (b[a].toNat)=nJ a b[a]:=by unfold fS nJ;grind
    grind
   grind[decode_high,fS,Utf8.decode,decide_eq_false,nJ]
  simp_all
theorem Ho (a:List UInt8):nK a=jW a:=by unfold nK jW;rw[Hn a (a.length+1) 0 aaU];grind
theorem a4C (a:e<e6.length):lG e6 e=mD e6 e:=by unfold lG mD;rw[Ho];congr 2;rw[a9f];simp only[a6P,a7O,a8d,decide_eq_false_iff_not];grind[hm,List.getElem_of_mem,List.length_take,List.getD,List.mem_iff_getElem]
theorem a4D (a:List (List UInt8)):(List.range a.length).all (lG a)=(List.range a.length).all (mD a):=by rw[a9f];grind[List.all_eq_true,a4C]
theorem a4E (a:dq):oK a=eV a:=by
 unfold oK eV yT nI;rw[Ho,a4D];congr 1;by_cases b:a.kind.toNat=1
 .rw[if_pos b,if_pos b,Bool.and_assoc];grind
 rw[if_neg b,if_neg b];by_cases c:a.kind.toNat=2;simp_all;grind
def eA (c:Nat) (d h:U):Prop:= ∀a b,a≠c->d a=some b->h a=some b
theorem eA.of {s:U} (a:s.sub f):eA e s f:=λb c _ d=>a b c d
theorem eA.trans (d:eA e f s) (h:eA e s e0):eA e f e0:=λa b c k=>h a b c (d a b c k)
theorem eA.set {a:Nat}{b c:U}{h:bs} (k:eA a b c):eA a b (c.set a h):=λo p d r=>by rw[U.an _ _ d];exact k o p d r
def fr (a:List R) (b:Nat) (d:R) (c:Nat):List R:=if c<=b then a.take c else(a.take b++d::a.drop b).take (c+1)
def a4F (b:e<i) (a:g[e]? =some b6):fr g i n (e+1)=fr g i n e++ [b6]:=by unfold fr;rw[if_pos aaU,if_pos aaU];obtain⟨c,rfl⟩:=a6H.1 a;simp
theorem a4G (a:g[e]? =some b6):fr g e n (e+1)=fr g e n e++ [n]++ [b6]:=by unfold fr;obtain⟨b,rfl⟩:=a6H.1 a;rw[if_neg aaU,if_pos aaU,a6Y b];grind
theorem a4H (b:e<i) (a:g[i]? =some b6):fr g e n (i+1)=fr g e n i++ [b6]:=by unfold fr;obtain⟨c,rfl⟩:=a6H.1 a;rw[if_neg aaU,if_neg aaU];have d:(g.take e++n::g.drop e).length=g.length+1:=aaW;rw[a7K (show i+1<(g.take e++n::g.drop e).length by omega)];congr 2;grind
def a4I (a:e<=g.length):(if e<g.length then fr g e n g.length else fr g e n g.length++ [n])=g.take e++n::g.drop e:=by
 split
 .unfold fr;rw[if_neg aaU,a6z aaW]
 .obtain rfl:e=g.length:=aaU;unfold fr;rw[if_pos aaU];simp
def a4J (a:aB (hs f) a8 g) (h:n.cells.length=1):aW 1 (fr g e n i):=λc b=>by
 have d:=Hb a;unfold fr at b;split at b
 .exact d c (a6M b)
 .have:=a6M b;rcases a6L.1 this with a|a
  .exact d c (a6M a)
  .rcases a6W.1 a with rfl|a
   .exact h
   .exact d c (a7e a)
theorem a4K:(fr g i n e).length<=e+1:=by unfold fr;grind
theorem a4L: ∀a<jy a8 A,c8 A (a8.getD a default).name=false:=by
 unfold jy
 induction a8 with
 |nil=>intro a b;simp at b
 |cons d a8 ih=>
  intro a b;rw[a7U]at b;cases c:c8 A d.name with
  |true=>simp[c]at b
  |false=>
   simp only[c,a7u,if_true,a6E]at b;cases a with
   |zero=>trivial
   |succ a=>simp_all
def a4M:jy a8 A<=a8.length:=(List.takeWhile_sublist _).length_le
theorem a4N (a:jy a8 A<a8.length):c8 A (a8.getD (jy a8 A) default).name=true:=by
 induction a8 with
 |nil=>simp at a
 |cons b a8 ih=>
  unfold jy at a|-;rw[a7U]at a|-;cases c:c8 A b.name with
  |true=>simp[c]
  |false=>simp_all [if_true,jy]
theorem a4O (a:List bb) (b:List UInt8):(ct a b<a.length->qf a b=(ct a b:Int))/\(a.length<=ct a b->qf a b= -1):=by simp_all [qf,if_pos,if_neg]
def a4P (a:UInt8) (b:Int):ji BinOp.eql (ak a) (R.v (Value.int IntKind.u8 b))=some (.v (.bool (decide ((a.toNat:Int)=b)))):=by simp only[ak,sj];rfl
theorem a4Q (a:g[e]? =some n) (b:e≠i):(g.take (e+1)).eraseIdx i=(g.take e).eraseIdx i++ [n]:=by obtain⟨c,rfl⟩:=a6H.1 a;grind[List.take_succ_eq_append_getElem,Nat.lt_or_ge,List.eraseIdx_append_of_lt_length,List.length_take,List.eraseIdx_of_length_le]
theorem a4R:(g.take (e+1)).eraseIdx e=(g.take e).eraseIdx e:=by grind[List.eraseIdx_eq_take_drop_succ,List.drop_eq_nil_of_le,List.length_take,Nat.min_eq_left,Nat.min_self]
variable{b0:Type}
def aB.erase {b:b0->R->Prop}{c:List b0} (a:Nat) (d:aB b c g):aB b (c.eraseIdx a) (g.eraseIdx a):=by rw[a8K,a8K];exact(d.take a).append (d.drop (a+1))
def Al (a:f e=some (.cells [n])) (b:aB (hs f) a8 g):ht (f.set e (.cells [.J g N])) e a8:=
 ⟨g,N,U.ai _ _ _,b.mono λ_ _ c=>c.iz (iy.set a rfl)⟩
def Hp (a:f e=some (.cells [bn A,.J (bL e6) N,.J [] .nil,.v (.pointer none),.v (.pointer none)])):hs f ⟨A,e6,[],.nil,none⟩ (.ptr e 0):=⟨e,N,[],.nil,_,_,rfl,a,trivial,rfl,rfl⟩
theorem a4S (a:aB (hs f) a8 g):bV s 1 (.J g N)=some (g.length,g):=by
 have p: ∀b∈g,b.cells= [b]:=λb d=>by
  obtain⟨h,k,rfl⟩:=a7l d;have r:=a.len;obtain⟨o,c,x,_,_,_,_,_,rfl,_⟩:=a.get (a6y (show h<a8.length by omega));rw[a6y k]at c;rw[a6x c];rfl
 have y:flat g=g:=by
  unfold flat;clear a
  induction g with
  |nil=>rfl
  |cons o g ih=>simp_all
 simp_all [bV,if_pos,a6P,decide_eq_true]
def kg (a:Nat) (p c:U) (r:List bb):Prop:= ∃b d,aB (hs b) r d/\(∃x,b a=some (.cells [x]))/\eA a p b/\eA a b c/\
 ((∃y,c a=some (.cells [.J d y]))\/ ∃h k z o,b h=none/\c a=some (.cells [.ao h k z 1])/\c h=some (.cells o)/\k<=o.length/\er 1 k o=d)
theorem kg.of {s:U}{ds:List bb} (a:ht f e ds) (c:eA e s f):kg e s f ds:=by obtain⟨d,h,b,k⟩:=a;exact⟨f,d,k,⟨_,b⟩,c,λ_ _ _ a=>a,.inl ⟨h,b⟩⟩
theorem a4T (M:U) (w a68:Nat) (k:List bb) (c:ht M w k) (a69:ee a68 k) (b49:a68<900) (x:dr) (a71:x.d.Fit) (X:dj x.d.row):
  AC Tryz.prog 28 [.ptr w 0,x.V] M λy n=>kg w M n (hr k x.d).2/\y= .v (.int .i64 (hr k x.d).1):=by
 have h:=(hr.eq_1 k x.d).symm;generalize hr k x.d=b12 at*;have Y:=λM=>a1e x a71 M;rw[a4E]at Y;have a73:=a69.dK;obtain⟨E,a14,a74,a81⟩:=c;have n4:=a81.len;have a83:x.V= .agg [ak x.d.kind,bn x.d.table,.J (bL x.d.aD) x.gx,.J (ad x.d.row) x.dt]:=rfl;rw[a83]at Y|-;clear a83;obtain⟨b50,b51,b52,b53⟩:=a71;generalize a15:x.d.kind=V at*;generalize b54:x.d.table=G at*;generalize b55:x.d.aD=l1 at*;generalize b56:x.d.row=z at*;refine aK hm Lj ?_;refine bp λn5 a16=> ?_;have W:=U.af (X:= .cells [ak V,bn G,.J (bL l1) x.gx,.J (ad z) x.dt]) (U.a6 (f:=M)) a16;have aE:=U.ai M n5 (.cells [ak V,bn G,.J (bL l1) x.gx,.J (ad z) x.dt]);have b57:w≠n5:=by rintro rfl;rw[a74]at a16;cases a16
 generalize M.set n5 _=e at*;have F:=W _ _ a74;have S:aB (hs e) k E:=a81.mono λ_ _ c=>c.sub W;have a84:=a4q e w k ⟨E,a14,F,S⟩ G aaU;have j:=U.ae aE;have eu:=U.ae F;obtain⟨a86,b13⟩:=a4O k G;have Z:ht e w k:=⟨E,a14,F,S⟩;cases cr:eV x.d with
 |false=>rw[cr]at Y;rw[if_pos cr]at h;refine bk (Y e) ?_;exact⟨_,U.a6,kg.of (by rw[<-h];exact Z) (eA.of W),by rw[<-h]⟩
 |true=>
  rw[cr]at Y;rw[if_neg (by rw[cr];simp)]at h;refine bk (Y e) ?_;generalize qf k G=b14 at*;refine bk a84 ?_;clear Y a84;refine aH (λa88=> ?_) λa88=> ?_
  .have n9:V=1:=a7v.1 (by grind);rw[if_pos n9]at h;refine aH (λq=> ?_) λq=> ?_
   .rw[if_pos aaU]at h;exact⟨_,U.a6,kg.of (by rw[<-h];exact Z) (eA.of W),by rw[<-h]⟩
   rw[if_neg aaU]at h;refine aH (λc2=> ?_) λc2=> ?_
   .rw[if_pos aaU]at h;exact⟨_,U.a6,kg.of (by rw[<-h];exact Z) (eA.of W),by rw[<-h]⟩
   rw[if_neg aaU]at h;have b58:=a4M (a8:=k) (A:=G);have b15:=a4L (a8:=k) (A:=G);have b16:=a4N (a8:=k) (A:=G);generalize jy k G=d at*;refine dF U.a6 (by simp[aW]) λb59 b60 a89=> ?_;refine aa ?_;refine eh (g:= []) a89 (λ_ c=>by cases c) tJ (by rw[a6G,iq];omega) (by rw[a6G,iq];omega) λa18 a19 l2=> ?_;rw[a6T]at l2|-;have j:=U.ae (l2.sub _ _ aE);refine aa ?_;refine aN λo N=> ?_;have j9:(a19.set o (.cells (R.agg [bn G,.J (bL l1) a18,.J [] .nil,.v (.pointer none),.v (.pointer none)]).cells)) o=some (.cells [bn G,.J (bL l1) a18,.J [] .nil,.v (.pointer none),.v (.pointer none)]):=U.ai _ _ _;have k0:=U.au l2.sub (U.af (X:= .cells (R.agg [bn G,.J (bL l1) a18,.J [] .nil,.v (.pointer none),.v (.pointer none)]).cells) (U.a6 (f:=a19)) N);have b61:w≠o:=by rintro rfl;rw[l2.sub _ _ F]at N;cases N
   refine aa ?_;have a90:fr E d (.ptr o 0) 0= []:=by unfold fr;rw[if_pos (a7b _)];rfl
   have b17:decide (d<0)=false:=aaV;generalize a19.set o _=b18 at*;clear a89 l2 N j;refine cg [0,3,8] (λp:Nat×Own=> [(6,.J (fr E d (.ptr o 0) p.1) p.2),(7,.v (.bool (decide (d<p.1)))),(9,.v (.int .i64 (p.1:Int)))]) (λp n=>p.1<=k.length/\bf b18 n 1 (fr E d (.ptr o 0) p.1) p.2) (λp=>k.length - p.1) (0,.nil) ⟨⟨a7b _,by rw[a90];exact bf.nil U.a6⟩,aO⟩ ?_;rintro⟨a,bH⟩ l3 ⟨l4,r⟩ a92
   dsimp only at l4 r|-
   have a94:=a4K (g:=E) (i:=d) (e:=a) (n:= .ptr o 0);have k1:=a4J (e:=d) (i:=a) (n:= .ptr o 0) S rfl;have eu:=U.ae (r.sub _ _ (k0 _ _ F));have b62:=U.ae (r.sub _ _ j9);clear a90 b17;refine aa ?_;refine aH (λaE=> ?_) λaE=> ?_
   .have k6:a<k.length:=aaU;have k2:k[a]? =some (k.getD a default):=by simp[List.getD,k6]
    obtain⟨_,k7,a27,l,a95,a96,a00,a01,rfl,s,_,_,_⟩:=S.get k2;have A:=U.ae (r.sub _ _ (k0 _ _ s));have a97:=(vC G (k.getD a default).name).1;rcases aa5 a d with B|B|B
    .have a29:=b15 a B;have P:=a4F (n:= .ptr o 0) B k7;have b19: ¬d<a:=aaU;have l5: ¬d<a+1:=aaU;generalize fr E d (.ptr o 0) a=a02 at*;rw[a29]at a97;refine aa ?_;refine hA r k1 λ_ T L C _=> ?_;exact⟨(a+1,T),⟨by simp only;omega,by simp only[P];exact C⟩,⟨by simp only[P],by simp[l5],rfl⟩,by simp only;omega⟩
    .subst B;have a29:=b16 k6;have P:=a4G (n:= .ptr o 0) k7;have b19: ¬a<a:=aaU;generalize fr E a (.ptr o 0) a=a02 at*;rw[a29]at a97;have l5:a<a+1:=aaU;refine aa ?_;refine hA r k1 λ_ T L C _=> ?_;have eu:=U.ae (C.sub _ _ (k0 _ _ F));refine aa ?_;refine hA C (λD a30=>by rcases a6L.1 a30 with c|c;exact k1 D c;rw[a6U]at c;subst c;rfl) λ_ T g C _=> ?_;exact⟨(a+1,T),⟨by simp only;omega,by simp only[P];exact C⟩,⟨by simp only[P],by simp[l5],rfl⟩,by simp only;omega⟩
    .have P:=a4H (n:= .ptr o 0) B k7;have l5:d<a+1:=aaU;generalize fr E d (.ptr o 0) a=a02 at*;refine aa ?_;refine hA r k1 λ_ T L C _=> ?_;exact⟨(a+1,T),⟨by simp only;omega,by simp only[P];exact C⟩,⟨by simp only[P],by simp[l5],rfl⟩,by simp only;omega⟩
   .obtain rfl:a=k.length:=aaU;have a34:=a4I (g:=E) (e:=d) (n:= .ptr o 0) aaU;rw[n4]at a34;have a98:=U.aI (r.sub _ _ (k0 _ _ F));by_cases B:d<k.length
    .rw[if_pos B]at a34;refine aa ?_;have f:=U.au k0 r.sub;refine⟨_,U.a6,kg.of ?_ (eA.of (U.au W f)).set,by rw[<-h]⟩;rw[<-h];exact Al (f _ _ F) (((S.mono λ_ _ c=>c.sub f).take d).append ⟨Hp (r.sub _ _ j9),(S.mono λ_ _ c=>c.sub f).drop d⟩)
    .rw[if_neg B]at a34;refine aa ?_;refine hA r k1 λ_ T L C _=> ?_;have a98:=U.aI (C.sub _ _ (k0 _ _ F));refine aa ?_;have f:=U.au k0 C.sub;refine⟨_,U.a6,kg.of ?_ (eA.of (U.au W f)).set,by rw[<-h]⟩;rw[<-h];exact Al (f _ _ F) (((S.mono λ_ _ c=>c.sub f).take d).append ⟨Hp (C.sub _ _ j9),(S.mono λ_ _ c=>c.sub f).drop d⟩)
  .have n9: ¬V=1:=λD=>a88 (by rw[D];rfl);rw[if_neg n9]at h;refine aH (λq=> ?_) λq=> ?_
   .have b20:k.length<=ct k G:=by omega
    rw[if_pos b20]at h;exact⟨_,U.a6,kg.of (by rw[<-h];exact Z) (eA.of W),by rw[<-h]⟩
   have k6:ct k G<k.length:=by omega
   obtain rfl:=a86 k6;rw[if_neg aaU]at h;clear a86 b13 q;have b21:=Ae k6;generalize ct k G=d at*;refine aH (λa99=> ?_) λa99=> ?_
   .have a03:V=2:=a7v.1 (by grind);rw[if_pos a03]at h;have b22:([]:List R).eraseIdx d= []:=List.eraseIdx_nil;refine cg [0,3,5] (λp:Nat×Own=> [(10,.J ((E.take p.1).eraseIdx d) p.2),(11,.v (.int .i64 (p.1:Int)))]) (λp n=>p.1<=k.length/\bf e n 1 ((E.take p.1).eraseIdx d) p.2) (λp=>k.length - p.1) (0,.nil) ⟨⟨a7b _,by grind[bf.nil,U.a6]⟩,aO⟩ ?_;clear b22;rintro⟨a,bH⟩ l3 ⟨l4,r⟩ a92
    dsimp only at l4 r|-
    have a94:((E.take a).eraseIdx d).length<=a:=a7y (List.length_eraseIdx_le _ _) (by rw[a6C];omega);have k1:aW 1 ((E.take a).eraseIdx d):=λD a30=>Hb S D (a6M (a9F a30));have eu:=U.ae (r.sub _ _ F);refine aa ?_;refine aH (λaE=> ?_) λaE=> ?_
    .have b23:a<k.length:=aaU;have k2:k[a]? =some (k.getD a default):=by simp[List.getD,b23]
     obtain⟨_,k7,a27,l,a95,a96,a00,a01,rfl,s,_,_,_⟩:=S.get k2;by_cases jU:a=d
     .subst jU;have P:=a4R (g:=E) (e:=a);generalize (E.take a).eraseIdx a=a02 at*;refine aa ?_;exact⟨(a+1,bH),⟨by simp only;omega,by simp only[P];exact r⟩,⟨by simp only[P],rfl⟩,by simp only;omega⟩
     .have P:=a4Q (i:=d) k7 jU;generalize (E.take a).eraseIdx d=a02 at*;have b63: ¬(a:Int)=(d:Int):=aaU;refine aa ?_;refine hA r k1 λ_ T L C _=> ?_;exact⟨(a+1,T),⟨by simp only;omega,by simp only[P];exact C⟩,⟨by simp only[P],rfl⟩,by simp only;omega⟩
    .obtain rfl:a=k.length:=aaU;rw[<-n4,a6V]at r|-;have a98:=U.aI (r.sub _ _ F);refine aa ?_;have f:=r.sub;refine⟨_,U.a6,kg.of ?_ (eA.of (U.au W f)).set,by rw[<-h]⟩;rw[<-h];exact Al (f _ _ F) ((S.mono λ_ _ c=>c.sub f).erase d)
   .have a03: ¬V=2:=λD=>a99 (by rw[D];rfl);rw[if_neg a03]at h;have b24:k[d]? =some (k.getD d default):=by simp[List.getD,k6]
    have t:=a69.ok _ b21;obtain⟨_,k7,a27,l,a95,a96,a00,a01,rfl,s,b00,a36,a38⟩:=S.get b24;have A:=U.ae s;have b64:=a36.cells;have fv:=a38.cells;have b65:=t.c;have b25:=λy c=>t.row (q:=y) c;have b66:=t.dK;have b67:=b00.len;generalize b68:k.getD d default=b at*;have b69:=iq (e6:=b.aD);have b70:=bM (q:=z);refine aa ?_;refine aH (λq=> ?_) λq=> ?_
    .rw[if_pos aaU]at h;exact⟨_,U.a6,kg.of (by rw[<-h];exact Z) (eA.of W),by rw[<-h]⟩
    rw[if_neg aaU]at h;have l6:z.length=b.aD.length+1:=aaU;have fG:=mG (q:=z) aaU x.dt;rw[show z.getD 0 0=c5 z from rfl]at fG;have b26:decide (z∈([]:List (List Int)))=false:=aaV;refine cg [0,3,5,12] (λp:Nat×List R×Own=> [(13,.J p.2.1 p.2.2),(14,.v (.bool (decide (z∈b.rows.take p.1)))),(15,.v (.int .i64 (p.1:Int)))]) (λp n=>p.1<=b.rows.length/\bf e n 1 p.2.1 p.2.2/\aB isRow ((b.rows.take p.1).filter λy=>decide (y≠z)) p.2.1/\(V=3-> ∀y∈b.rows.take p.1,c5 y≠c5 z)) (λp=>b.rows.length - p.1) (0,[],.nil) ⟨⟨a7b _,bf.nil U.a6,trivial,λ_ y c=>by cases c⟩,aO⟩ ?_;clear b26;rintro⟨a,O,bH⟩ l3 ⟨l4,r,i,a04⟩ a92
    dsimp only at l4 r i a04|-
    have A:=U.ae (r.sub _ _ s);have j:=U.ae (r.sub _ _ aE);have a94:O.length<=a:=by rw[i.len];grind
    refine aa ?_;refine aH (λbh=> ?_) λbh=> ?_
    .have b01:a<b.rows.length:=aaU;have k2:b.rows[a]? =some (b.rows.getD a []):=by simp[List.getD,b01]
     obtain⟨_,P,a05,rfl⟩:=b00.get k2;have b71:=(b25 _ (a6D k2)).len;have l7:=eR (a:=b.rows) (b:= []) (e:=a) b01;have b27:b.rows.getD a []∈b.rows:=a6D k2;generalize b.rows.getD a []=y at*;have b28:=mG (q:=y) aaU a05;rw[show y.getD 0 0=c5 y from rfl]at b28;refine aa ?_;refine aH (λbx=> ?_) λbx=> ?_
     .refine aH (λb02=> ?_) λb02=> ?_
      .have l8:V=3:=a7v.1 (by grind);rw[if_neg (by rw[l8];decide),if_pos (a9M.2 ⟨y,b27,decide_eq_true bx⟩)]at h;exact⟨_,U.a6,kg.of (by rw[<-h];exact Z.sub r.sub) (eA.of (U.au W r.sub)),by rw[<-h]⟩
      have b72: ¬V=3:=λD=>b02 (by rw[D];rfl);refine bk (tg y z a05 x.dt _ aaU) ?_;refine aH (λc9=> ?_) λa06=> ?_
      .subst c9;exact⟨(a+1,O,bH),⟨by simp only;omega,r,by simp_all,λc=>absurd c id⟩,⟨rfl,by simp[l7],rfl⟩,by simp only;omega⟩
      refine hA r (i.cells λ_ _=>isRow.cells) λ_ T L C _=> ?_;refine⟨(a+1,O++ [.J (ad y) a05],T),⟨by simp only;omega,C,by simp only[l7,a9E];rw[a9L,if_pos (by simpa using a06),aap];exact i.snoc ⟨_,rfl⟩,λl8 b03 a42=> ?_⟩,⟨rfl,by grind,rfl⟩,by simp only;omega⟩;exact False.elim l8
     .have a06:y≠z:=λD=>bx (by rw[D]);refine hA r (i.cells λ_ _=>isRow.cells) λ_ T L C _=> ?_;refine⟨(a+1,O++ [.J (ad y) a05],T),⟨by simp only;omega,C,by simp only[l7,a9E];rw[a9L,if_pos (by simpa using a06),aap];exact i.snoc ⟨_,rfl⟩,λl8 b03 a42=> ?_⟩,⟨rfl,by simp only[l7,a6L,a6U];congr 2;exact decide_eq_decide.2 ⟨.inl,λc=>c.resolve_right λD=>a06 D.symm⟩,rfl⟩,by simp only;omega⟩;rw[l7]at a42;rcases a6L.1 a42 with c|c
      .exact a04 l8 b03 c
      .obtain rfl:=a6U.1 c;exact bx
    .obtain rfl:a=b.rows.length:=aaU;rw[a6V]at i a04|-;refine aN λo N=> ?_;have u:=U.bI r.sub N;have j9:(l3.set o (.cells (R.agg [bn b.name,.J (bL b.aD) l,.J [] .nil,.v (.pointer none),.v (.pointer none)]).cells)) o=some (.cells [bn b.name,.J (bL b.aD) l,.J [] .nil,.v (.pointer none),.v (.pointer none)]):=U.ai _ _ _;have a43:=U.af (X:= .cells (R.agg [bn b.name,.J (bL b.aD) l,.J [] .nil,.v (.pointer none),.v (.pointer none)]).cells) (U.a6 (f:=l3)) N;have b73:n5≠o:=by rintro rfl;rw[aE]at u;cases u
     have b74:a27≠o:=by rintro rfl;rw[s]at u;cases u
     have b75:w≠o:=by rintro rfl;rw[F]at u;cases u
     refine aa ?_;have k8:=U.au r.sub a43;have b29:=a43;generalize l3.set o _=b04 at*;clear N a43;have A:=U.ae (k8 _ _ s);have j:=U.ae (k8 _ _ aE);have b76:=a4P V 4;refine aa ?_;refine om [0,3,5,12,16] (λ_:Unit=> []) (λ_ n=> ∃a07,b12=(0,k.set d a07)/\a07.name=b.name/\hs n a07 (.ptr o 0)/\e.sub n) (λq=> ?_) (λq=> ?_) ?_
     .have a08:V=4:=a7v.1 (by have c:=of_decide_eq_true q;have:(4:UInt8).toNat=4:=rfl;omega);rw[if_pos a08]at h;have aF:=U.aI j9;refine aa ?_;refine aH (λc9=> ?_) λc9=> ?_
      .rw[if_neg c9]at h;exact⟨_,U.a6,kg.of (by rw[<-h];exact Z.sub k8) (eA.of (U.au W k8)),by rw[<-h]⟩
      .have b30:=c9;rw[if_pos b30]at h;clear c9;generalize k3:b04.set o _=L;have a47:L o=some (.cells [bn b.name,.J (bL b.aD) l,.J O bH,.v (.pointer none),.v (.pointer none)]):=by subst k3;exact U.ai _ _ _
       have H:e.sub L:=by subst k3;exact U.af k8 u
       clear k3 aF j9;refine ah (a0W (b.aD.length+1) aaU aaU z x.dt l6 b.bo a00 L (a36.mono H) t.df.eW.ok (by have:=t.df.cf;omega)) ?_;rintro _ a09 ⟨m,k4,rfl,k5⟩;have l9:=m _ _ a47;have aF:=U.aI l9;have b31:=k5.cells;have A:=U.ae (m _ _ (H _ _ s));have j:=U.ae (m _ _ (H _ _ aE));refine aa ?_;generalize I:a09.set o _=g;have a48:g o=some (.cells [bn b.name,.J (bL b.aD) l,.J O bH,k4,.v (.pointer none)]):=by subst I;exact U.ai _ _ _
       have n0:e.sub g:=by subst I;exact U.af (U.au H m) u
       have a52:dL g (lE (b.aD.length+1) z b.bo).1 k4:=by subst I;exact k5.iz (n:=5) aaY (iy.set l9 rfl)
       clear I aF A j;refine ah (a4l (e:=b.aD.length+1) aaU aaU z x.dt ⟨l6,X⟩ b.bu a01 g (a38.fY (U.qW n0)) t.go) ?_;rintro _ k9 ⟨K,a56,b32,rfl,n1⟩;have v:=K _ _ a48;have aF:=U.aI v;have b33:=n1.cells;refine aa ?_;exact⟨(),b.del z,h.symm,rfl,⟨o,l,O,bH,k4,a56,rfl,U.ai _ _ _,i,(a52.mono K).iz (n:=5) aaY (iy.set v rfl),n1.iz (n:=5) aaY (iy.set v rfl)⟩,U.au n0 K⟩
     .have a08: ¬V=4:=λD=>(of_decide_eq_false q) (by rw[D];rfl);rw[if_neg a08]at h;have b34:V=3:=by have:=Ai cr (by rw[a15];exact n9) (by rw[a15];exact a03);rw[a15]at this;exact this.resolve_right a08
      have b05:=a04 b34;rw[if_neg (λc=>by
       obtain⟨y,X,D⟩:=a9M.1 c;exact b05 y X (of_decide_eq_true D))]at h
      have b35:b.rows.filter (λy=>decide (y≠z))=b.rows:=a9W.2 λy X=>decide_eq_true λD=>b05 y X (by rw[D]);rw[b35]at i;have b77:=i.len;refine aa ?_;refine dF U.a6 (by simp[aW]) λT L C=> ?_;have j:=U.ae (C.sub _ _ (k8 _ _ aE));refine aa ?_;refine eh (g:= []) C (λ_ c=>by cases c) (by simp[aW,ad,R.cells]) (by simp[bM];omega) (by simp[bM];omega) λb06 a09 m=> ?_;rw[a6T];refine aa ?_;refine dF U.a6 (by simp[aW,R.cells]) λb78 g a73=> ?_;refine aa ?_;have b07:b04.sub g:=U.au m.sub a73.sub;refine sA (r.mono (U.au b29 b07)) (i.cells λ_ _=>isRow.cells) (by simp[aW,R.cells]) aaW aaW λb36 k9 K b37=> ?_;have v:=b37 _ _ (b07 _ _ j9);have b38:aB isRow (b.rows++ [z]) (O++ [.J (ad z) b06]):=i.snoc ⟨b06,rfl⟩;have b39: ∀y∈b.rows++ [z],bN (b.aD.length+1) y:=λy c=>by
       rcases a6L.1 c with c|c
       .exact t.row c
       .obtain rfl:=a6U.1 c;exact⟨l6,X⟩
      refine aa ?_;refine ah (a4A (b.rows++ [z]) _ b36 .nil (b.aD.length+1) k9 b38 b39 aaU aaU aaW) ?_;rintro _ a57 ⟨b08,a61,a62,b40,rfl⟩;have b09:=b08 _ _ v;have aF:=U.aI b09;have a63:e.sub a57:=U.au K.sub b08;have A:=U.ae (a63 _ _ s);have j:=U.ae (a63 _ _ aE);refine aa ?_;generalize k3:a57.set o _=L;have a47:L o=some (.cells [bn b.name,.J (bL b.aD) l,.J a61 a62,.v (.pointer none),.v (.pointer none)]):=by subst k3;exact U.ai _ _ _
      have H:e.sub L:=by subst k3;exact U.af a63 u
      clear k3 aF A j v b09;refine ah (yN (b.aD.length+1) aaU aaU z x.dt l6 b.bo a00 0 L L (a36.mono H) U.a6 t.df.eW.ok (by have:=t.df.cf;omega)) ?_;rintro _ a09 ⟨m,k4,rfl,k5⟩;have k5:=k5.mono rj;have l9:=m _ _ a47;have aF:=U.aI l9;have b31:=k5.cells;have A:=U.ae (m _ _ (H _ _ s));have j:=U.ae (m _ _ (H _ _ aE));refine aa ?_;generalize I:a09.set o _=g;have a48:g o=some (.cells [bn b.name,.J (bL b.aD) l,.J a61 a62,k4,.v (.pointer none)]):=by subst I;exact U.ai _ _ _
      have n0:e.sub g:=by subst I;exact U.af (U.au H m) u
      have a52:dL g (cV (b.aD.length+1) z b.bo 0).1 k4:=by subst I;exact k5.iz (n:=5) aaY (iy.set l9 rfl)
      clear I aF A j;refine ah (a0K (e:=b.aD.length+1) aaU aaU z x.dt ⟨l6,X⟩ b.bu a01 g (a38.fY (U.qW n0)) t.go) ?_;rintro _ k9 ⟨K,a56,b32,rfl,n1⟩;have v:=K _ _ a48;have aF:=U.aI v;have b33:=n1.cells;refine aa ?_;exact⟨(),b.put z,h.symm,rfl,⟨o,l,a61,a62,k4,a56,rfl,U.ai _ _ _,b40,(a52.mono K).iz (n:=5) aaY (iy.set v rfl),n1.iz (n:=5) aaY (iy.set v rfl)⟩,U.au n0 K⟩
     .rintro _ k9 ⟨a07,b79,b80,b41,l0⟩ b81;have eu:=U.ae (l0 _ _ F);refine aa ?_;rw[oc];refine aa ?_;have b42:=a4S (s:=k9) (N:=a14) S;refine fb (av.zero U.a6) aaU b42 aaU aaW aaW λb14 a57 a10=> ?_;rw[a6T]at a10;obtain⟨Q,n2,n3,a11,rfl,a13,b43,b44,b10,hm,b82,_⟩:=a10.ao (λD=>by rw[D]at n4;simp at n4;omega);rw[a7s]at b44 b10 hm;have b83:cC 1 (.ao Q n2 n3 1) (.v (.int .i64 (d:Int)))=some (.ptr Q d):=by have:=jJ (e:=1) (i:=Q) (v:=n2) (M:=n3) (e1:= .i64) (b1:=(d:Int)) aaU aaU;simpa using this
      have b84:=U.aI b43;have b45:=a10.1 _ _ (l0 _ _ F);have b46:w≠Q:=by rintro rfl;rw[l0 _ _ F]at a13;cases a13
      have b85:=U.aI b45;have b86:(R.ao Q n2 n3 1).cells= [.ao Q n2 n3 1]:=rfl;have b87:d+1<=a11.length:=aaU;refine aa ?_;have b11:putAt a11 d [R.ptr o 0]=a11.set d (.ptr o 0):=by rw[a7R,if_pos aaU];unfold putAt;rw[a6N];rfl
      refine⟨_,U.a6,k9,E.set d (.ptr o 0),aB.set d (S.mono λ_ _ c=>c.sub l0) b41,⟨_,l0 _ _ F⟩,eA.of (U.au W l0),λb47 b88 b48 a65=> ?_,.inr ⟨Q,n2,n3,putAt a11 d [.ptr o 0],a13,U.ai _ _ _,?_,?_,?_⟩⟩
      .have:b47≠Q:=by rintro rfl;rw[a13]at a65;cases a65
       rw[U.an _ _ b48,U.an _ _ this];exact a10.1 _ _ a65
      .rw[U.an _ _ b46.symm,U.ai]
      .rw[b11,a9z];omega
      .rw[b11,mm,List.take_set,b10]
def a4U (p:U) (a r:Nat) (d:List bb) (b:ht p a d) (j:ee r d) (l:r<900) (c:dr) (m:c.d.Fit) (n:dj c.d.row):
  AC Tryz.prog 28 [.ptr a 0,c.V] p λP h=>ht h a (hr d c.d).2/\eA a p h/\P= .v (.int .i64 (hr d c.d).1):=
 (a4T p a r d b j l c m n).view λP h b=>by
  obtain⟨⟨x,S,T,⟨v,V⟩,W,y,z⟩,rfl⟩:=b;have e: ∀C,eA a x C->iy 1 x C:=λC D k E o q=>D k _ (by rintro rfl;rw[V]at o;obtain rfl:=bs.cells.inj (a6x o);exact q rfl) o;rcases z with ⟨F,z⟩|⟨k,s,w,E,G,t,o,hm,D⟩
  .exact⟨_,h,View.refl,⟨S,F,z,T.mono λ_ _ b=>b.iz (e _ y)⟩,W.trans y,rfl⟩
  .have u:a≠k:=by rintro rfl;rw[V]at G;cases G
   have f:eA a x ((h.set k (.ro E)).set a (.cells ([]++ .J (er 1 s E) .any:: []))):=λg F i L=>by
    have:g≠k:=by rintro rfl;rw[G]at L;cases L
    rw[U.an _ _ i,U.an _ _ this];exact y g F i L
   exact⟨_,_,View.obj (B:= []) t o aaU u,⟨S,.any,by rw[U.ai,D];rfl,T.mono λ_ _ b=>b.iz (e _ f)⟩,W.trans f,rfl⟩
variable{a7:aC}{w j3:aq}
def ju.le (d:e<=8) (b:ju e a7 w) (c:a7.size<=1048576):w.hE/\w.sum.length=32/\w.cv:=by have a:=b.kK c;have h:=a.nz;have k:=a.nA;have o:=a.nB;exact⟨⟨aaU,aaU,aaU,a.mv,a.live,a.mw,a.size⟩,b.sum,⟨aaU,aaU,aaU⟩⟩
theorem Am {s:Nat} (e:1<=s) (r:s<=8): ∀(i:aC) (x:R) (c:U),dL c i x->i.c7 s->i.size<=1048576->AC Tryz.prog 37 [x] c λd t=>c.sub t/\ ∃y h z,d= .agg (ab (bm i) y h z)
 | .nil,x,c,u,_,_=>by
  obtain rfl:x= .v (.pointer none):=u;have fv:=iX az .nil .nil .nil bj;have v:putAt (ab az .nil .nil .nil) 0 (ab az .nil .nil .nil)=ab az .nil .nil .nil:=cy bj bj;refine aK hm BS ?_;refine bp λk C=> ?_;rw[ch];exact⟨.nil,.nil,.nil,by rw[(aP bj).t37];rfl⟩
 | .node d o a b,x,c,u,D,O=>by
  obtain⟨Q,k9,l0,l1,rfl,p,j,l⟩:=u;have l2:=O;simp only[aC.size]at l2;have l3:=Am e r a l0;have l4:=Am e r b l1;have w:=(ez e r D.a aaU).le r aaU;have cj:=(ez e r D.b aaU).le r aaU;have X:=ez e r D O;have a00:=X.size;have a01:=j.cells;have fv:=l.cells;have m:=U.ae p;have l5: ∀E:U,c.sub E->AC Tryz.prog 83 [.ptr Q 0] E λl6 t=>E.sub t/\ ∃F G f g,l6=gO (ck (d,o) (bm a) (bm b)) (.J F f) (.J G g)/\aB cT [(d,o)] F/\aB bB [bm a,bm b] G:=by
   intro E A;have p:=A _ _ p;have j:=j.mono A;have l:=l.mono A;have m:=U.ae p;refine aK hm N5 ?_;refine bp λk C=> ?_;have a02:Q≠k:=by rintro rfl;rw[p]at C;cases C
   have L:=U.af (X:= .cells [.v (.int .u8 0),.J [] .nil,.J [] .nil]) (U.a6) C;have l7:=U.ai E k (.cells [.v (.int .u8 0),.J [] .nil,.J [] .nil]);generalize E.set k _=l8 at*;have m:=U.ae (L _ _ p);refine aa ?_;refine(sc (dF U.a6 (by simp[aW,R.cells]) λ_ _ _=>trivial)).mpr ?_;refine aa ?_;refine ah (l3 l8 (j.mono L) D.a aaU) ?_;rintro _ Y ⟨P,S,T,V,rfl⟩;have n:=U.au L P;have m:=U.ae (n _ _ p);have l9:=(iX (bm a) S T V w.2.1).1;refine aa ?_;refine(sc (dF U.a6 (by simp[aW,R.cells]) λ_ _ _=>trivial)).mpr ?_;refine aa ?_;refine ah (l4 Y (l.mono n) D.b aaU) ?_;rintro _ a03 ⟨Z,B,H,I,rfl⟩;have j9:=U.au n Z;have n0:=(iX (bm b) B H I cj.2.1).1;have m:=U.ae (j9 _ _ p);refine aa ?_;have k0:aW 37 [R.agg (ab (bm a) S T V),.agg (ab (bm b) B H I)]:=λq k1=>by
    simp only[a6W,a7V,or_false]at k1;rcases k1 with rfl|rfl
    .exact l9
    .exact n0
   refine(sc (dF U.a6 k0 λ_ _ _=>trivial)).mpr ?_;refine aa ?_;refine dF U.a6 (by simp[aW,R.cells]) λh k2 W=> ?_;refine aa ?_;refine dF U.a6 k0 λn1 a04 k3=> ?_;have a05:=U.aI (k3.sub _ _ (W.sub _ _ (Z _ _ (P _ _ l7))));refine aa ?_;exact⟨U.au j9 (U.au W.sub k3.sub),_,_,h,n1,rfl,⟨⟨k9,rfl⟩,trivial⟩,⟨w.2.1,w.2.2,S,T,V,rfl⟩,⟨cj.2.1,cj.2.2,B,H,I,rfl⟩,trivial⟩
  have k4:=λF G f g c K M=>Hf (ck (d,o) (bm a) (bm b)) F G f g c K M (by simp[ck]) (by simp[ck]) (λx n2=>by
   obtain rfl:x=(d,o):=by simpa[ck] using n2
   have:=D.r.len;dsimp only;omega) (λk5 n3=>by
   have:k5=bm a\/k5=bm b:=by simpa[ck] using n3
   grind) (by show(bm (.node d o a b)).size<= _;omega) (λq=>by cases q) (λq=>by cases q)
  have n4:fm (ck (d,o) (bm a) (bm b))=bm (.node d o a b):=rfl;rw[n4]at k4;have k6:=X.sum;generalize bm (.node d o a b)=N at*;have k7:=λy h z=>iX N y h z k6;have v: ∀y h z,putAt (ab az .nil .nil .nil) 0 (ab N y h z)=ab N y h z:=λy h z=>cy bj k6;have a06:=iX az .nil .nil .nil bj;refine aK hm BS ?_;refine bp λk C=> ?_;rw[ch];have L:=U.af (X:= .cells (ab az .nil .nil .nil)) (U.a6) C;refine ah (l5 _ L) ?_;rintro _ k2 ⟨W,F,G,f,g,rfl,K,M⟩;refine aa ?_;refine ah (k4 F G f g k2 K M) ?_;rintro _ Y ⟨P,S,T,V,rfl⟩;have a07:=U.aI (P _ _ (W _ _ (U.ai c k (.cells (ab az .nil .nil .nil)))));refine aa ?_;have n:=U.au L (U.au W P);have aE:=P _ _ (W _ _ (U.ai c k (.cells (ab az .nil .nil .nil))));refine aN λn5 k8=> ?_;have n9:k≠n5:=by rintro rfl;rw[aE]at k8;cases k8
  have a08:=n9.symm;have v:=v S T V;have k7:=k7 S T V;refine aa ?_;grind
theorem a4V (Q:e<=8) (c:a1.T 0) (D:R) (d:U) (l:bA d 0 c D) (m:dp e 0 c):
  AC Tryz.prog 84 [D] d λx h=>d.sub h/\ ∃E F y n,x=gO (dD 0 c) (.J E y) (.J F n)/\aB cT (dD 0 c).rows E/\aB bB (dD 0 c).kids F:=by
 obtain⟨b,rfl⟩:=a1.ig c;obtain⟨X,q,Y,Z,rfl,G,p⟩:=l;have p:aB isRow b q:=p;obtain⟨s,t,_⟩:=m.wf;rw[a1.hF]at s t;have j9:=p.len;have k0:=U.ae G;refine aK hm BV ?_;refine bp λz u=> ?_;refine cZ λL v w k1=> ?_;have P:=U.ai d z (.cells [.v (.int .u8 0),.J [] .nil,.J [] .nil]);have S:=U.af (X:= .cells [.v (.int .u8 0),.J [] .nil,.J [] .nil]) (U.a6) u;have C:(d.set z (.cells [.v (.int .u8 0),.J [] .nil,.J [] .nil])) L=none:=by rw[U.an _ _ w];exact v
 generalize d.set z _=A at*;have B:=S _ _ G;refine cg [0,2,3] (λa:Nat=> [(4,.v (.int .i64 (a)))]) (λa h=>a<=b.length/\ ∃al r,h L=some (.cells [.v (.int .u8 2),.J al r,.J [] .nil])/\bf A h 2 al r/\aB cT ((b.take a).map λx=>(x,true)) al) (λa=>b.length - a) 0 ⟨⟨a7b _,[],.nil,U.ai _ _ _,bf.nil (U.af (U.af U.a6 C) C),trivial⟩,aO⟩ ?_;rintro a H ⟨k2,al,r,T,k,o⟩ I;have k3:=U.ae (k.sub _ _ B);have k4:=U.ae T;have V:=o.len;rw[a6J,a6C]at V;refine aa ?_;refine aH (λW=> ?_) λW=> ?_
 .have f:a<b.length:=aaU;have K:b[a]? =some (b.getD a []):=by simp_all
  obtain⟨_,k5,y,rfl⟩:=p.get K;have M:=eR (a:=b) (b:= []) f;generalize b.getD a []=k6 at*;refine aa ?_;refine dF U.a6 (by simp[aW,R.cells]) λk7 k8 g=> ?_;refine aa ?_;refine sA (k.mono g.sub) (o.cells λ_ _=>cT.cells) (by simp[aW,R.cells]) aaW aaW λk9 l0 N O=> ?_;have i:=O _ _ (g.sub _ _ T);have aF:=U.aI i;refine aa ?_;refine⟨a+1,⟨f,_,_,rfl,qe N C i,?_⟩,rfl,aaU⟩;rw[M,a7x];exact o.snoc ⟨y,rfl⟩
 .obtain rfl:a=b.length:=aaU;rw[a6V]at o;have l1:=U.au S k.sub;have j:=U.aI (k.sub _ _ P);clear W V j;refine cg [0,2,3] (λ_:Unit=> [(5,.v (.int .i64 0))]) (λ_ h=>h=H) (λ_=>0) () ⟨rfl,aO⟩ ?_;rintro _ _ rfl I;have j:=U.aI (k.sub _ _ P);refine aa ?_;exact⟨al,[],r,.nil,rfl,o,trivial⟩
def iT.le (d:e<=8) (b:iT e i w) (c:i<=1048576):w.hE/\w.sum.length=32/\w.cv:=by have a:=b.kK c;have h:=a.nz;have k:=a.nA;have o:=a.nB;exact⟨⟨aaU,aaU,aaU,a.mv,a.live,a.mw,a.size⟩,b.sum,⟨aaU,aaU,aaU⟩⟩
def a4W (N:1<=i) (n:i<=8) (c:a1.T (e+1)) (r:R) (b:U) (O:bA b (e+1) c r) (F:dp i (e+1) c)
  (ih: ∀(c:a1.T e) (r:R) (b:U),bA b e c r->dp i e c->AC Tryz.prog 38 [r] b λG d=>b.sub d/\ ∃Q q X,G= .agg (ab (bK e c) Q q X)):
  AC Tryz.prog 84 [r] b λG d=>b.sub d/\ ∃s z Y Z,G=gO (dD (e+1) c) (.J s Y) (.J z Z)/\aB cT (dD (e+1) c).rows s/\aB bB (dD (e+1) c).kids z:=by
 obtain⟨h,rfl⟩:=a1.gu c;obtain⟨j9,z,l9,q,rfl,t,C,n0,_⟩:=O;have C:aB (bA b e) h z:=C;have k0:=F.gw;obtain⟨k1,k2,_⟩:=F.wf;rw[a1.dI]at k1 k2;have n1:=F.dK;have n2:=C.len;have n3:=U.ae t;refine aK hm BV ?_;refine bp λL k3=> ?_;refine cZ λk k4 k5 n4=> ?_;have k6:=U.ai b L (.cells [.v (.int .u8 0),.J [] .nil,.J [] .nil]);have P:=U.af (X:= .cells [.v (.int .u8 0),.J [] .nil,.J [] .nil]) (U.a6) k3;have o:(b.set L (.cells [.v (.int .u8 0),.J [] .nil,.J [] .nil])) k=none:=by rw[U.an _ _ k5];exact k4
 generalize b.set L _=u at*;have D:=P _ _ t;have n5:j9≠k:=by rintro rfl;rw[D]at o;cases o
 refine cg [0,2,3] (λ_:Unit=> [(4,.v (.int .i64 0))]) (λ_ d=>d=(u.set k (.cells [.v (.int .u8 0),.J [] .nil,.J [] .nil])).set k (.cells [.v (.int .u8 2),.J [] .nil,.J [] .nil])) (λ_=>0) () ⟨rfl,aO⟩ ?_;rintro _ _ rfl k7;have n9:=U.ae D;refine aa ?_;refine cg [0,2,3] (λa:Nat=> [(5,.v (.int .i64 (a)))]) (λa d=>a<=h.length/\ ∃al p,d k=some (.cells [.v (.int .u8 (if a=0 then 2 else 3)),.J [] .nil,.J al p])/\bf u d 37 al p/\aB bB ((h.take a).map (bK e)) al) (λa=>h.length - a) 0 ⟨⟨a7b _,[],.nil,U.ai _ _ _,bf.nil (U.af (U.af U.a6 o) o),trivial⟩,aO⟩ ?_;rintro a v ⟨a00,al,p,E,x,y⟩ k7;have a01:=U.ae (x.sub _ _ D);have k8:=U.ae E;have k9:=U.aI E;have l0:=y.len;rw[a6J,a6C]at l0;refine aa ?_;refine aH (λl1=> ?_) λl1=> ?_
 .have S:a<h.length:=aaU;have w:=a6y S;obtain⟨a02,a03,A⟩:=C.get w;obtain⟨T,_⟩:=k0 _ (a6D w);have l2:=T.dK;have l3:=a7K S;have V:=(kL N n T).le n l2;generalize h[a]=W at*;obtain⟨aR,a04,a05,rfl,_⟩:=bA.ptr A;refine aa ?_;have f:=qe (X:= .cells [.v (.int .u8 3),.J [] .nil,.J al p]) x o E;have l4:=U.ai v k (.cells [.v (.int .u8 3),.J [] .nil,.J al p]);clear x E k8 k9;generalize v.set k _=l5 at*;refine ah (ih W _ l5 (A.mono (U.au P f.sub)) T) ?_;rintro _ a06 ⟨g,j,l,m,rfl⟩;have B:=g _ _ l4;have a07:=U.ae B;have a08:=U.ae (g _ _ (f.sub _ _ D));have l6:=(iX (bK e W) j l m V.2.1).1;have H:aW 37 [R.agg (ab (bK e W) j l m)]:=λa09 I=>by rw[a6U]at I;subst I;exact l6
  refine aa ?_;refine dF U.a6 H λa10 a11 K=> ?_;refine aa ?_;refine sA ((f.mono g).mono K.sub) (y.cells λ_ _=>bB.cells) H aaW aaW λa13 a14 l7 l8=> ?_;have M:=l8 _ _ (K.sub _ _ B);have aF:=U.aI M;refine aa ?_;refine⟨a+1,⟨S,_,_,rfl,qe l7 o M,?_⟩,rfl,aaU⟩;rw[l3,a7x];exact y.snoc ⟨V.2.1,V.2.2,j,l,m,rfl⟩
 .obtain rfl:a=h.length:=aaU;rw[a6V]at y;have a15: ¬h.length=0:=aaU;have a16:=U.aI (x.sub _ _ k6);refine aa ?_;exact⟨U.au P x.sub,[],al,.nil,p,rfl,trivial,y⟩
theorem Hq (B:1<=i) (H:i<=8) (a:a1.T e) (D:R) (b:U) (I:bA b e a D) (E:dp i e a)
  (K: ∀x,b.sub x->AC Tryz.prog 84 [D] x λy G=>x.sub G/\ ∃p r z C,y=gO (dD e a) (.J p z) (.J r C)/\aB cT (dD e a).rows p/\aB bB (dD e a).kids r):
  AC Tryz.prog 38 [D] b λy x=>b.sub x/\ ∃h k o,y= .agg (ab (bK e a) h k o):=by
 have L:=(lC B H e a E).1;obtain⟨P,M,F⟩:=kz L.tj.ok;have l:=L.kK;have k2:=E.dK;have k3:=l.size;have m:=λp r z C b S T=>Hf (dD e a) p r z C b S T M F (λN O=>by have:=P N O;omega) (λQ X=>by
  have c:=L.tj.kids Q X;have D:=c.nz;have Y:=c.nA;have k4:=c.nB;exact⟨⟨aaU,aaU,aaU,c.mv,c.live,c.mw,c.size⟩,c.sum,⟨aaU,aaU,aaU⟩⟩) (by show(fm (dD e a)).size<= _;omega) (λd=>by
  match e,a,d with
  |0,a,_=>obtain⟨n,rfl⟩:=a1.ig a;have:=E.wf.1;rw[a1.hF]at this;intro Z;have j9:(dD 0 (a1.leaf n)).rows=n.map λy=>(y,true):=rfl;simp_all
  |e+1,a,d=>exact absurd d Ab) (λd=>by
  match e,a,d with
  |0,a,d=>rw[FZ]at d;cases d
  |e+1,a,_=>obtain⟨q,rfl⟩:=a1.gu a;have:=E.wf.1;rw[a1.dI]at this;intro Z;have j9:(dD (e+1) (a1.node q)).kids=q.map (bK e):=rfl;simp_all)
 have V:=l.sum;rw[<-ti]at V m;obtain⟨Y,k5,k6,rfl,k7⟩:=bA.ptr I;generalize bK e a=W at*;have s:=λh k o=>iX W h k o V;have t: ∀h k o,putAt (ab az .nil .nil .nil) 0 (ab W h k o)=ab W h k o:=λh k o=>cy bj V;have k8:=iX az .nil .nil .nil bj;refine aK hm LC ?_;refine bp λf P=> ?_;rw[ch];have u:=U.af (X:= .cells (ab az .nil .nil .nil)) (U.a6) P;refine ah (K _ u) ?_;rintro _ G ⟨g,p,r,z,C,rfl,S,T⟩;refine aa ?_;refine ah (m p r z C G S T) ?_;rintro _ k9 ⟨j,v,w,A,rfl⟩;have l0:=U.aI (j _ _ (g _ _ (U.ai b f (.cells (ab az .nil .nil .nil)))));refine aa ?_;have l1:=U.au u (U.au g j);have aE:=j _ _ (g _ _ (U.ai b f (.cells (ab az .nil .nil .nil))));refine aN λk0 F=> ?_;have k1:f≠k0:=by rintro rfl;rw[aE]at F;cases F
 have l2:=k1.symm;have t:=t v w A;have s:=s v w A;refine aa ?_;grind
def An {x:Nat} (r:1<=x) (h:x<=8): ∀(d:Nat) (a:a1.T d) (b:R) (c:U),bA c d a b->dp x d a->AC Tryz.prog 38 [b] c λz k=>c.sub k/\ ∃C D E,z= .agg (ab (bK d a) C D E)
 |0,a,b,c,o,p=>Hq r h a b c o p λk y=>a4V h a b k (o.mono y) p
 |d+1,a,b,c,o,p=>Hq r h a b c o p λk y=>a4W r h a b k (o.mono y) p λa b c=>An r h d a b c
def fs:aC->List (List UInt8)->List (List UInt8)
 | .nil,a=>a
 | .node d live b c,a=>fs c (fs b (dS a (bm (.node d live b c)).sum))
def rK: ∀(T:aC) (a:List (List UInt8)),(fs T a).length<=a.length+T.size
 | .nil,a=>by simp[fs,aC.size]
 | .node d live b c,a=>by
  rw[fs,aC.size];have h:=rK c (fs b (dS a (bm (.node d live b c)).sum));have k:=rK b (dS a (bm (.node d live b c)).sum);have o:=q5 (e6:=a) (A:=(bm (.node d live b c)).sum);omega
def rL {c:Nat} (d:1<=c) (a:c<=8): ∀(T:aC) (b:List (List UInt8)),T.c7 c->T.size<=1048576->(∀h∈b,h.length=32)-> ∀h∈fs T b,h.length=32
 | .nil,b,_,_,k=>k
 | .node z live r x,b,o,p,k=>by
  rw[fs];have y:=(ez d a o p).le a aaU;rw[aC.size]at p;exact rL d a x _ o.b aaU (rL d a r _ o.a aaU (tx k y.2.1))
def vY {E:Nat} (k:1<=E) (d:E<=8): ∀(T:aC) (o p:R) (b r:U) (a:List (List UInt8)),dL b T o->kS b r a p->(∀F∈a,F.length=32)->T.c7 E->T.size<=1048576->a.length+T.size<=100000000->
  AC Tryz.prog 15 [p,o] r λh g=>kS b g (fs T a) h
 | .nil,o,p,b,r,a,z,C,_,_,_,_=>by
  obtain rfl:o= .v (.pointer none):=z;refine aK hm BR ?_;exact⟨_,U.a6,C⟩
 | .node h D c x,o,p,b,r,a,z,C,S,y,G,i=>by
  have j:=z;obtain⟨l,X,F,m,rfl,V,n,q⟩:=z;have L:=(ez k d y G).le d aaU;have s:=G;rw[aC.size]at s i;have t:=vY k d c F;have u:=vY k d x m;have Y:=q5 (e6:=a) (A:=(bm (.node h D c x)).sum);have W:=tx S L.2.1;have v:=rL k d c _ y.a aaU W;have Z:=rK c (dS a (bm (.node h D c x)).sum);have w:=Am k d (.node h D c x) (.ptr l 0) r (j.mono C.1) y G;rw[fs];generalize bm (.node h D c x)=P at*;refine aK hm BR ?_;refine ah w ?_;rintro _ A ⟨B,H,I,K,rfl⟩;have j9:=(aP (N:=H) (e5:=I) (h6:=K) L.2.1).all;have k0:R.agg (P.sum.map ak)=bz P.sum:=rfl;refine aa ?_;refine ah (zq b A a p (C.mono B) S P.sum L.2.1 aaU) ?_;rintro M N e;have k1:=U.ae (e.1 _ _ V);refine aa ?_;refine ah (t M b N _ n e W y.a aaU aaU) ?_;rintro a3 O f;have k2:=U.ae (f.1 _ _ V);refine aa ?_;refine ah (u a3 b O _ q f v y.b aaU aaU) ?_;rintro a4 k3 Q;refine aa ?_;exact⟨_,U.a6,Q⟩
def iA:(b:Nat)->a1.T b->List (List UInt8)->List (List UInt8)
 |0,c,a=>dS a (bK 0 c).sum
 |b+1,c,a=>(a1.kids c).foldl (λa d=>iA b d a) (dS a (bK (b+1) c).sum)
def jz:(a:Nat)->a1.T a->Nat
 |0,_=>1
 |a+1,b=>1+((a1.kids b).map (jz a)).sum
def Ao {d:Type}{h:List (List UInt8)->d->List (List UInt8)}{k:d->Nat}: ∀(c:List d) (a:List (List UInt8)),(∀b∈c,∀a,(h a b).length<=a.length+k b)->(c.foldl h a).length<=a.length+(c.map k).sum
 | [],a,_=>by simp
 |b::c,a,o=>by
  have r:=o b aaV a;have x:=Ao c (h a b) λb p=>o b (by simp[p]);rw[a7j,a6Q,a7Q];omega
def Ap: ∀(b:Nat) (c:a1.T b) (a:List (List UInt8)),(iA b c a).length<=a.length+jz b c
 |0,c,a=>q5
 |b+1,c,a=>by
  rw[iA,jz];have h:=Ao (h:=λa d=>iA b d a) (k:=jz b) (a1.kids c) (dS a (bK (b+1) c).sum) λd _ a=>Ap b d a;have k:=q5 (e6:=a) (A:=(bK (b+1) c).sum);omega
def Aq {o:Type}{k:List (List UInt8)->o->List (List UInt8)}: ∀(d:List o) (a:List (List UInt8)),(∀c∈d,∀a,(∀b∈a,b.length=32)-> ∀b∈k a c,b.length=32)->(∀b∈a,b.length=32)-> ∀b∈d.foldl k a,b.length=32
 | [],a,_,h=>h
 |c::d,a,h,p=>Aq d (k a c) (λc r=>h c (by simp[r])) (h c aaV a p)
def dp.kids {d a:Nat}{b:a1.T (a+1)} (h:dp d (a+1) b): ∀c∈a1.kids b,dp d a c:=λc k=>(dp.gw (d:=a1.kids b) h c k).1
def Ar {k:Nat} (o:1<=k) (p:k<=8): ∀(b:Nat) (d:a1.T b) (a:List (List UInt8)),dp k b d->(∀r∈a,r.length=32)-> ∀r∈iA b d a,r.length=32
 |0,d,a,h,c=>tx c (kL o p h).sum
 |b+1,d,a,h,c=>by
  rw[iA];exact Aq _ _ (λx y a c=>Ar o p b x a (h.kids x y) c) (tx c (kL o p h).sum)
def a4X (F:1<=e) (G:e<=8) (a:Nat): ∀(d:a1.T a) (x y:R) (k z:U) (c:List (List UInt8)),bA k a d x->kS k z c y->(∀b∈c,b.length=32)->dp e a d->c.length+jz a d<=100000000->
  AC Tryz.prog 16 [y,x] z λX s=>kS k s (iA a d c) X:=by
 induction a with
 |zero=>intro d x y k z c L P f C g;have S:=An F G 0 d x z (L.mono P.1) C;have p:=(kL F G C).sum;obtain⟨Y,l3,Z,T,rfl,i,j⟩:=L;rw[jz]at g;rw[iA];generalize bK 0 d=o at S p|-;refine aK hm x7 ?_;refine ah S ?_;rintro _ t ⟨u,v,T,w,rfl⟩;have j9:=(aP (N:=v) (e5:=T) (h6:=w) p).all;have k0:R.agg (o.sum.map ak)=bz o.sum:=rfl;refine aa ?_;refine ah (zq k t c y (P.mono u) f o.sum p aaU) ?_;rintro A k1 D;have k2:=U.ae (D.1 _ _ i);refine aa ?_;refine gL [1] (λ_:Unit=> [(5,.v (.int .i64 0)),(0,A)]) (λ_=>True) (λ_=>0) () trivial aO ?_;rintro _ _ k3;refine aa ?_;exact⟨_,U.a6,D⟩
 |succ a ih=>
  intro d x y k z c L P f C g;have S:=An F G (a+1) d x z (L.mono P.1) C;have p:=(kL F G C).sum;have I:=C.kids;obtain⟨Y,l4,Z,T,rfl,i,j,k4,k5⟩:=L;have k6:=j.len;rw[jz]at g;rw[iA];generalize bK (a+1) d=o at S p|-;generalize a1.kids d=h at I j k4 k5 k6 g|-;refine aK hm x7 ?_;refine ah S ?_;rintro _ t ⟨u,v,T,w,rfl⟩;have j9:=(aP (N:=v) (e5:=T) (h6:=w) p).all;have k0:R.agg (o.sum.map ak)=bz o.sum:=rfl;refine aa ?_;refine ah (zq k t c y (P.mono u) f o.sum p aaU) ?_;rintro A k1 D;have K:=tx f p;have k7:=q5 (e6:=c) (A:=o.sum);generalize dS c o.sum=M at D K k7|-;have k2:=U.ae (D.1 _ _ i);refine aa ?_;refine cg [1] (λb:Nat×List (List UInt8)×R=> [(5,.v (.int .i64 (b.1:Int))),(0,b.2.2)]) (λb s=>b.1<=h.length/\kS k s b.2.1 b.2.2/\(∀k8∈b.2.1,k8.length=32)/\b.2.1.length+((h.drop b.1).map (jz a)).sum<=100000000/\(h.drop b.1).foldl (λc V=>iA a V c) b.2.1=h.foldl (λc V=>iA a V c) M) (λb=>h.length - b.1) (0,M,A) ⟨⟨a7b _,D,K,by rw[a8a];dsimp only;omega,rfl⟩,aO⟩ ?_;rintro⟨E,l,a3⟩ k9 ⟨l0,m,B,N,W⟩ k3
  dsimp only at l0 m B N W|-
  have l5:=U.ae (m.1 _ _ i);refine aa ?_;refine aH (λV=> ?_) λV=> ?_
  .have n:E<h.length:=aaU;obtain⟨r,q⟩: ∃r,h[E]? =some r:=⟨_,a6y n⟩;have O:h.drop E=r::h.drop (E+1):=by rw[a6Y n];congr 1;rw[a6y n]at q;exact a6x q
   obtain⟨l1,l6,H⟩:=j.get q;have l7:=H.fit;have wl:=H.cells;rw[O,a7j]at W;rw[O,a6Q,a7Q]at N;have l8:=Ap a r l;have Q:=I r (a6D q);refine aa ?_;refine ah (ih r l1 a3 k k9 l H m B Q aaU) ?_;rintro a4 l9 l2;refine aa ?_;exact⟨(E+1,iA a r l,a4),⟨n,l2,Ar F G a r l Q B,by dsimp only;omega,W⟩,⟨rfl,rfl⟩,by dsimp only;omega⟩
  .obtain rfl:E=h.length:=aaU;rw[a8G,a8S]at W;rw[<-W];exact⟨_,U.a6,m⟩
def lN (a:List dr):List R:=a.map dr.V
def As {a:List dr}:(lN a).length=a.length:=by simp[lN]
def Hr {a:List dr}{b:dr} (c:a[e]? =some b):eB 4 (lN a)[e]? =some (.bU b.C):=by obtain⟨d,rfl⟩:=a6H.1 c;rw[show(lN a)[e]? =some (a[e]).V by simp[lN,d]];rfl
end Go.Proofs.YtcfpcblgmmeioaaGreat
