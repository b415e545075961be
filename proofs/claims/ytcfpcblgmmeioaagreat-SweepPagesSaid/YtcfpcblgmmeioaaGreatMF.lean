import Derived.Test.YtcfpcblgmmeioaaGreatME
import Derived.Test.YtcfpcblgmmeioaaGreatMD
import Derived.Test.YtcfpcblgmmeioaaGreatMC
set_option linter.all false
set_option maxRecDepth 100000
namespace Go.Proofs.YtcfpcblgmmeioaaGreat
open Go Go.bD
theorem a0d (D m:Nat) (p:List Int) (E:Own) (x:Nat) (n2:1<=x) (n3:x<=8): ∀(S:Nat) (T:U) (F:ag) (z:aq) (n q s:Own),bq T D m F->z.sum.length=32->z.cv->0<S->z.size<S->
  AC Tryz.prog 169 [dJ D x,.agg (ab z n q s),.J (ad p) E] T λZ b01=>fP T b01 D m (gv x p S F z) Z:=by
 intro S
 induction S with
 |zero=>intro T F z n q s f n4 a27 b61 b02;omega
 |succ S ih=>
 intro T F z n q s f n4 a27 b62 b02;refine bc hm PA aaV ?_;have h: ∀a29,(R.agg a29).cells=a29:=λ_=>rfl;have B: ∀d b c C y a30:R,putAt [d,b,c] 0 [C,y,a30]= [C,y,a30]:=λ_ _ _ _ _ _=>rfl;have G: ∀d b c,aL true 3 [d,b,c]= .agg [d,b,c]:=λ_ _ _=>rfl;have g: ∀d b,aL true 2 [d,b]= .agg [d,b]:=λ_ _=>rfl;have i: ∀d b:R,List.take 2 [d,b]= [d,b]:=λ_ _=>rfl;have V: ∀d b c:R,List.take 3 [d,b,c]= [d,b,c]:=λ_ _ _=>rfl;have H: ∀d b c:R,[d,b,c].length=3:=λ_ _ _=>rfl;have b03: ∀d b c:R,aL false 1 [d,b,c]=d:=λ_ _ _=>rfl;have a34: ∀d b c:R,aL false 1 ([d,b,c].drop 2)=c:=λ_ _ _=>rfl;have a36:=aP (N:=n) (e5:=q) (h6:=s) n4;have a38:=a36.len;refine aj @h ?_;refine aN λj9 a42=> ?_;refine aj (c2 @h @a38) ?_;refine aN λk8 k9=> ?_;have n5:j9≠k8:=by rintro rfl;rw[U.ai]at k9;cases k9
 have b04:T k8=none:=by rw[U.an _ _ (a6I n5)]at k9;exact k9
 obtain⟨I,l0⟩: ∃I:U,I=(T.set j9 (.cells [.ptr D 0,.v (.int .i64 (x))])).set k8 (.cells (ab z n q s)):=⟨_,rfl⟩;have k0:T.sub I:=by rw[l0];exact U.af (U.af U.a6 a42) b04
 have aM:I k8=some (.cells (ab z n q s)):=by rw[l0,U.ai]
 have aE:I j9=some (.cells [.ptr D 0,.v (.int .i64 (x))]):=by rw[l0,U.an _ _ n5,U.ai]
 refine aj (bt @h @a38 @U.an @n5 @U.ai a36.t37 @i @g) ?_;rw[<-l0];refine ah (yk I D m F (f.mono k0) z n q s n4 a27 x n2 n3) ?_;rintro Z n9 ⟨l1,l2⟩;obtain⟨a43,k⟩: ∃a43,a43=gv x p (S+1) F z:=⟨_,rfl⟩;rw[<-k];rw[gv]at k;cases a00:iP F x z with
 |none=>rw[a00]at l2 k;obtain rfl:=l2;simp only at k;subst k;simp -dsimp -implicitDefEqProofs (disch:=first|omega|assumption|(simp only[bd,Nat.reduceAdd];try omega)) only[go_sem,simprocAttr,-List.reduceReplicate,h,B,H];refine aN λK M=> ?_;refine aj (bh @h @B @H @G @U.set_set) ?_;have a47:=U.au (U.au k0 l1) (U.af (X:= .cells [.v (.int .u8 0),.J [] .nil,.J [] .nil]) U.a6 M);exact⟨_,U.a6,f.mono a47,Ext.of a47,aaY,rfl⟩
 |some a=>
  rw[a00]at l2 k;simp only at k;obtain⟨C,y,rfl,b05⟩:=l2;obtain⟨a48,b06⟩:=tc a00;simp -dsimp -implicitDefEqProofs (disch:=first|omega|assumption|(simp only[bd,Nat.reduceAdd];try omega)) only[go_sem,simprocAttr,-List.reduceReplicate,h,B,H];refine aN λK M=> ?_;obtain⟨L,l3⟩: ∃L:U,L=n9.set K (.cells [.v (.int .u8 (a.kind.toNat)),C,y]):=⟨_,rfl⟩;have a01:n9.sub L:=by rw[l3];exact U.af U.a6 M
  have bt:L K=some (.cells [.v (.int .u8 (a.kind.toNat)),C,y]):=by rw[l3,U.ai]
  have a52:=iN a.kind 2 aaU;simp only[a9C]at a52;rw[show UInt8.ofNat 2=2 from rfl]at a52;refine aj (c9 @h @B @H @G @U.set_set @U.ai @b03) ?_;rw[U.set_set,<-l3];obtain⟨b07,l4,P,a02,l5,a56,j,b08,b09⟩:=b05;have b10:fK n9 a C y l4 P:=⟨a56,j,(bJ.dv a02 aaU rfl (a56.cells λ_ _=>cT.cells)).mono l5.1,bJ.dv l5 aaU rfl (j.cells λ_ _=>bB.cells),b08,b09⟩;have k1:=b10.mono a01;have a57:=(f.mono (U.au k0 l1)).cA M;have a61:=f.cA a42;have l6:=U.au k0 (U.au l1 a01);have a62:=a01 _ _ (l1 _ _ aE);have a63:=f.mono l6;by_cases N:a.kind=2
  .rw[if_pos N]at k;have a03:((a.kind.toNat:Int)=2)=True:=by rw[N];simp
   refine aj (c9 @h @B @H @G (U.ae bt) @a03 @V) ?_;refine ah (yj a l4 P C y L k1) ?_;rintro d t ⟨b11,a65,u⟩;have b12:=bJ.dv u aaU rfl (a65.cells λ_ _=>isRow.cells);refine aj @h ?_;have b63:(a.rows.map Prod.fst).length=a.rows.length:=a6J _;obtain⟨b13,b14,_,_⟩:=a48.leaf N;generalize b15:a.rows.map Prod.fst=k2 at*;refine ah (Em k2 b11 d p E t a65 b12 aaU) ?_;rintro _ t ⟨rfl,b64,rfl⟩;have b16:=u.1 _ _ bt;have a04:=u.1 _ _ a62;generalize eT k2 p=o at*;cases a68:kE k2 p with
   |true=>rw[if_pos a68]at k;subst k;refine aj @h ?_;exact⟨_,U.a6,a63.mono u.1,Ext.of (U.au l6 u.1),aaY,rfl⟩
   |false=>
    rw[if_neg (by simp[a68])]at k;have b17:ob 1 U.emp [R.J (ad p) E] (bX (λ_ _=>True) ())=True:=eq_true (eK (by simp[aW,R.cells]) aaV λ_ _=>trivial);refine aj (cN @h (U.ae b16) (U.ae a04) @G @g @i @V @b17 @sd) ?_;refine ah (yj a l4 P C y t (k1.mono u.1)) ?_;rintro a4 b65 ⟨a05,k3,k4⟩;have b18:=k4.1 _ _ a04;refine aj (bx @h (U.ae b18) @G @g @i @V) ?_;rw[b15]at k3;refine eK (by simp[aW,R.cells]) aaV λa06 a69=> ?_;have b19:flat [R.J (ad p) E]= [R.J (ad p) E]:=rfl;rw[b19,a8c];have W:=av.new (ob:= .cells [R.J (ad p) E]) k4 a69;have b20:=U.bI k4.1 a69;rw[nE k3]at W;obtain⟨r,l⟩: ∃r:U,r=t.set a06 (.cells [R.J (ad p) E]):=⟨_,rfl⟩;have a71:t.sub r:=by rw[l];exact U.af U.a6 b20
    have b21:r a06=some (.cells [R.J (ad p) E]):=by rw[l,U.ai]
    rw[<-l]at W;have b66:=k3.len;have l7:=a71 _ _ a04;have a07:=W.1 _ _ l7;refine aj (bx @h (U.ae a07) @G @g @i @V) ?_;refine ah (ZV r _ a05 a4 W (by grind) o aaU aaU _ a06 b21) ?_;intro di a08 v;have b22:=v.1 _ _ l7;have l8:aB isRow (k2.take o++p::k2.drop o) (a05.take o++R.J (ad p) E::a05.drop o):=(k3.take o).append ⟨⟨E,rfl⟩,k3.drop o⟩;rw[<-nE l8]at v;refine aj (bx @h (U.ae b22) @G @g @i @V) ?_;have a73:=U.au l6 (U.au u.1 a71);refine ah (EB r a08 D m F (f.mono a73) _ _ di v x n2 n3 l8 aaW) ?_;intro Z b23 w;rw[<-k]at w;obtain⟨b24,b25,rfl⟩:=w.shape;refine aj @h ?_;exact⟨_,U.a6,fP.base w (Ext.of a73)⟩
  .have l7:=b06.resolve_left N;rw[if_neg N]at k;have a03: ¬(a.kind.toNat:Int)=2:=λe=>N (by simp_all);refine aj (c9 @h @B @H @G (U.ae bt) @a03 @V) ?_;refine ah (El a l4 P C y p E L k1) ?_;rintro _ L ⟨rfl,rfl⟩;obtain⟨b67,b13,b14,b26⟩:=a48.inner l7;have a09:hG p a<a.kids.length:=by grind[yr,List.length_map]
   generalize hG p a=o at*;have a10:=a6y a09;have a74:a.kids[o]'a09∈a.kids:=a6Z _;rw[a10]at k;simp only at k;generalize a.kids[o]'a09=c at a10 a74 k;obtain⟨b68,b27,a81,b28,O,Q,X,rfl⟩:=k1.kids.get a10;obtain⟨_,_,_,b69,b70⟩:=b26 c a74;obtain⟨Y,l9⟩: ∃Y:U,Y=b07.set K (.cells [.v (.int .u8 (a.kind.toNat)),C,y]):=⟨_,rfl⟩;have n0:=av.new (ob:= .cells [.v (.int .u8 (a.kind.toNat)),C,y]) l5 M;rw[<-l3,<-l9]at n0;have b29:=U.bI l5.1 M;have a83:=U.au k0 a02.1;have a84:T.sub Y:=by rw[l9];exact U.af a83 (U.bI a83 b29)
   have b30:Y K=some (.cells [.v (.int .u8 (a.kind.toNat)),C,y]):=by rw[l9,U.ai]
   have a07:Y j9=some (.cells [.ptr D 0,.v (.int .i64 (x))]):=by
    have:j9≠K:=by grind
    rw[l9,U.an _ _ this];exact a02.1 _ _ aE
   have b31:=dn.of n0 (f.mono a84) Ext.refl;obtain⟨b71,b32,a86⟩:=k1.gJ.get o _ b27;have a88:=aP (N:=O) (e5:=Q) (h6:=X) a81;have b33:(R.agg (ab c O Q X)).cells=ab c O Q X:=rfl;rw[b33]at a86;have a89:=a86.ld L U.a6 true 37 aaU (by rw[a88.len];omega);rw[show aL true 37 (ab c O Q X)= .agg (ab c O Q X) by rw[aL,if_pos rfl,a88.t37]]at a89;refine aj (cd @h (U.ae bt) (U.ae a62) @G @g @i @V @a34 @b32 @a89) ?_;refine ah (ih L F c O Q X a63 a81 b28 aaU aaU) ?_;intro Z t a11;have a90:=λk5 k6 e=>ys x p S F k5 c k6 e;generalize gv x p S F c=b34 at k a11 a90;obtain⟨res,k5⟩:=b34;cases res with
   |error b72=>obtain⟨n1,b35,a92,rfl⟩:=a11;simp only at k n1;subst k;refine aj (c2 @h @a92) ?_;exact⟨_,U.a6,n1,(Ext.of l6).trans b35,a92,rfl⟩
   |ok k6=>
    obtain⟨k7,b73,a13,rfl,⟨b74,a14,a15,a94⟩,_⟩:=a11;obtain⟨b75,b76⟩:=a90 k5 k6 rfl;simp only at k a15;have b36:=a13.len;have b37:(flat k7).length=k6.length*37:=by rw[cR (a13.cells λ_ _=>bB.cells),b36]
    have b38:(flat P).length=a.kids.length*37:=by rw[cR (j.cells λ_ _=>bB.cells),j.len]
    obtain⟨A,a95,a96,a16,rfl,a97,b39,b40,b41,b42,b43,b44⟩:=av.ao a14 (by grind);have b45:=a94.trans (Ext.of a14.1);have n1:=a15.mono a14.1;obtain⟨b46,k4,b47,b48⟩:=b31.step b45 n1;have a18:=a15.cA a97;have b49:L A=none:=by
     cases b50:L A with
     |none=>rfl
     |some b77=>have:=a94 _ _ a18.1 a18.2 b50;rw[a97]at this;cases this
    have b51: ∀b a98 a99,y= .ao b a98 a99 37->b≠A:=by
     rintro b a98 a99 rfl rfl;rcases n0.2 with ⟨_,e|e⟩|⟨b78,_,_,_,e,_,b79,_⟩
     .cases e
     .cases e
     simp_all
    obtain⟨r,l⟩: ∃r:U,r=b46.set A (.cells a16):=⟨_,rfl⟩;have W:=av.add k4 b39 b51;rw[<-l]at W;have b52:r A=some (.cells a16):=by rw[l,U.ai]
    have b53:av (λ_=>none) r 37 (flat k7) (.ao A a95 a96 37):=⟨(λ_ _ e=>by cases e),.inr ⟨A,a95,a96,a16,rfl,rfl,b52,b40,b41,b42,b43,b44⟩⟩;have b54:bq r D m k5:=by rw[l];exact b47.set a18
    have b55:=U.bI n0.1 b49;have a19:Ext D m Y r:=by rw[l];exact b48.set b55
    have b56:=a19 _ _ a57.1 a57.2 b30;have b00:=a19 _ _ a61.1 a61.2 a07;have b57:=W.1 _ _ b56;have b58:=W.1 _ _ b00;simp -dsimp -implicitDefEqProofs (disch:=first|omega|assumption|(simp only[bd,Nat.reduceAdd];try omega)) only[go_sem,simprocAttr,-List.reduceReplicate,h,U.ae b57,U.ae b58,G,g,i,V,a34];refine ah (EA _ r t (flat P) (flat k7) y _ a.kids.length k6.length o (o+1) _ rfl W b38 b53 b37 aaU aaU aaU aaU aaU) ?_;intro di a08 v;have b59:=v.1 _ _ b00;have b60:(flat P).take (o*37)++(flat k7++(flat P).drop ((o+1)*37))=flat (P.take o++(k7++P.drop (o+1))):=by rw[(fX o (j.cells λ_ _=>bB.cells)).2,(fX (o+1) (j.cells λ_ _=>bB.cells)).1];simp[flat]
    rw[b60]at v;have l8:=(j.take o).append (a13.append (j.drop (o+1)));refine aj (bx @h (U.ae b59) @G @g @i @V) ?_;refine ah (EC r a08 D m k5 b54 _ _ di v x n2 n3 l8 aaW) ?_;intro Z b23 w;rw[<-k]at w;obtain⟨b24,b25,rfl⟩:=w.shape;refine aj @h ?_;exact⟨_,U.a6,fP.base w ((Ext.of a84).trans a19)⟩
def lz (a:Nat) (d:List Int) (h:ag) (b:aq):Except Int aq×ag:=
 if b=az then dB h a (cU [d])
 else match gv a d (b.size.toNat+1) h b with
  |(.error k,c)=>(.error k,c)
  |(.ok bF,c)=>hi a (bF.length+1) c bF
variable{w j3:aq}{g B c0:List R}{N e5 h6:Own}
def r8.lt (a:r8 w N e5 h6 g):g.length=37/\g.take 37=g:=⟨a.len,a.t37⟩
def a0e (C:U) (d h:Nat) (x:ag) (W:bq C d h x) (b:aq) (G L P:Own) (n:b.sum.length=32) (M:b.cv) (c:List Int) (S:Own) (a:Nat) (q:1<=a) (s:a<=8) (a05:c.length=a):
  AC Tryz.prog 106 [.ptr d 0,.agg (ab b G L P),.J (ad c) S,.v (.int .i64 (a:Int))] C λk N=>bq N d h (lz a c x b).2/\Ext d h C N/\gR (lz a c x b).1 k:=by
 have a06:=(aP (N:=G) (e5:=L) (h6:=P) n).lt;have a07:=(aP (N:= .nil) (e5:= .nil) (h6:= .nil) bj).lt;have a08:=ch;have t:=λO Q X Y u=>cy (a:= .nil) (b:= .nil) (c:= .nil) (w:=O) (N:=Q) (e5:=X) (h6:=Y) bj u;have a09:=t az .nil .nil .nil bj;generalize l1:ab az .nil .nil .nil=v at*;obtain⟨Z,p⟩: ∃Z,lz a c x b=Z:=⟨_,rfl⟩;rw[p];unfold lz at p;have a10:oE (a) [c]=true:=by simp[oE];omega
 have j9:aB isRow [c] [R.J (ad c) S]:=⟨⟨S,rfl⟩,trivial⟩;have k0:aW 1 [R.J (ad c) S]:=by simp[aW,R.cells]
 refine aK hm NR ?_;refine bp λk1 l2=> ?_;refine cZ λT w _ _=> ?_;refine uz λl3 l4 _ _ _ _=> ?_;generalize e:((C.set k1 _).set T _).set l3 _=D;have k2:C.sub D:=by subst e;exact aO
 have bh:D k1=some (.cells (ab b G L P)):=by subst e;exact aO
 have bt:D T=some (.cells v):=by subst e;exact aO
 clear e;have E:=W.cA w;have a11:= @U.set_set;refine np (yg a [c] _ _ D j9 (bJ.J k0) aaV) ?_;refine bp λk3 f=> ?_;have a13:=U.gZ f bh;obtain⟨z,A⟩: ∃z,D.set k3 (.cells [.ptr d 0,.v (.int .i64 (a))])=z:=⟨_,rfl⟩;have g:D.sub z:=by rw[<-A];exact U.af U.a6 f
 have cd:z k3=some (.cells [.ptr d 0,.v (.int .i64 (a))]):=by rw[<-A,U.ai]
 have l5:=U.ae cd;have a14:=rd g bh;have i:=U.au k2 g;have k4:=W.cA (U.bI k2 f);have k5: ∀(y) (r) (res) (k),bq r d h y->Ext d h z r->gR res k-> ∃o F,o.length=37/\o.take 37=o/\putAt v 0 o=o/\k= .aJ [.agg o,.v (.int .i64 F)]/\eg r T=some v/\bq (r.set T (.cells o)) d h y/\Ext d h C (r.set T (.cells o)):=by intro y r res k j k6 l6;obtain⟨O,Q,X,Y,F,B,rfl⟩:=l6.shape;exact⟨_,F,(aP B).len,(aP B).t37,t _ _ _ _ B,rfl,U.aI (k6 _ _ E.1 E.2 (g _ _ bt)),j.set E,((Ext.of i).trans k6).set w⟩
 refine np (my b G L P z n M) ?_;clear l2 f l4 A t;refine aH (λH=> ?_) λH=> ?_
 .rw[if_pos H]at p;refine jM λa15 l7=> ?_;have j:=U.af (X:= .buf 1 1 1) (U.a6) l7;refine cl (yi _ d h x (W.mono (U.au i j)) [c] _ _ a q s j9 (bJ.J k0) aaV) ?_;rintro k r ⟨l,m,V⟩;rw[p]at l V;obtain⟨o,F,l8,l9,n0,rfl,n1,I,td⟩:=k5 _ r _ k l ((Ext.of j).trans m) V;refine aa ?_;exact⟨_,U.a6,I,td⟩
 rw[if_neg H]at p;refine cl (a0d d h c S a q s (b.size.toNat+1) z x b G L P (W.mono i) n M aaU aaU) ?_;intro k r K;have k7:=λy n2 u=>ys a c (b.size.toNat+1) x y b n2 u;generalize gv a c (b.size.toNat+1) x b=n3 at K k7 p;obtain⟨res,y⟩:=n3;cases res with
 |error F=>obtain⟨l,m,n4,rfl⟩:=K;subst p;have a16:=U.aI (m _ _ E.1 E.2 (g _ _ bt));refine aa ?_;exact⟨_,U.a6,l.set E,((Ext.of i).trans m).set w,n4,by rw[l1]⟩
 |ok bF=>
  obtain⟨n5,a18,k8,rfl,k9,_⟩:=K;obtain⟨_,a19⟩:=k7 y bF rfl;have l5:=U.ae (k9.ext _ _ k4.1 k4.2 cd);obtain⟨n9,a00,a01,a02⟩:=k9.ta k8;refine cl (AC.nF (g:= [_]) a00 (Ex n9 d h y a01 bF n5 .any a q s k8 aaU)) ?_;rintro k a03 ⟨l0,a04,V⟩
  dsimp only at p
  rw[p]at l0 V;obtain⟨o,F,l8,l9,n0,rfl,n1,I,td⟩:=k5 _ a03 _ k l0 (a02.trans a04) V;refine aa ?_;exact⟨_,U.a6,I,td⟩
end Go.Proofs.YtcfpcblgmmeioaaGreat
namespace Go.bD
open Go
variable{n b6:R}{f s e0:U}{g B c0:List R}{e i v M b9 j2:Nat}
theorem av.emp (b:av e0 f e g n) (k: ∀a c d,n= .ao a c d e->s a=f a):av (λ_=>none) s e g n:=by
 refine⟨(λ_ _ b=>by cases b),?_⟩;rcases b.2 with h|⟨a,c,d,o,rfl,p,r,x⟩
 .exact .inl h
 grind
theorem av.put {a:R} (h:av s f e (flat g) (.ao v M b9 e)) (z:0<e) (d:aW e g) (C:g[i]? =some n) (o:a.cells.length=e):
  ∃b,f v=some (.cells b)/\i*e+e<=b.length/\M=g.length/\av s (f.set v (.cells (putAt b (i*e) a.cells))) e (flat (g.set i a)) (.ao v M b9 e):=by
 obtain⟨D,c⟩:=h;rcases c with ⟨_,c|c⟩|⟨W,j,l,b,p,r,E,F,G,m,x,L⟩
 .cases c
 .cases c
 simp only[R.ao.injEq,and_true]at p;obtain⟨rfl,rfl,rfl⟩:=p;have y:=(a6H.1 C).1;have q:=cR d;have P:M=g.length:=a8Y z aaU;subst P;have t:i*e+e<=g.length*e:=by rw[<-a9R];exact a6O _ y
 have u:g.length*e<=b9*e:=a6O _ x;refine⟨b,E,aaU,rfl,U.af D r,.inr ⟨v,g.length,b9,_,rfl,r,U.ai _ _ _,by rw[eI _ _ _ aaU];exact F,?_,?_,x,L⟩⟩
 .have k:g.set i a=g.take i++a::g.drop (i+1):=by rw[a7R,if_pos y]
  have S:flat (g.take i++a::g.drop (i+1))=(flat g).take (i*e)++a.cells++(flat g).drop ((i+1)*e):=by rw[(fX i d).2,(fX (i+1) d).1];simp[flat]
  rw[k,S,putAt,o,<-G];have w:(b.take (i*e)++a.cells).length=i*e+e:=by grind
  grind[List.take_append,List.take_of_length_le,Nat.min_eq_left,List.drop_take,Nat.succ_mul]
 .have T:aW e (g.set i a):=λk V=>by
   rcases a8J V with h|rfl
   .exact d k h
   .exact o
  rw[cR T,a9z]
end Go.bD
namespace Go.Proofs.YtcfpcblgmmeioaaGreat
open Go Go.bD
structure ij where
 leaf:Bool
 rows:List (List Int)
 kids:List aq
structure iQ (a:U) (x:ij) (d h:R) (b c:List R):Prop where
 r:aB isRow x.rows b
 k:aB bB x.kids c
 aj:bJ a 1 d b
 v8:bJ a 37 h c
 oH:jT a 1 d x.rows.length b
 jU:jT a 37 h x.kids.length (flat c)
 kB:x.rows.length<=1000
 hZ:x.kids.length<=1000
def iQ.mono {c d:U}{h:ij}{k o:R}{p r:List R} (a:iQ c h k o p r) (b:c.sub d):iQ d h k o p r:=⟨a.r,a.k,a.aj.mono b,a.v8.mono b,a.oH.mono b,a.jU.mono b,a.kB,a.hZ⟩
variable{n b6:R}{f s e0:U}{g B c0:List R}
theorem iQ.of {s:U}{a:ij} (b:aB isRow a.rows g) (c:aB bB a.kids B) (d:av f s 1 (flat g) n) (h:av e0 s 37 (flat B) b6) (o:a.rows.length<=1000) (p:a.kids.length<=1000):iQ s a n b6 g B:=by obtain⟨r,x,k⟩:=d.aj aaU;obtain⟨y,z,C⟩:=h.aj aaU;rw[nE b]at x k;rw[cR (c.cells λ_ _=>bB.cells)]at z;have:=b.len;have:=c.len;obtain rfl:r=a.rows.length:=aaU;obtain rfl:y=a.kids.length:=aaU;exact⟨b,c,bJ.dv d aaU rfl (b.cells λ_ _=>isRow.cells),bJ.dv h aaU rfl (c.cells λ_ _=>bB.cells),k,C,o,p⟩
def hj (a:bY):ij:=⟨decide (a.kind=2),a.rows.map Prod.fst,a.kids⟩
def kF (b:ag) (c:Nat) (a d:ij):Except Int (List aq)×ag:=if a.leaf=true then oF b c (a.rows++d.rows)else jS b c (a.kids++d.kids)
theorem a0f (d:U) (r W:Nat) (e:ag) (K:bq d r W e) (a b:ij) (f g D i j:R) (j9 k0 k1 k2:List R) (k:iQ d a f g j9 k0) (o:iQ d b i j k1 k2) (k8:D.cells= [D]) (p:Nat) (M:1<=p) (N:p<=8):
  AC Tryz.prog 284 [dJ r p,.agg [.v (.bool a.leaf),f,g],.agg [D,i,j]] d λv k3=>fP d k3 r W (kF e p a b) v:=by
 refine bc hm SI aaV ?_;have c: ∀O,(R.agg O).cells=O:=λ_=>rfl;have l: ∀a b:R,List.take 2 [a,b]= [a,b]:=λ_ _=>rfl;have m: ∀a b,aL true 2 [a,b]= .agg [a,b]:=λ_ _=>rfl;have Q: ∀a b z:R,aL false 1 [a,b,z]=a:=λ_ _ _=>rfl;have X: ∀a b z:R,aL false 1 ([a,b,z].drop 1)=b:=λ_ _ _=>rfl;have Y: ∀a b z:R,aL false 1 ([a,b,z].drop 2)=z:=λ_ _ _=>rfl;refine aj @c ?_;refine aN λn k9=> ?_;refine aj @c ?_;refine aN λE q=> ?_;have F:n≠E:=by rintro rfl;rw[U.ai]at q;cases q
 have l0:d E=none:=by rw[U.an _ _ (a6I F)]at q;exact q
 refine aj @c ?_;refine aN λG s=> ?_;have w:E≠G:=by rintro rfl;rw[U.ai]at s;cases s
 have A:n≠G:=by rintro rfl;rw[U.an _ _ F,U.ai]at s;cases s
 have l1:d G=none:=by simp_all [U.an,a6I]
 obtain⟨C,x⟩: ∃C:U,C=((d.set n (.cells [.ptr r 0,.v (.int .i64 (p))])).set E (.cells [.v (.bool a.leaf),f,g])).set G (.cells [D,i,j]):=⟨_,rfl⟩;have Z:d.sub C:=by grind[U.af,U.a6]
 have aE:C n=some (.cells [.ptr r 0,.v (.int .i64 (p))]):=by rw[x,U.an _ _ A,U.an _ _ F,U.ai]
 have aM:C E=some (.cells [.v (.bool a.leaf),f,g]):=by rw[x,U.an _ _ w,U.ai]
 have bh:C G=some (.cells [D,i,j]):=by rw[x,U.ai]
 unfold kF;have l2:=k.kB;have l3:=o.kB;have l4:=k.hZ;have l5:=o.hZ;cases t:a.leaf with
 |true=>rw[t]at aM x;refine aj (cd @c @U.an @F @A @w @U.ai @Q @X @Y @t) ?_;rw[<-x];refine dF U.a6 (by intro k4 L;simp only[a6W,a7V,or_false]at L;rcases L with rfl|rfl;(·rw[k.oH.one];rfl);(·rw[o.oH.one];rfl)) λB P S=> ?_;have h:=U.au Z S.sub;have T:=S.sub _ _ aE;simp -dsimp -implicitDefEqProofs (disch:=first|omega|assumption|(simp only[bd,Nat.reduceAdd];try omega)) only[go_sem,simprocAttr,-List.reduceReplicate,c,U.ae T,m,l];refine ah (ZY P _ _ B _ _ _ _ (k.oH.mono h) (o.oH.mono h) aaU aaU) ?_;intro di H y;have I:=y.1 _ _ T;have u:=k.r.append o.r;rw[<-nE u]at y;simp -dsimp -implicitDefEqProofs (disch:=first|omega|assumption|(simp only[bd,Nat.reduceAdd];try omega)) only[go_sem,simprocAttr,-List.reduceReplicate,c,U.ae I,m,l];refine ah (EB P H r W e (K.mono h) _ _ di y p M N u (by rw[a6A];omega)) ?_;intro v k5 V;obtain⟨k6,k7,rfl⟩:=V.shape;refine aj @c ?_;exact⟨_,U.a6,fP.base V (Ext.of h)⟩
 |false=>rw[t]at aM x;refine aj (cd @c @U.an @F @A @w @U.ai @Q @X @Y @t) ?_;rw[<-x];refine dF U.a6 (by intro k4 L;simp only[a6W,a7V,or_false]at L;rcases L with rfl|rfl;(·rw[k.jU.one];rfl);(·rw[o.jU.one];rfl)) λB P S=> ?_;have h:=U.au Z S.sub;have T:=S.sub _ _ aE;simp -dsimp -implicitDefEqProofs (disch:=first|omega|assumption|(simp only[bd,Nat.reduceAdd];try omega)) only[go_sem,simprocAttr,-List.reduceReplicate,c,U.ae T,m,l];refine ah (a0a P _ _ B _ _ _ _ (k.jU.mono h) (o.jU.mono h) aaU aaU) ?_;intro di H y;have I:=y.1 _ _ T;have u:=k.k.append o.k;rw[<-ph]at y;simp -dsimp -implicitDefEqProofs (disch:=first|omega|assumption|(simp only[bd,Nat.reduceAdd];try omega)) only[go_sem,simprocAttr,-List.reduceReplicate,c,U.ae I,m,l];refine ah (EC P H r W e (K.mono h) _ _ di y p M N u (by rw[a6A];omega)) ?_;intro v k5 V;obtain⟨k6,k7,rfl⟩:=V.shape;refine aj @c ?_;exact⟨_,U.a6,fP.base V (Ext.of h)⟩
def jV (d:ag) (k:Nat) (h:List aq) (a:Nat) (b:ij):Except Int (List aq)×ag:=
 if 2<=b.rows.length+b.kids.length then
  match mz d k b.leaf b.rows b.kids with
  |(.error o,c)=>(.error o,c)
  |(.ok r,c)=>(.ok (h.set a r),c)
 else match h[if a=0 then 1 else a - 1]? with
  |none=>(.error 21,d)
  |some x=>match iP d k x with
   |none=>(.error 21,d)
   |some p=>match kF d k (if a=0 then b else hj p) (if a=0 then hj p else b)with
    |(.error o,c)=>(.error o,c)
    |(.ok y,c)=>(.ok (h.take (a - 1)++(y++h.drop (a - 1+2))),c)
def a0g (k b:U) (c d:Nat) (h:Except Int (List aq)×ag) (o:R):Prop:=
 match h.1 with
 | .error p=>bq b c d h.2/\Ext c d k b/\p≠0/\ ∃a,o= .aJ [a,.v (.int .i64 p)]/\a.cells= [a]
 | .ok bF=> ∃r a,aB bB bF r/\o= .aJ [a,.v (.int .i64 0)]/\dn k b c d h.2 37 (flat r) a
theorem aB.set {c:Type}{d:c->R->Prop}: ∀ {k:List c}{o:List R}{p:c}{r:R} (b:Nat),aB d k o->d p r->aB d (k.set b p) (o.set b r)
 | [],[],_,_,_,a,_=>a
 | _:: _,_:: _,_,_,0,a,h=>⟨h,a.2⟩
 | _:: _,_:: _,_,_,b+1,a,h=>⟨a.1,aB.set b a.2 h⟩
variable{e i v M b9 j2:Nat}{H:ag}
theorem EE {h:ag}{b c:ij}{d:List aq} (a:kF H e b c=(.ok d,h)) (o:b.rows.length<=1000/\c.rows.length<=1000/\b.kids.length<=1000/\c.kids.length<=1000):d.length<=501:=by
 unfold kF at a;split at a
 .rename_i k;have:=pO a;rw[this];simp only[a6G,a7c,a1.chunks,(mB).1,a1.bS,a6A];omega
 .rename_i k;have:=pO a;rw[this];simp only[a6G,a7c,a1.chunks,(mB).1,a1.bS,a6A];omega
def bB.c {a:List aq} (b:aB bB a g):aW 37 g:=b.cells λ_ _=>bB.cells
def Ext.no (b:Ext i v f s) (a:e≠i/\e≠v) (c:s e=none):f e=none:=by
 cases d:f e with
 |none=>rfl
 |some h=>have:=b _ _ a.1 a.2 d;rw[c]at this;cases this
theorem a0h (V C r:U) (D E:Nat) (I W:ag) (d k:List aq) (h:List R) (x e:Nat) (F:R) (G:dn V C D E I 37 (flat h) (.ao x d.length e 37)) (c:aB bB d h) (K:fP C r D E (.ok k,W) (.aJ [F,.v (.int .i64 0)])) (b a:Nat) (y:Int) (f:y=(a:Int)) (g:b<a) (i:a<=d.length) (l1:d.length<=1000) (l2:k.length<=501):
  AC Tryz.prog 230 [.ao x d.length e 37,.v (.int .i64 (b:Int)),.v (.int .i64 y),F] r λM N=> ∃j,aB bB (d.take b++(k++d.drop a)) j/\dn V N D E W 37 (flat j) M:=by
 obtain⟨o,F,L,P,⟨l3,S,l,m⟩,O⟩:=K;simp only[R.aJ.injEq,a8X,and_true]at P;subst P;have l4:=c.len;have Q:=L.len;have l5:=cR (bB.c c);have X:(flat o).length=k.length*37:=by rw[cR (bB.c L),Q]
 have Y: ∃n,C x=some (.cells n):=by obtain⟨_,Z,_⟩:=G;obtain⟨_,_,_,n,P,_,q,_⟩:=Z.ao (by grind);simp_all
 obtain⟨j9,s,t,u⟩:=G.step (m.trans (Ext.of S.1)) (l.mono S.1);by_cases v:k= []
 .subst v;obtain rfl:=O rfl;refine(ZW _ r (flat h) _ d.length b a y f s aaU g i aaU).mono λdi k0 p=> ?_;rw[(fX b (bB.c c)).2,(fX a (bB.c c)).1,<-ph]at p;exact⟨_,(c.take b).append (c.drop a),_,p,t,u⟩
 have l6:=a7B.2 v;obtain⟨z,w,A,B,rfl,H,k1,k2,k3,k4,k5,k6⟩:=av.ao S (by grind);have T:=l.cA H;have k7:=m.no T H;obtain⟨l7,l8⟩:=Y;have l9:x≠z:=by grind
 have k8:=av.add s k1 (by simp_all);have k9:av (λ_=>none) (j9.set z (.cells B)) 37 (flat o) (.ao z w A 37):=⟨(λ_ _ q=>by cases q),.inr ⟨z,w,A,B,rfl,rfl,U.ai _ _ _,k2,k3,k4,k5,k6⟩⟩;refine(EA _ _ r (flat h) (flat o) _ _ d.length k.length b a y f k8 aaU k9 X aaU g i aaU aaU).mono λdi k0 p=> ?_;have l0:(flat h).take (b*37)++(flat o++(flat h).drop (a*37))=flat (h.take b++(o++h.drop a)):=by rw[(fX b (bB.c c)).2,(fX a (bB.c c)).1];simp[flat]
 rw[l0]at p;exact⟨_,(c.take b).append (L.append (c.drop a)),_,p,t.set T,u.set (G.ext.no T k7)⟩
theorem a0i (H I:U) (D W:Nat) (y:ag) (k8:bq H D W y) (z:List aq) (K:List R) (a11:R) (k9:av H I 37 (flat K) a11) (S:aB bB z K) (b:ij) (E F:R) (a13 a14:List R) (T:iQ I b E F a13 a14) (b41:2<=z.length) (a94:z.length<=1000) (a:Nat) (b42:a<z.length) (d:Nat) (l0:1<=d) (l1:d<=8):
  AC Tryz.prog 235 [dJ D d,a11,.v (.int .i64 (a:Int)),.agg [.v (.bool b.leaf),E,F]] I λl l2=>a0g H l2 D W (jV y d z a b) l:=by
 have b43:=S.len;have a95:=k8.mono k9.1;have b44:=cR (bB.c S);obtain⟨l3,a96,a15,b45,rfl,b46,b47,a16,a97,a98,m,b48⟩:=av.ao k9 (by grind);obtain rfl:a96=z.length:=aaU;have b49:=T.kB;have b50:=T.hZ;have b51:=(aP (N:= .nil) (e5:= .nil) (h6:= .nil) bj).len;obtain⟨a18,h⟩: ∃a18,jV y d z a b=a18:=⟨_,rfl⟩;rw[h];rw[jV]at h;clear a16 a97 a98;refine aK hm Rt ?_;refine bp λa19 a27=> ?_;refine cZ λa29 a30 _ _=> ?_;have M:=U.af (X:= .cells [.v (.bool b.leaf),E,F]) (U.af (X:= .cells [.ptr D 0,.v (.int .i64 (d))]) (U.a6) a27) a30;obtain⟨C,N⟩: ∃C:U,(I.set a19 (.cells [.ptr D 0,.v (.int .i64 (d))])).set a29 (.cells [.v (.bool b.leaf),E,F])=C:=⟨_,rfl⟩;rw[N]at M|-;have aM:C a19=some (.cells [.ptr D 0,.v (.int .i64 (d))]):=by rw[<-N,U.an _ _ aaX,U.ai]
 have c9:C a29=some (.cells [.v (.bool b.leaf),E,F]):=by rw[<-N,U.ai]
 have a99:=U.ae aM;have b00:=U.ae c9;clear N a27 a30;have l4:=av.mono k9 M;have a34:=dn.of l4 k8 Ext.refl;have n:=T.mono M;have l5:=a95.mono M;refine np (ZQ (.v (.bool b.leaf)) E F _ _ T.oH.one T.jU.one rfl T.oH.len T.jU.len aaU aaU C) ?_;refine aH (λa36=> ?_) λa36=> ?_
 .rw[if_pos aaU]at h;refine cl (Ek C D W y l5 b.leaf b.rows a13 E b.kids a14 F d l0 l1 n.r n.aj aaU n.k n.v8 aaU) ?_;rintro l l6 ⟨a38,b01,O⟩;generalize mz y d b.leaf b.rows b.kids=l7 at*;obtain⟨res,q⟩:=l7
  dsimp only at a38 O
  obtain⟨Q,o,p,r,b02,l8,rfl⟩:=O.shape;have b03:=(aP (N:=o) (e5:=p) (h6:=r) l8).len;have b52:=(aP (N:=o) (e5:=p) (h6:=r) l8).t37;have b53:putAt (ab az .nil .nil .nil) 0 (ab Q o p r)=ab Q o p r:=cy bj l8;have b54:=ch;generalize ab az .nil .nil .nil=b55 at*;refine aa ?_;refine bp λb56 b04=> ?_;obtain⟨b05,b06,a42,a43⟩:=dn.mono (a34.step b01 a38) (U.af (X:= .cells (ab Q o p r)) U.a6 b04);obtain⟨b57,b07,b58,-,l9⟩:=av.put (a:= .agg (ab Q o p r)) b06 aaU (bB.c S) (a6y (show a<K.length by omega)) b03;have b59:cC 37 (.ao l3 z.length a15 37) (.v (.int .i64 (a)))=some (.ptr l3 (a*37)):=by simp_all [jJ]
  have b60:=U.aI b07;have b08:=a43.trans (Ext.of l9.1);refine aa ?_;refine⟨_,U.a6,?_⟩;subst h;cases res with
  |error b61=>obtain⟨n0,x⟩:=O;simp only[R.aJ.injEq,a8X,R.v.injEq,Value.int.injEq,true_and,and_true]at x;obtain⟨_,rfl⟩:=x;exact⟨a42.mono l9.1,b08,n0,_,rfl,rfl⟩
  |ok b62=>obtain⟨b09,b10,b11,b12,b13,x⟩:=O;simp only[R.aJ.injEq,a8X,R.v.injEq,Value.int.injEq,true_and,and_true,R.agg.injEq]at x;obtain⟨x,rfl⟩:=x;exact⟨_,_,aB.set a S ⟨b09,b10,b11,b12,b13,by rw[x]⟩,rfl,⟨b05,l9,a42,a43⟩⟩
 rw[if_neg aaU]at h;have b63:max ((a:Int) - 1) 0=((a - 1:Nat)):=aaU;obtain⟨e,f⟩: ∃e,(if a=0 then 1 else a - 1)=e:=⟨_,rfl⟩;rw[f]at h;refine om [1,2,4,7,12] (λ_:Unit=> [(13,.v (.int .i64 (e)))]) (λ_ l2=>l2=C) (λk=> ?_) (λk=> ?_) ?_
 .rw[if_pos (by have:=of_decide_eq_true k;omega)]at f;subst f;exact aO
 .rw[if_neg (by have:=of_decide_eq_false k;omega)]at f;subst f;exact aO
 rintro _ C rfl b14;have b15:e<z.length:=by rw[<-f];split<;>omega
 have n1:=a6y b15;rw[n1]at h
 dsimp only at h
 generalize z[e]=G at*;obtain⟨b64,a47,a48,b16,o,p,r,rfl⟩:=S.get n1;obtain⟨b17,b18,n2⟩:=(bJ.dv l4 aaU rfl (bB.c S)).get e _ a47;have a52:=aP (N:=o) (e5:=p) (h6:=r) a48;change mx C b17 (ab G o p r)at n2;have a56:=n2.ld C U.a6 true 37 aaU (by rw[a52.len];omega);rw[show aL true 37 (ab G o p r)= .agg (ab G o p r) by rw[aL,if_pos rfl,a52.t37]]at a56;refine cl (yk C D W y l5 G o p r a48 b16 d l0 l1) ?_;rintro l a57 ⟨a61,x⟩;cases n3:iP y d G with
 |none=>rw[n3]at x h;obtain rfl:=x;subst h;refine aa ?_;refine bp λn4 X=> ?_;have a62:=λG=>U.au l4.1 (U.au a61 (U.af (X:=G) U.a6 X));exact⟨_,U.a6,k8.mono (a62 _),Ext.of (a62 _),aaY,_,rfl,rfl⟩
 |some c=>
 rw[n3]at x h
 dsimp only at h
 obtain⟨Y,g,rfl,b19⟩:=x;obtain⟨b20,b65⟩:=tc n3;obtain⟨b66,b67,b68⟩:=kz b20.ok;clear a56 b18 n2 a99 b00 a36 a47 n1;refine aa ?_;refine bp λn4 X=> ?_;obtain⟨s,n5⟩: ∃s,a57.set n4 (.cells [.v (.int .u8 (c.kind.toNat)),Y,g])=s:=⟨_,rfl⟩;have n9:a57.sub s:=by rw[<-n5];exact U.af U.a6 X
 have gl:s n4=some (.cells [.v (.int .u8 (c.kind.toNat)),Y,g]):=by rw[<-n5,U.ai]
 have a00:=U.au a61 n9;obtain⟨b69,a63,a65,b21,a01,a68,Z,b22,b23⟩:=b19;have a69:=fK.mono ⟨a68,Z,(bJ.dv b21 aaU rfl (a68.cells λ_ _=>cT.cells)).mono a01.1,bJ.dv a01 aaU rfl (bB.c Z),b22,b23⟩ n9;have m:=rd a00 c9;have b24:=U.ae gl;have b70:= @sd;refine cl (yl c a63 a65 Y g s a69) ?_;rintro _ j9 ⟨a71,b71,rfl,b25,a73⟩;clear n5 X;have t:=a73.1;have u:=t _ _ (a00 _ _ c9);have m:=U.ae u;refine aa ?_;refine bp λw a02=> ?_;have b72:=U.gZ a02 u;refine cZ λA a03 _ _=> ?_;have b73:=U.gZ a03 u;have b26:= @U.set_set;obtain⟨V,k0⟩: ∃V,(j9.set w (.cells [.v (.bool (decide (c.kind=2))),a71,g])).set A (.cells [.v (.bool b.leaf),E,F])=V:=⟨_,rfl⟩;have L:j9.sub V:=by rw[<-k0];exact U.af (U.af U.a6 a02) a03
 have ml:V w=some (.cells [.v (.bool (decide (c.kind=2))),a71,g]):=by rw[<-k0,U.an _ _ aaX,U.ai]
 have nn:V A=some (.cells [.v (.bool b.leaf),E,F]):=by rw[<-k0,U.ai]
 have a74:=U.au a00 t;have a81:=n.mono a74;have a83:=av.mono a01 (U.au n9 t);have k1:(hj c).rows.length<=1000/\(hj c).kids.length<=1000:=by simp[hj];omega
 refine aa ?_;clear b26 m;refine om [1,4,12,16,17] (λ_:Unit=> []) (λ_ P=>j9.sub P/\ ∃k2 k3 B k4 k5 a04 a05 a06 a07,P w=some (.cells [.v (.bool (if a=0 then b else hj c).leaf),k2,k3])/\P A=some (.cells [B,k4,k5])/\B.cells= [B]/\iQ P (if a=0 then b else hj c) k2 k3 a04 a05/\iQ P (if a=0 then hj c else b) k4 k5 a06 a07) (λk=> ?_) (λk=> ?_) ?_
 .have k:=of_decide_eq_true k;have k:a=0:=aaU;simp only[if_pos k];have m:=rd L u;have b24:=rd (U.au t L) gl;refine cl (yl c a63 a65 Y g V (a69.mono (U.au t L))) ?_;rintro _ l6 ⟨b74,b75,rfl,b27,i⟩;have m:=rd i.1 (L _ _ u);have b76:=U.aI (i.1 _ _ ml);have b77: ∀a84,eg (l6.set w a84) A=some [.v (.bool b.leaf),E,F]:=λa84=>U.aI (by rw[U.an _ _ aaX];exact i.1 _ _ nn);have k6: ∀G a86,j9.sub ((l6.set w G).set A a86):=λG a86 b78 v a08=>by
   rw[U.an _ _ (U.gZ a03 a08),U.an _ _ (U.gZ a02 a08)];exact i.1 _ _ (L _ _ a08)
  refine aa ?_;refine⟨(),_,_,_,_,_,_,_,_,_,rfl,rfl,rfl,a81.mono (k6 _ _),iQ.of b27 Z (av.emp i ?_) (av.mono a83 (k6 _ _)) k1.1 k1.2⟩;rintro b28 b79 b80 rfl;have a88:V b28=none:=by
   rcases i.2 with ⟨_,j|j⟩|⟨b81,_,_,_,j,b82,_⟩
   .cases j
   .cases j
   simp_all
  rw[U.an _ _ (U.gZ a88 nn).symm,U.an _ _ (U.gZ a88 ml).symm]
 .have k:=of_decide_eq_false k;have k: ¬a=0:=aaU;simp only[if_neg k];refine aa ?_;subst k0;exact⟨(),_,_,_,_,_,_,_,_,_,rfl,rfl,rfl,iQ.of b25 Z (a73.mono L) (a83.mono L) k1.1 k1.2,a81.mono L⟩
 rintro _ P ⟨k6,k2,k3,B,k4,k5,a04,a05,a06,a07,ml,nn,b29,b30,b31⟩ b14;have b32:(if a=0 then b else hj c).rows.length<=1000/\(if a=0 then hj c else b).rows.length<=1000/\(if a=0 then b else hj c).kids.length<=1000/\(if a=0 then hj c else b).kids.length<=1000:=by split<;>omega
 have b33:=λq k7 j=>EE (H:=y) (h:=q) (e:=d) (d:=k7) j b32;generalize (if a=0 then b else hj c)=a89 at*;generalize (if a=0 then hj c else b)=a90 at*;have a09:=U.au a74 k6;have a16:=rd a09 aM;have b83:=U.ae ml;have b84:=U.ae nn;refine cl (a0f P D W y (l5.mono a09) a89 a90 k2 k3 B k4 k5 a04 a05 a06 a07 b30 b31 b29 d l0 l1) ?_;intro l b34 a10;generalize kF y d a89 a90=l7 at*;obtain⟨res,q⟩:=l7;have a92:=dn.mono a34 a09;cases res with
 |error b02=>obtain⟨b35,b36,n0,rfl⟩:=a10;subst h;refine aa ?_;exact⟨_,U.a6,b35,a92.ext.trans b36,n0,_,rfl,rfl⟩
 |ok k7=>obtain⟨_,a3,_,rfl,_⟩:=id a10;have b37:=b33 q k7 rfl;have b38:((a - 1:Nat))+2=((a - 1+2:Nat):Int):=rfl;refine cl (a0h H P b34 D W y q z k7 K l3 a15 a3 a92 S a10 (a - 1) (a - 1+2) _ b38 aaU aaU a94 b37) ?_;rintro l b85 ⟨b86,b39,b40⟩;subst h;refine aa ?_;exact⟨_,U.a6,_,_,b39,rfl,b40⟩
end Go.Proofs.YtcfpcblgmmeioaaGreat
set_option maxHeartbeats 1000000
namespace Go.bD
open Go
variable{n b6:R}{f s e0:U}{g B c0:List R}{e i v M b9 j2:Nat}
theorem av.ns (x:av s f e g n): ∃d:U,av d f e g n/\d.sub f/\s.sub d/\ ∀a,(∀b h k,n= .ao b h k e->b≠a)->d a=f a:=by
 obtain⟨p,o⟩:=x;rcases o with o|⟨b,h,k,y,rfl,z,C,D⟩
 .exact⟨f,⟨U.a6,.inl o⟩,U.a6,p,λ_ _=>rfl⟩
 .have r:(f.del b).sub f:=λa E c=>by
   grind[U.iB,U.eH]
  refine⟨f.del b,⟨r,.inr ⟨b,h,k,y,rfl,U.iB _ _,C,D⟩⟩,r,λa E c=> ?_,λa c=>U.eH _ (a6I (c _ _ _ rfl))⟩;have F:a≠b:=by rintro rfl;rw[z]at c;cases c
  rw[U.eH _ F];exact p _ _ c
theorem av.own (c:av f s i g (.ao e v M i)):f e=none/\ ∃b,s e=some (.cells b):=by
 rcases c.2 with ⟨_,a|a⟩|⟨d,h,k,b,o,p,r,_⟩
 .cases a
 .cases a
 simp_all
end Go.bD
namespace Go.Proofs.YtcfpcblgmmeioaaGreat
open Go Go.bD
def ik (d:Nat) (c:List Int):Nat->ag->aq->Except Int ij×ag
  |0,b,_=>(.error 21,b)
  |p+1,b,r=>match iP b d r with
    |none=>(.error 21,b)
    |some a=>
      if a.kind=2 then
        (if kE (a.rows.map Prod.fst) c=true then(.ok ⟨true,(a.rows.map Prod.fst).take (eT (a.rows.map Prod.fst) c)++(a.rows.map Prod.fst).drop (eT (a.rows.map Prod.fst) c+1),a.kids⟩,b)
         else(.error 9,b))
      else match a.kids[hG c a]? with
        |none=>(.error 21,b)
        |some x=>match ik d c p b x with
          |(.error h,k)=>(.error h,k)
          |(.ok y,k)=>match jV k d a.kids (hG c a) y with
            |(.error h,o)=>(.error h,o)
            |(.ok bF,o)=>(.ok ⟨false,a.rows.map Prod.fst,bF⟩,o)
def a0j (x c:U) (d h:Nat) (k:Except Int ij×ag) (o:R):Prop:=
 bq c d h k.2/\Ext d h x c/\match k.1 with
 | .error p=>p≠0/\ ∃y a b,o= .aJ [.agg [y,a,b],.v (.int .i64 p)]
 | .ok r=> ∃a b z C,o= .aJ [.agg [.v (.bool r.leaf),a,b],.v (.int .i64 0)]/\iQ c r a b z C
variable{e i v M b9 j2:Nat}{H:ag}
theorem a0k {h:ag}{c d:List aq}{b:ij} (a:jV H e c i b=(.ok d,h)) (o:c.length<=4) (p:b.rows.length<=1000/\b.kids.length<=1000):d.length<=1000:=by
 unfold jV at a;split at a;grind
 .rename_i r;split at a
  .simp_all
  .split at a
   .simp_all
   .rename_i x k;obtain⟨y,z,C⟩:=kz (tc k).1.ok;grind[Prod.mk.inj,Except.ok.inj,EE,hj,List.length_append,List.length_take,List.length_drop]
theorem a0l (E T:Nat) (L:List Int) (a42:Own) (F:Nat) (a98:1<=F) (a99:F<=8): ∀(m:Nat) (f:U) (n:ag) (g:aq) (l6 l7 l8:Own),bq f E T n->g.sum.length=32->g.cv->0<m->g.size<m->
  AC Tryz.prog 172 [dJ E F,.agg (ab g l6 l7 l8),.J (ad L) a42] f λl9 b27=>a0j f b27 E T (ik F L m n g) l9:=by
 intro m
 induction m with
 |zero=>intros;omega
 |succ m ih=>
 intro f n g l6 l7 l8 P b00 b28 b64 b65;have n0:=(aP (N:=l6) (e5:=l7) (h6:=l8) b00).lt;have b29:= @U.set_set;have b66:= @sd;obtain⟨b01,b⟩: ∃b01,ik F L (m+1) n g=b01:=⟨_,rfl⟩;rw[b];rw[ik]at b;refine aK hm PH ?_;refine bp λa43 b02=> ?_;refine cZ λb30 b31 _ _=> ?_;refine ha λx Q _ _ _ _=> ?_;generalize A:((f.set a43 _).set b30 _).set x _=n1;have n2:f.sub n1:=by subst A;exact aO
 have aE:n1 a43=some (.cells [.ptr E 0,.v (.int .i64 (F))]):=by subst A;exact aO
 have bx:n1 x=some (.cells [.v (.bool false),.J [] .nil,.J [] .nil]):=by subst A;exact aO
 clear A;have b03:=P.cA b02;have C:=P.cA Q;refine cl (yk n1 E T n (P.mono n2) g l6 l7 l8 b00 b28 F a98 a99) ?_;rintro l9 a47 ⟨a48,n3⟩;have k3:=a48 _ _ bx;have b04:=U.au n2 a48;clear b02 b31;cases a52:iP n F g with
 |none=>rw[a52]at n3 b;obtain rfl:=n3;subst b;refine aa ?_;refine bp λn4 k4=> ?_;have b05:=λb32=>U.au b04 (U.af (X:=b32) U.a6 k4);have b33:=U.gZ k4 k3;have k5: ∀k,eg (a47.set n4 k) x=some [.v (.bool false),.J [] .nil,.J [] .nil]:=λk=>U.aI (by rw[U.an _ _ b33];exact k3);refine aa ?_;exact⟨_,U.a6,(P.mono (b05 _)).set C,(Ext.of (b05 _)).set Q,aaY,_,_,_,rfl⟩
 |some p=>
  rw[a52]at n3 b
  dsimp only at b
  obtain⟨n5,y,rfl,b67,b06,n9,k6,q,b07,X,b34,b35⟩:=n3;obtain⟨b08,b36⟩:=tc a52;obtain⟨b68,b69,b70⟩:=kz b08.ok;refine aa ?_;refine bp λn4 k4=> ?_;obtain⟨k7,a56⟩: ∃k7,a47.set n4 (.cells [.v (.int .u8 (p.kind.toNat)),n5,y])=k7:=⟨_,rfl⟩;have B:a47.sub k7:=by rw[<-a56];exact U.af U.a6 k4
  have bt:k7 n4=some (.cells [.v (.int .u8 (p.kind.toNat)),n5,y]):=by rw[<-a56,U.ai]
  have b09:=fK.mono ⟨b07,X,(bJ.dv k6 aaU rfl (b07.cells λ_ _=>cT.cells)).mono q.1,bJ.dv q aaU rfl (bB.c X),b34,b35⟩ B;have a57:=U.ae bt;refine cl (yl p b06 n9 n5 y k7 b09) ?_;rintro _ b10 ⟨S,a61,rfl,s,H⟩;clear a56 k4 a57;refine aa ?_;refine bp λG k8=> ?_;obtain⟨D,a00⟩: ∃D,b10.set G (.cells [.v (.bool (decide (p.kind=2))),S,y])=D:=⟨_,rfl⟩;rw[b29,a00];have i:b10.sub D:=by rw[<-a00];exact U.af U.a6 k8
  have cd:D G=some (.cells [.v (.bool (decide (p.kind=2))),S,y]):=by rw[<-a00,U.ai]
  clear a00;have I:=H.1;have a01:=U.au b04 B;have Y:=U.au a01 (U.au I i);have a02:=U.au B (U.au I i);have a62:=U.bI (U.au a01 I) k8;have V:=P.cA a62;have a03:=a02 _ _ k3;have a63:=a02 _ _ (a48 _ _ aE);have a65:=U.gZ k8 (I _ _ (B _ _ k3));have k9:=U.ae cd;have k5:=U.aI a03;have a04: ∀a c d,y= .ao a c d 37->a≠E/\a≠T/\a≠x/\a≠G/\a≠a43:=by
   rintro a c d rfl;obtain⟨h,a68,z⟩:=q.own;have a69:=k6.1 _ _ bx;have a71:=k6.1 _ _ aE;have K:=(P.mono (U.au n2 k6.1)).cA h;refine⟨K.1,K.2,?_,?_,?_⟩
   .rintro rfl;rw[a69]at h;cases h
   .rintro rfl;rw[I _ _ (B _ _ z)]at k8;cases k8
   .rintro rfl;rw[a71]at h;cases h
  have a05: ∀a c d,S= .ao a c d 1->a≠E/\a≠T/\a≠x/\a≠G/\ ∀M Z j9,y= .ao M Z j9 37->M≠a:=by
   rintro a c d rfl;obtain⟨h,a68,z⟩:=H.own;have K:=(P.mono a01).cA h;refine⟨K.1,K.2,?_,?_,?_⟩
   .rintro rfl;rw[B _ _ k3]at h;cases h
   grind
   .rintro M Z j9 rfl rfl;obtain⟨_,b71,r⟩:=q.own;rw[B _ _ r]at h;cases h
  refine aH (λl0=> ?_) λl0=> ?_
  .rw[if_pos l0]at b;have b72:(p.rows.map Prod.fst).length=p.rows.length:=a6J _;generalize b37:p.rows.map Prod.fst=l1 at*;refine cl (Em l1 a61 S L a42 D s ((bJ.dv H aaU rfl (s.cells λ_ _=>isRow.cells)).mono i) aaU) ?_;rintro _ D ⟨rfl,b73,rfl⟩;have b38:kE l1 L=true->eT l1 L<l1.length:=λo=>by
    grind[kE,List.getElem?_eq_some_iff]
   generalize eT l1 L=W at*;refine aa ?_;refine aH (λa06=> ?_) λa06=> ?_
   .rw[if_neg (by simp[a06])]at b;subst b;exact⟨_,U.a6,(P.mono Y).set C,(Ext.of Y).set Q,aaY,_,_,_,rfl⟩
   .rw[if_pos a06]at b;have b74:=b38 a06;obtain⟨b39,b11,b75,_,b40⟩:=av.ns (av.mono H i);rw[nE s]at b11;have b76:=s.len;refine cl (ZU b39 D a61 S b11 W aaU aaU) ?_;intro a5 t N;have b12:=(s.take W).append (s.drop (W+1));rw[<-nE b12]at N;have a07: ∀j k,D j=some k->(∀a c d,S= .ao a c d 1->a≠j)->t j=some k:=λj k o b41=>N.1 _ _ (by rw[b40 j b41];exact o);have a08:=a07 _ _ cd λa c d o=>(a05 a c d o).2.2.2.1;have a09:=a07 _ _ a03 λa c d o=>(a05 a c d o).2.2.1;have u:f.sub t:=λj k l2=>a07 j k (Y _ _ l2) (by
     rintro a c d rfl rfl;have:=H.own.1;rw[a01 _ _ l2]at this;cases this)
    have b77:=fJ N;obtain⟨e,l⟩: ∃e,(t.set G (.cells [.v (.bool true),a5,y])).set x (.cells [.v (.bool true),a5,y])=e:=⟨_,rfl⟩;have k5: ∀k,eg (t.set G k) x=some [.v (.bool false),.J [] .nil,.J [] .nil]:=λk=>U.aI (by rw[U.an _ _ a65];exact a09);have b13:=U.aI a08;have b14:e.read x=some [.v (.bool true),a5,y]:=U.ae (by rw[<-l,U.ai]);clear b37 k9;refine aa ?_;refine⟨e,U.a6,?_⟩;subst b;refine⟨by rw[<-l];exact((P.mono u).set V).set C,by rw[<-l];exact((Ext.of u).set a62).set Q,a5,y,_,n9,rfl,iQ.of b12 X (av.emp N ?_) (av.emp q ?_) aaW aaW⟩
    .rintro a c d rfl;have l3:=N.own.1;have h:a≠G:=by grind
     have z:a≠x:=by grind
     rw[<-l,U.an _ _ z,U.an _ _ h]
    .rintro a c d rfl;obtain⟨_,a68,r⟩:=q.own;have v:=a04 _ _ _ rfl;rw[<-l,U.an _ _ v.2.2.1,U.an _ _ v.2.2.2.1,r];exact a07 _ _ (a02 _ _ r) λM Z j9 o=>a6I ((a05 M Z j9 o).2.2.2.2 _ _ _ rfl)
  .rw[if_neg l0]at b;rw[decide_eq_false l0]at cd k9;have b78:=s.len;have a57:=rd (U.au I i) bt;refine cl (El p b06 n9 n5 y L a42 D (b09.mono (U.au I i))) ?_;rintro _ D ⟨rfl,rfl⟩;obtain⟨-,a69,a71,K⟩:=b08.inner (b36.resolve_left l0);have a10:hG L p<p.kids.length:=by grind[yr,List.length_map]
   generalize hG L p=W at*;have a73:=a6y a10;have b15:p.kids[W]'a10∈p.kids:=a6Z _;rw[a73]at b;simp only at b;generalize p.kids[W]'a10=k0 at a73 b15 b;obtain⟨b79,b42,b16,b43,h,z,r,rfl⟩:=X.get a73;obtain⟨_,_,_,b80,b81⟩:=K k0 b15;have b17:=av.mono q a02;obtain⟨b44,b45,b82,_,l4⟩:=b17.ns;have b18:f.sub b44:=λj k l2=>by
    rw[l4 j (by
     rintro a c d rfl rfl;have:=q.own.1;rw[k6.1 _ _ (n2 _ _ l2)]at this;cases this)]
    exact Y _ _ l2
   have b19:=(l4 _ λa c d o=>(a04 a c d o).2.2.2.1).trans cd;have b20:=(l4 _ λa c d o=>(a04 a c d o).2.2.1).trans a03;have b83:=(l4 _ λa c d o=>(a04 a c d o).2.2.2.2).trans a63;have b46:=P.mono Y;have a74:=U.ae a63;obtain⟨b47,b48,a81⟩:=(bJ.dv b17 aaU rfl (bB.c X)).get W _ b42;have b21:=aP (N:=h) (e5:=z) (h6:=r) b16;change mx D b47 (ab k0 h z r)at a81;have b22:=a81.ld D U.a6 true 37 aaU (by rw[b21.len];omega);rw[show aL true 37 (ab k0 h z r)= .agg (ab k0 h z r) by rw[aL,if_pos rfl,b21.t37]]at b22;refine aa ?_;refine cl (ih D n k0 h z r b46 b16 b43 aaU aaU) ?_;intro l9 t k1;generalize ik F L m n k0=a83 at k1 b;obtain⟨res,a84⟩:=a83;obtain⟨a11,u,k1⟩:=k1
   dsimp only at a11 k1 b
   have a09:=u _ _ C.1 C.2 a03;have a08:=u _ _ V.1 V.2 cd;have b23:=u _ _ b03.1 b03.2 a63;clear a74 a57 k9 b22 b48 a81;cases res with
   |error b49=>obtain⟨a86,a,a13,a14,rfl⟩:=k1;subst b;refine aa ?_;refine bp λa15 w=> ?_;have b50:=U.gZ w a09;have k5: ∀k,eg (t.set a15 k) x=some [.v (.bool false),.J [] .nil,.J [] .nil]:=λk=>U.aI (by rw[U.an _ _ b50];exact a09);have b24:=a11.cA w;have A:=(Ext.of Y).trans u;refine aa ?_;exact⟨_,U.a6,(a11.set b24).set C,(A.set (A.no b24 w)).set Q,a86,_,_,_,rfl⟩
   |ok a16=>
    obtain⟨a13,a14,b51,b52,rfl,a88⟩:=k1
    dsimp only at b
    refine aa ?_;refine bp λa15 w=> ?_;obtain⟨e,l⟩: ∃e,t.set a15 (.cells [.v (.bool a16.leaf),a13,a14])=e:=⟨_,rfl⟩;have a18:t.sub e:=by rw[<-l];exact U.af U.a6 w
    have b53:e.read a15=some [.v (.bool a16.leaf),a13,a14]:=U.ae (by rw[<-l,U.ai]);have k9:=rd a18 a08;have a74:=rd a18 b23;have b84:=U.gZ w a08;have b85:=U.gZ w b23;have b54:=dn.mono ((dn.of b45 (P.mono b18) Ext.refl).step u a11) a18;obtain⟨b25,N,b55,a19⟩:=b54;refine cl (a0i b25 e E T a84 b55 p.kids n9 y N X a16 a13 a14 b51 b52 (a88.mono a18) a69 aaU W a10 F a98 a99) ?_;intro l9 O n0;clear l w b53 k9 a74;have a27:=λl5 a89 o=>a0k (H:=a84) (h:=l5) (e:=F) (i:=W) (d:=a89) o a71 ⟨a88.kB,a88.hZ⟩;generalize jV a84 F p.kids W a16=a83 at b n0 a27;obtain⟨res,l5⟩:=a83;have a29: ∀(a30),bq O E T l5->Ext E T b25 O->O x=some (.cells [.v (.bool false),.J [] .nil,.J [] .nil])/\O G=some (.cells [.v (.bool false),S,y])/\
      ∃k2:U,(O.set G (.cells [.v (.bool false),S,a30])).set x (.cells [.v (.bool false),S,a30])=k2/\k2.read x=some [.v (.bool false),S,a30]/\bq k2 E T l5/\Ext E T f k2:=by
     intro a30 h z;have r:=a19.trans z;exact⟨r _ _ C.1 C.2 b20,r _ _ V.1 V.2 b19,_,rfl,U.ae (U.ai _ _ _),(h.set V).set C,((((Ext.of b18).trans r).set a62).set Q)⟩
    cases res with
    |error b49=>
     obtain⟨b26,b56,a86,a34,rfl,b57⟩:=n0
     dsimp only at b b26
     subst b;obtain⟨a90,a92,k2,a94,b14,a95,a96⟩:=a29 a34 b26 b56;have k5: ∀k,eg (O.set G k) x=some [.v (.bool false),.J [] .nil,.J [] .nil]:=λk=>U.aI (by rw[U.an _ _ a65];exact a90);have b13:=U.aI a92;clear a27 a29;refine aa ?_;exact⟨_,U.a6,a95,a96,a86,_,_,_,rfl⟩
    |ok a89=>
     obtain⟨b58,a34,b59,rfl,a36⟩:=n0;have b60:=a27 l5 a89 rfl
     dsimp only at b a36
     subst b;obtain⟨a90,a92,k2,a94,b14,a95,a96⟩:=a29 a34 a36.fO a36.ext;have k5: ∀k,eg (O.set G k) x=some [.v (.bool false),.J [] .nil,.J [] .nil]:=λk=>U.aI (by rw[U.an _ _ a65];exact a90);have b13:=U.aI a92;obtain⟨b86,a38,b87,a97⟩:=a36;have b57:=fJ a38;clear a27 a29;refine aa ?_;have b61:=a19.trans (a97.trans (Ext.of a38.1));refine⟨_,U.a6,a95,a96,S,a34,a61,b58,rfl,iQ.of s b59 (av.emp (av.mono H i) ?_) (av.emp a38 ?_) aaW b60⟩
     .rintro a c d rfl;have v:=a05 _ _ _ rfl;obtain⟨_,a68,r⟩:=H.own;rw[<-a94,U.an _ _ v.2.2.1,U.an _ _ v.2.2.2.1,i _ _ r];exact b61 _ _ v.1 v.2.1 (by rw[l4 _ (λM Z j9 o=>v.2.2.2.2 M Z j9 o)];exact i _ _ r)
     .rintro a c d rfl;have l3:=a38.own.1;have b62:=a97 _ _ V.1 V.2 (a19 _ _ V.1 V.2 b19);have b63:=a97 _ _ C.1 C.2 (a19 _ _ C.1 C.2 b20);have h:a≠G:=by rintro rfl;rw[b62]at l3;cases l3
      have z:a≠x:=by rintro rfl;rw[b63]at l3;cases l3
      rw[<-a94,U.an _ _ z,U.an _ _ h]
def lA (d:Nat) (k:List Int) (h:ag) (c:aq):Except Int aq×ag:=
 if c=az then(.error 9,h)
 else match ik d k (c.size.toNat+1) h c with
  |(.error o,b)=>(.error o,b)
  |(.ok a,b)=>
   if a.leaf=true/\a.rows.length=0 then(.ok az,b)
   else if a.leaf=false/\a.kids.length=1 then(.ok (a.kids.headD az),b)
   else mz b d a.leaf a.rows a.kids
def a0m (V:U) (x W:Nat) (L:ag) (H:bq V x W L) (c:aq) (e f g:Own) (I:c.sum.length=32) (k3:c.cv) (o:List Int) (n:Own) (b:Nat) (k4:1<=b) (k5:b<=8) (a14:o.length=b):
  AC Tryz.prog 108 [.ptr x 0,.agg (ab c e f g),.J (ad o) n,.v (.int .i64 (b:Int))] V λK k6=>bq k6 x W (lA b o L c).2/\Ext x W V k6/\gR (lA b o L c).1 K:=by
 have a15:=(aP (N:=e) (e5:=f) (h6:=g) I).lt;have a16:=(aP (N:= .nil) (e5:= .nil) (h6:= .nil) bj).lt;have a18:=ch;have M:=λN d h k i=>cy (a:= .nil) (b:= .nil) (c:= .nil) (w:=N) (N:=d) (e5:=h) (h6:=k) bj i;have a19:=M az .nil .nil .nil bj;generalize O:ab az .nil .nil .nil=k7 at*;obtain⟨k8,a⟩: ∃k8,lA b o L c=k8:=⟨_,rfl⟩;rw[a];unfold lA at a;have a27:oE (b) [o]=true:=by simp[oE];omega
 refine aK hm NV ?_;refine bp λk9 n3=> ?_;refine cZ λQ P _ _=> ?_;refine uz λn4 a29 _ _ _ _=> ?_;generalize y:((V.set k9 _).set Q _).set n4 _=E;have q:V.sub E:=by subst y;exact aO
 have bh:E k9=some (.cells (ab c e f g)):=by subst y;exact aO
 have bt:E Q=some (.cells k7):=by subst y;exact aO
 clear y;have l0:=H.mono q;have r:=H.cA P;have l1:=U.ae bh;have X:=U.aI bt;have n5:= @U.set_set;refine np (yg b [o] [.J (ad o) n] _ E ⟨⟨n,rfl⟩,trivial⟩ (bJ.J (by simp[aW,R.cells])) aaV) ?_;refine np (my c e f g E I k3) ?_;refine aH (λY=> ?_) λY=> ?_
 .rw[if_pos Y]at a;subst a;exact⟨_,U.a6,l0.set r,(Ext.of q).set P,aaY,by rw[O]⟩
 rw[if_neg Y]at a;refine bp λl2 s=> ?_;have a30:=U.gZ s bh;obtain⟨j,z⟩: ∃j,E.set l2 (.cells [.ptr x 0,.v (.int .i64 (b))])=j:=⟨_,rfl⟩;have t:E.sub j:=by rw[<-z];exact U.af U.a6 s
 have cd:j l2=some (.cells [.ptr x 0,.v (.int .i64 (b))]):=by rw[<-z,U.ai]
 have l3:=U.ae cd;have l1:=rd t bh;refine cl (a0l x W o n b k4 k5 (c.size.toNat+1) j L c e f g (l0.mono t) I k3 aaU aaU) ?_;intro K Z C;generalize ik b o (c.size.toNat+1) L c=n9 at C a;obtain⟨res,a00⟩:=n9;obtain⟨u,j9,C⟩:=C
 dsimp only at u C a
 have v:=j9 _ _ r.1 r.2 (t _ _ bt);have l4:=H.cA (U.bI q s);have a01:=j9 _ _ l4.1 l4.2 cd;have y:=(Ext.of (U.au q t)).trans j9;clear z l3 l1;cases res with
 |error a02=>obtain⟨a03,a34,w,l,rfl⟩:=C;subst a;refine aa ?_;refine bp λA S=> ?_;have l5:=u.cA S;have a04:=U.gZ S v;have X: ∀l6,eg (Z.set A l6) Q=some k7:=λl6=>U.aI (by rw[U.an _ _ a04];exact v);refine aa ?_;exact⟨_,U.a6,(u.set l5).set r,(y.set (y.no l5 S)).set P,a03,by rw[O]⟩
 |ok T=>
  obtain⟨w,l,a05,a06,rfl,p⟩:=C
  dsimp only at a
  refine aa ?_;refine bp λA S=> ?_;obtain⟨F,B⟩: ∃F,Z.set A (.cells [.v (.bool T.leaf),w,l])=F:=⟨_,rfl⟩;have D:Z.sub F:=by rw[<-B];exact U.af U.a6 S
  have a36:F.read A=some [.v (.bool T.leaf),w,l]:=U.ae (by rw[<-B,U.ai]);have l3:=rd D a01;have X:=U.aI (D _ _ v);have k0:=u.mono D;have k1:=y.trans (Ext.of D);have a38:=p.oH.len;have a42:=p.jU.len;have a43:=p.kB;have a47:=p.hZ;rw[n5,B];clear S s n3 B;refine aH (λG=> ?_) λG=> ?_
  all_goals refine aH (λc2=> ?_) λc2=> ?_
  .rw[if_pos ⟨G,aaU⟩]at a;subst a;exact⟨_,U.a6,k0.set r,k1.set P,bj,pM,.nil,.nil,.nil,by rw[O]⟩
  rotate_left
  .obtain⟨m,l7⟩:=a8B.1 (show T.kids.length=1 by omega);rw[if_neg (by simp[G]),if_pos ⟨G,aaU⟩,l7]at a;subst a;obtain⟨a48,a07,k2,a08,d,h,k,rfl⟩:=p.k.get (show T.kids[0]? =some m by rw[l7];rfl);obtain⟨l8,l9,n0⟩:=(p.v8.mono D).get 0 _ a07;have z:=aP (N:=d) (e5:=h) (h6:=k) k2;change mx F l8 (ab m d h k)at n0;have l9:cC 37 l (.v (.int .i64 0))=some l8:=l9;have a09:=n0.ld F U.a6 true 37 aaU (by rw[z.len];omega);rw[show aL true 37 (ab m d h k)= .agg (ab m d h k) by rw[aL,if_pos rfl,z.t37]]at a09;have a10:=M m d h k k2;have z:=z.lt;refine aa ?_;exact⟨_,U.a6,k0.set r,k1.set P,k2,a08,d,h,k,rfl⟩
  all_goals
   rw[if_neg (by rintro⟨i,a11⟩;first|omega|simp[G]at i),if_neg (by rintro⟨i,a11⟩;first|omega|simp[G]at i),G]at a;subst a;refine cl (Ek F x W a00 k0 _ T.rows a05 w T.kids a06 l b k4 k5 p.r (p.aj.mono D) aaU p.k (p.v8.mono D) aaU) ?_;rintro K a52 ⟨a13,n1,C⟩;have X:=U.aI (n1 _ _ r.1 r.2 (D _ _ v));obtain⟨N,d,h,k,a02,n2,rfl⟩:=C.shape;have a56:=(aP (N:=d) (e5:=h) (h6:=k) n2).lt;have a10:=M N d h k n2;refine aa ?_;exact⟨_,U.a6,a13.set r,(k1.trans n1).set P⟩
end Go.Proofs.YtcfpcblgmmeioaaGreat
namespace Go.bD
open Go
end Go.bD
namespace Go.Proofs.YtcfpcblgmmeioaaGreat
open Go Go.bD
inductive pR where
 |row (r:List Int)
 |gw (k:aq)
def a0n (h:pR) (b:R):Prop:=
 match h with
 | .row c=>c≠ []/\ ∃d,d≠ .nil/\b= .agg (.J (ad c) d::ab az .nil .nil .nil)
 | .gw a=>a.sum.length=32/\a.cv/\ ∃k o p,b= .agg (.J [] .nil::ab a k o p)
abbrev a0o (a b:Nat) (c:List R) (d:Own):List R:= [.ptr a 0,.v (.int .i64 (b:Int)),.J c d]
def EF (b:U) (c d h:Nat) (k:List pR):Prop:= ∃a o,b c=some (.cells (a0o d h a o))/\aB a0n k a
structure te where
 A:List pR
 B:List pR
 gone:List (List Int)
 tf:List (List Int)
 nG:Int
abbrev a0p (a b:Nat) (c d:List R) (h k:Own) (o:Int):List R:= [.ptr a 0,.ptr b 0,.J c h,.J d k,.v (.int .i64 o)]
structure a6i (h k:U) (W o p z C d:Nat) (w:te):Prop where
 sub:h.sub k
 va:h W=none
 na:h o=none
 nb:h p=none
 a6j:o≠p
 a:EF k o z d w.A
 b:EF k p C d w.B
 w: ∃mo eZ r gx,k W=some (.cells (a0p o p mo r eZ gx w.nG))/\aB isRow w.gone mo/\aB isRow w.tf r/\bf h k 1 mo eZ/\bf h k 1 r gx/\ ∀x c y D,eZ= .buf x c->gx= .buf y D->x≠y
end Go.Proofs.YtcfpcblgmmeioaaGreat
namespace Go.bD
open Go
end Go.bD
namespace Go.Proofs.YtcfpcblgmmeioaaGreat
open Go Go.bD
variable{w j3:aq}{e i v M b9 j2:Nat}{b4:bY}{H:ag}
def re (a:dA H e w=some b4):pQ e w b4:=by
 unfold dA at a;split at a
 .cases a
 .split at a
  .cases a
  .split at a
   .rename_i b;obtain rfl:=a6x a;exact v7 b
   .cases a
end Go.Proofs.YtcfpcblgmmeioaaGreat
namespace Go.bD
open Go
end Go.bD
namespace Go.Proofs.YtcfpcblgmmeioaaGreat
open Go Go.bD
def wt:pR->Nat
 | .row _=>1
 | .gw a=>if 1<=a.size/\a.size<=1048576 then 3*a.size.toNat - 1 else 1
def kG (a:List pR):Nat:=(a.map wt).sum
structure Bd (w a:te):Prop where
 wt:kG a.A+kG a.B<kG w.A+kG w.B
 rows:a.gone.length+a.tf.length+(kG a.A+kG a.B)<=w.gone.length+w.tf.length+(kG w.A+kG w.B)
 nG:w.nG<=a.nG/\a.nG+2*(kG a.A+kG a.B:Nat)<=w.nG+2*(kG w.A+kG w.B:Nat)
end Go.Proofs.YtcfpcblgmmeioaaGreat
namespace Go.bD
open Go
theorem a0q (a:Nat) (c:a<18446744073709551616):a^^^9223372036854775808=(a+9223372036854775808)%18446744073709551616:=by
 have h:(9223372036854775808)=2^63:=aaY;have d:(18446744073709551616)=2^64:=aaY;rw[d]at c;rw[h,d];apply a9a;intro b;rw[a9T,aaN,aaj,aaa];by_cases h1:b<63
 .rw[aa2 h1];grind
 .by_cases k:b=63;grind
  .have o: ¬b<64:=aaU;have p:a.testBit b=false:=a8C (a7L c (a8o aaU aaU));grind
end Go.bD
namespace Go.Proofs.YtcfpcblgmmeioaaGreat
open Go Go.bD
theorem EG (a:Int):(cq a:Int)=(a+9223372036854775808)%18446744073709551616:=by grind[BitVec.ofInt,BitVec.toNat_ofInt,cq,BitVec.toNat_xor,a0q]
def a0r (a:Int):IntKind.u64.wrap (IntKind.u64.wrap a+9223372036854775808)=(cq a:Int):=by rw[EG,kt,kt];omega
variable{b1:Int}
theorem EH (a: -9223372036854775808<=b1) (b:b1<9223372036854775808):(cq b1:Int)=b1+9223372036854775808:=by rw[EG];omega
variable{b0:Type}
theorem a0s {a b:List b0}{d:b0} (h:a.length=b.length) (k: ∀c<a.length,a.getD c d=b.getD c d):a=b:=
 aad h λc o p=>by grind
theorem tg (a c:List Int) (o p:Own) (h:U) (D:a.length<=1000000000000):
  AC Tryz.prog 61 [.J (ad a) o,.J (ad c) p] h λr x=>x=h/\r= .v (.bool (decide (a=c))):=by
 have E:=bM (q:=a);have F:=bM (q:=c);have G:= @dP a;have L:= @dP c;refine aK hm Mp ?_;refine aH (λy=> ?_) λy=> ?_
 .exact aV (by grind)
 refine gL [0,1] (λb:Nat=> [(5,.v (.int .i64 b))]) (λb=>b<=a.length/\ ∀d<b,a.getD d 0=c.getD d 0) (λb=>a.length - b) 0 ⟨aaU,λd z=>by omega⟩ aO ?_;rintro b ⟨P,k⟩ S;refine aa ?_;refine aH (λC=> ?_) λC=> ?_;rotate_left
 .exact aV (by simp[a0s aaU (λd z=>k d aaU)])
 refine aH (λc2=> ?_) λc2=> ?_
 .exact aV (by grind)
 .exact⟨b+1,⟨aaU,upto k c2⟩,rfl,aaU⟩
variable{g B c0:List R}{e i v M b9 j2:Nat}
theorem aB.at {b:b0->R->Prop}{a:List b0} (d:b0) (h:aB b a g) (k:e<a.length): ∃c,g[e]? =some c/\b (a.getD e d) c:=h.get (by simp_all)
def il (a:Bool):UInt8:=if a=true then 1 else 0
def th (a:List Int):List UInt8:=(a1.cj (a.map cq) 64).map il
theorem nH (a:List Int) (b:Nat):(a1.cj (a.map cq) b).length=a.length*b:=by rw[a1.E2,a6J]
theorem a0t (c:List Int) (P:Own) (o:U) (n:c.length<=1000):
  AC Tryz.prog 321 [.J (ad c) P] o λS k=> ∃C,bf o k 1 ((th c).map ak) C/\S= .J ((th c).map ak) C:=by
 have q:=bM (q:=c);have D:= @dP c;have T:(th c).length=c.length*64:=by rw[th,a6J,nH]
 refine aK hm Ty ?_;refine cg [0] (λa:Nat×List UInt8×Own=> [(3,.J (a.2.1.map ak) a.2.2),(4,.v (.int .i64 ((a.1) - 1)))]) (λa k=>a.1<=64/\a.2.1++(a1.cj (c.map cq) a.1).map il=th c/\bf o k 1 (a.2.1.map ak) a.2.2) (λa=>a.1) (64,[],.nil) ⟨⟨aaY,rfl,bf.nil U.a6⟩,aO⟩ ?_;rintro⟨x,E,V⟩ s ⟨y,p,h⟩ W
 dsimp only at y p h|-
 refine aa ?_;refine aH (λF=> ?_) λF=> ?_
 .obtain⟨b,rfl⟩: ∃b,x=b+1:=⟨x - 1,aaU⟩;have e:=congrArg List.length p;rw[a6A,T]at e;rw[a1.cj,a7x,<-a6N]at p;have f:((b+1:Nat)) - 1=(b:Int):=aaU;have t:IntKind.u64.wrap (b)=(b):=wrap_u64 aaU aaU;rw[f]at F|-;refine cg [0,4] (λa:Nat×List UInt8×Own=> [(3,.J (a.2.1.map ak) a.2.2),(5,.v (.int .i64 (a.1)))]) (λa k=>a.1<=c.length/\E++((c.take a.1).map λg=>il ((cq g).testBit b))=a.2.1/\bf o k 1 (a.2.1.map ak) a.2.2) (λa=>c.length - a.1) (0,E,V) ⟨⟨aaV,aaV,h⟩,aO⟩ ?_;clear h;rintro⟨r,G,i⟩ u ⟨j,z,h⟩ W
  dsimp only at j z h|-
  have v:G.length<=65000:=by grind
  refine aa ?_;refine aH (λl=> ?_) λl=> ?_
  .have w:=eR (a:=c) (b:=0) (e:=r) aaU;have A:=D (b:=r) aaU;clear D;generalize c.getD r 0=d at*;have B:br .shr (.int .u64 (cq d)) (.int .u64 (b))=some (.int .u64 ((cq d>>>b))):=by rw[sk _ _ _ aaU aaU];simp
   have H:br .rem (.int .u64 ((cq d>>>b))) (.int .u64 2)=some (.int .u64 (((cq d>>>b)%2:Nat))):=by simp only[br,ft,hN,a7H,if_false,if_true];rfl
   have I:IntKind.u8.wrap (((cq d>>>b)%2:Nat))=((il ((cq d).testBit b)).toNat):=by
    rw[wrap_u8 aaU aaU];have:(cq d).testBit b=decide ((cq d>>>b)%2=1):=by simp
    rw[this,il];rcases Nat.mod_two_eq_zero_or_one (cq d>>>b)with L|L<;>simp[L]
   have K:=a0r d;refine Yt h λM m N y _=> ?_;exact⟨(r+1,_,m),⟨by simp only;omega,by grind,y⟩,⟨rfl,rfl⟩,by simp only;omega⟩
  .rw[a6z aaU]at z;refine⟨(b,G,i),⟨by simp only;omega,by simp only[<-z,<-p,a1.fM,a8D];rfl,h⟩,⟨rfl,rfl⟩,aaV⟩
 .obtain rfl:x=0:=aaU;grind[a1.cj,U.a6]
def a0u (b:Nat) (c:List Bool) (a:Nat) (d:a<b):a1.iO (b - a) (c.drop (8*a))=UInt8.ofNat (a1.val ((c.drop (8*a)).take 8))::a1.iO (b -(a+1)) (c.drop (8*(a+1))):=by rw[show b - a=(b -(a+1))+1 by omega,a1.iO,a7p,show 8*(a+1)=8*a+8 by omega]
theorem yt: ∀(b:List Bool) (a:Bool),a1.val (b++ [a])=2*a1.val b+(if a=true then 1 else 0)
 | [],a=>by simp[a1.val]
 |c::b,a=>by
  simp only[a7M,a1.val,a6A,a6E,a6G,yt b a,aac];split<;>omega
theorem a0v (b:List Bool) (h:Nat) (l:b.length=8*h) (D:Own) (G:U) (O:h<=100000):
  AC Tryz.prog 320 [.J ((b.map il).map ak) D] G λm z=> ∃W,bf G z 1 ((a1.iO h b).map ak) W/\m= .J ((a1.iO h b).map ak) W:=by
 refine bc hm Tw aaV ?_;have e:((b.map il).map ak).length=8*h:=by simp[l]
 refine bT ?_;refine cm (λd z=> ∃(a:Nat) (x:List UInt8) (C:Own),a<=h/\x++a1.iO (h - a) (b.drop (8*a))=a1.iO h b/\x.length=a/\bf G z 1 (x.map ak) C/\d 0= .J ((b.map il).map ak) D/\d 3= .J (x.map ak) C/\d 4= .v (.int .i64 ((8*a:Nat))))
  (λd _=>match d 4 with| .v (.int _ L)=>8*h - L.toNat| _=>0) ⟨0,[],.nil,aaU,rfl,rfl,bf.nil U.a6,?_⟩ ?_
 .exact kv
 rintro d n ⟨a,x,C,Q,P,X,f,p,r,o⟩;by_cases g:((8*a:Nat))+7<((8*h:Nat):Int)
 .rw[a0u h b a aaU]at P;refine aj (bh @p @r @o @e @g) ?_;refine cm (λd z=> ∃c:Nat,c<=8/\z=n/\d 0= .J ((b.map il).map ak) D/\d 3= .J (x.map ak) C/\d 4= .v (.int .i64 ((8*a:Nat)))/\d 5= .v (.int .u8 (a1.val ((b.drop (8*a)).take c)))/\d 6= .v (.int .i64 c))
   (λd _=>match d 6 with| .v (.int _ L)=>8 - L.toNat| _=>0) ⟨0,aaU,rfl,?_⟩ ?_
  .refine aj (aE @p @r @o) ?_;rfl
  have q:=o;clear p r o;rintro Y s ⟨c,Z,rfl,p,r,o,E,F⟩;by_cases i:(c:Int)<8
  .have S:b[8*a+c]? =some b[8*a+c]:=a6y aaU;have j:(b.drop (8*a)).take (c+1)=(b.drop (8*a)).take c++ [b[8*a+c]]:=by rw[a7C,a9B,S];rfl
   generalize b[8*a+c]'aaU=k at S j;have T:=a1.nD ((b.drop (8*a)).take (c+1));have V:a1.val ((b.drop (8*a)).take (c+1))<256:=a7L T (by
    have:((b.drop (8*a)).take (c+1)).length<=8:=by rw[a6C];omega
    exact a8o aaU this)
   rw[j,yt]at V;have t:cC 1 (.J ((b.map il).map ak) D) (.v (.int .i64 (((8*a:Nat))+(c))))=some (.bU [.v (.int .u8 ((il k).toNat))]):=by rw[show((8*a:Nat))+(c)=((8*a+c:Nat):Int) by omega,gj aaU];rw[a6X,a7d,a7d,S];rfl
   have u:cY false 1 s (.bU [.v (.int .u8 ((il k).toNat))])=some (.v (.int .u8 ((il k).toNat))):=rfl;have j9:((il k).toNat:Int)=if k=true then 1 else 0:=by cases k<;>rfl
   generalize k0:a1.val ((b.drop (8*a)).take c)=y at*;have k1:(if k=true then 1 else 0)<=1:=by split<;>omega
   have v:IntKind.u8.wrap (2*(y))=((2*y:Nat)):=by rw[wrap_u8 aaU aaU];omega
   have w:IntKind.u8.wrap (((2*y:Nat))+((il k).toNat))=((2*y+(if k=true then 1 else 0):Nat)):=by grind[wrap_u8]
   have A:br .mul (.int .u8 2) (.int .u8 (y))=some (.int .u8 ((2*y:Nat))):=by rw[<-v];rfl
   have B:br .add (.int .u8 ((2*y:Nat))) (.int .u8 ((il k).toNat))=some (.int .u8 ((2*y+(if k=true then 1 else 0):Nat))):=by rw[<-w];rfl
   refine aj (cd @p @r @o @E @F @i @t @u @A @B) ?_;grind[yt]
  .obtain rfl:c=8:=aaU;refine aj (bx @p @r @o @E @F @i) ?_;refine dF U.a6 (by simp[aW,R.cells]) λk2 k3 H=> ?_;refine aj (bh @p @r @o @E @F) ?_;refine eh (f.mono H.sub) (by intro k4 I;obtain⟨k5,_,rfl⟩:=a6S.1 I;rfl) (by simp[aW,R.cells]) (by grind) (by grind) λk6 k7 K=> ?_;have T:=a1.nD ((b.drop (8*a)).take 8);have V:a1.val ((b.drop (8*a)).take 8)<256:=a7L T (by
    grind)
   have M:R.v (.int .u8 (a1.val ((b.drop (8*a)).take 8)))=ak (UInt8.ofNat (a1.val ((b.drop (8*a)).take 8))):=by show _=R.v (.int .u8 ((UInt8.ofNat (a1.val ((b.drop (8*a)).take 8))).toNat));rw[a7A,a8n V]
   have N:x.map ak++ [R.v (.int .u8 (a1.val ((b.drop (8*a)).take 8)))]=(x++ [UInt8.ofNat (a1.val ((b.drop (8*a)).take 8))]).map ak:=by rw[M,a7x];rfl
   rw[N]at K|-;refine aj (bx @p @r @o @E @F @q) ?_;grind
 .obtain rfl:a=h:=aaU;rw[a8T,a1.iO,a7E]at P;subst P;refine aj (bh @p @r @o @e @g) ?_;exact⟨_,U.a6,C,f,rfl⟩
def codeF (a:List Int):List UInt8:=a1.iO (8*a.length) (a1.cj (a.map cq) 64)
def vb (a:List Int):(codeF a).length=8*a.length:=a1.E7 _ _
def EI (a:List Int) (c:Own) (b:U) (d:a.length<=1000):
  AC Tryz.prog 286 [.J (ad a) c] b λh k=>b.sub k/\ ∃o,h= .J ((codeF a).map ak) o:=by
 refine bc hm SM aaV ?_;refine bT ?_;refine ah (a0t a c b d) ?_;rintro _ p ⟨r,x,rfl⟩;refine bT ?_;refine ah (a0v (a1.cj (a.map cq) 64) (8*a.length) (by rw[nH];omega) r p aaU) ?_;rintro _ C ⟨y,z,rfl⟩;refine bT ?_;exact⟨_,U.a6,U.au x.sub z.sub,y,rfl⟩
def kH (a b:List Int):Bool:=if a.length=b.length then Op.bytesLess (codeF a) (codeF b)else decide (a.length<b.length)
def a0w (a b:List UInt8):ji .lss (bn a) (bn b)=some (.v (.bool (Op.bytesLess a b))):=by show(br .lss (.string ⟨a.toArray⟩) (.string ⟨b.toArray⟩)).map R.v= _;simp only[br,qq,toList_mk,a7F]
theorem a0x (a b:List Int) (d h:Own) (k:U):
  AC Tryz.prog 285 [.J ((codeF a).map ak) d,.J ((codeF b).map ak) h] k λy z=>z=k/\y= .v (.bool (kH a b)):=by
 refine bc hm SK aaV ?_;have o:((codeF a).map ak).length=8*a.length:=by rw[a6J,vb]
 have p:((codeF b).map ak).length=8*b.length:=by rw[a6J,vb]
 have r:nj (.J ((codeF a).map ak) d)=some (bn (codeF a)):=px;have x:nj (.J ((codeF b).map ak) h)=some (bn (codeF b)):=px;unfold kH;by_cases C:a.length=b.length
 .have c:((8*a.length:Nat))=((8*b.length:Nat):Int):=aaU;refine aj (bx @o @p @c @r @x @a0w) ?_;exact⟨_,U.a6,rfl,by rw[if_pos C]⟩
 .have c: ¬((8*a.length:Nat))=((8*b.length:Nat):Int):=aaU;refine aj (bh @o @p @c @r @x) ?_;refine⟨_,U.a6,rfl,?_⟩;simp_all
theorem EJ (a b:List Int) (d h:Own) (c:U) (o:a.length<=1000) (p:b.length<=1000):
  AC Tryz.prog 236 [.J (ad a) d,.J (ad b) h] c λr x=>c.sub x/\r= .v (.bool (kH a b)):=by
 refine bc hm Rv aaV ?_;refine bT ?_;refine ah (EI a d c o) ?_;rintro _ y ⟨D,z,rfl⟩;refine bT ?_;refine ah (EI b h y p) ?_;rintro _ k ⟨E,C,rfl⟩;refine bT ?_;refine ah (a0x a b z C k) ?_;rintro _ k ⟨rfl,rfl⟩;refine bT ?_;grind
theorem EK: ∀ {a b:List UInt8},a.length=b.length->Op.bytesLess a b=a1.sX a b
 | [],[],_=>rfl
 |h::a,k::b,c=>by
  have d:a.length=b.length:=by simpa using c
  simp only[Op.bytesLess,a1.sX,EK d];grind
theorem EL (d h:List Int): ∀(b:List (Int×Int)) (a:(Int×Int)×Nat),(b.map λc=>(cq c.1,cq c.2)).foldl a1.pick ((cq a.1.1,cq a.1.2),a.2)=((cq (b.foldl gQ a).1.1,cq (b.foldl gQ a).1.2),(b.foldl gQ a).2)
 | [],a=>rfl
 |c::b,a=>by
  simp only[a6Q,a7j];rw[<-EL d h b];grind[a1.pick,gQ]
structure bN (d:Nat) (p:List Int):Prop where
 len:p.length=d
 kI:dj p
def EM (a b:List Int):(a.map cq).zip (b.map cq)=(a.zip b).map λc=>(cq c.1,cq c.2):=by rw[List.zip_map];rfl
theorem a0y {b:(Int×Int)×Nat}: ∀(a:List (Int×Int)),(a.foldl gQ b).1=b.1\/(a.foldl gQ b).1∈a:=by
 intro a
 induction a generalizing b with
 |nil=>simp
 |cons d a ih=>
  rw[a7j];rcases ih (b:=gQ b d)with c|c
  .rw[c];unfold gQ;split
   .simp
   .simp
  .simp_all
variable{q b8:List Int}
theorem rf (z:1<=e) (C:e<=8) (h:bN e q) (k:bN e b8):bC q b8=a1.lexB (a1.cj (q.map cq) 64) (a1.cj (b8.map cq) 64):=by
 unfold bC;have D:=h.len;have E:=k.len;rw[if_pos ⟨aaU,aaU,aaU⟩];have F:q.zip b8≠ []:=by intro c;have:=congrArg List.length c;simp_all
 obtain⟨a,d,b⟩: ∃a d,q.zip b8=a::d:=by
  cases G:q.zip b8 with
  |nil=>trivial
  |cons a d=>simp
 have y:(q.zip b8).headD (0,0)=a:=by rw[b];rfl
 rw[y];have o:=a1.E6 64 (q.map cq) (b8.map cq) aaW (λa b=>by
  obtain⟨L,P⟩:=a;have hm:=List.of_mem_zip b;obtain⟨p,_,rfl⟩:=a6S.1 hm.1;obtain⟨r,_,rfl⟩:=a6S.1 hm.2;exact a9g (oB _) (oB _)) (cq a.1,cq a.2) (by rw[EM,b];simp)
 rw[EM,EL q b8 (q.zip b8) (a,0)]at o;rw[<-Bool.coe_iff_coe,decide_eq_true_eq];rw[<-o];simp only;have x:((q.zip b8).foldl gQ (a,0)).1∈q.zip b8:=by grind[a0y]
 generalize ((q.zip b8).foldl gQ (a,0)).1=c at x;obtain⟨p,r⟩:=c;have hm:=List.of_mem_zip x;have S:=h.kI p hm.1;have T:=k.kI r hm.2;grind[EH]
theorem EN (c:1<=e) (d:e<=8) (a:bN e q) (b:bN e b8):kH q b8=bC q b8:=by have h:=a.len;have k:=b.len;rw[rf c d a b];unfold kH;rw[if_pos aaU,EK (by rw[vb,vb];omega)];grind[codeF,a1.E8,nH]
def EO: ∀(c:List Int),∀b∈c.zip c,b.1=b.2
 | [],b,a=>by cases a
 |d::c,b,a=>by
  rw[List.zip_cons_cons]at a;rcases a6W.1 a with rfl|a
  .rfl
  .exact EO c b a
theorem pS (a:List Int):bC a a=false:=by
 unfold bC;split
 .have: ∀(b:List (Int×Int)) (c),(∀d∈b,d.1=d.2)->c.1.1=c.1.2->(b.foldl gQ c).1.1=(b.foldl gQ c).1.2:=by
   intro b
   induction b with
   |nil=>intro c _ h;exact h
   |cons d b ih=>grind[gQ]
  have k:=EO a;have o:((a.zip a).headD (0,0)).1=((a.zip a).headD (0,0)).2:=by
   cases h:a.zip a with
   |nil=>rfl
   |cons d b=>simp_all
  grind
 .rfl
theorem ga (d:1<=e) (h:e<=8):a1.Ord bC (bN e) where
 jR:=pS
 trans C D L b a p h1 k:=by rw[rf d h b a]at h1;rw[rf d h a p]at k;rw[rf d h b p];exact a1.ZJ (by rw[nH,nH,b.len,a.len]) (by rw[nH,nH,a.len,p.len]) h1 k
 total C D b a h1 k:=by
  rw[rf d h b a]at h1;rw[rf d h a b]at k;have:=a1.ZK (by rw[nH,nH,b.len,a.len]) h1 k;have F:=a1.ZH (by simp[b.len,a.len]) 64 this (λr x=>by obtain⟨o,_,rfl⟩:=a6S.1 x;exact oB o) (λr x=>by obtain⟨o,_,rfl⟩:=a6S.1 x;exact oB o);refine aa6 λy=> ?_;have c:=congrArg (λG=>G[y]?) F;simp only[a7d]at c;cases E:C[y]? with
  |none=>grind
  |some r=>rw[E]at c;cases z:D[y]? with
   |none=>rw[z]at c;cases c
   |some o=>rw[z]at c;simp only[a7F,a6K]at c;have P:=b.kI r (a6D E);have S:=a.kI o (a6D z);grind[EH]
variable{O:List (List Int)}
def iR (a:aB isRow O g):aW 1 g:=a.cells λ_ _=>isRow.cells
theorem EP {a:List Int->List Int->Bool} (d: ∀b<e,a (O.getD b []) q=true) (c:e<=O.length) (h:e<O.length->a (O.getD e []) q=false):a1.dT a O q=O.take e++ [q]++O.drop e:=by
 rw[a6N];change _=O.take e++q::O.drop e
 induction O generalizing e with
 |nil=>simp at c;subst c;rfl
 |cons k O ih=>
  cases e with
  |zero=>grind[a1.dT,List.takeWhile_cons,List.dropWhile_cons]
  |succ e=>have p:a k q=true:=d 0 aaU;have:=ih (λb r=>d (b+1) aaU) (by simpa using c) (λo=>h (by simpa using o));simp_all [a1.dT]
theorem a0z (b:List (List Int)) (L:List R) (W o:Own) (k:List Int) (y:U) (h:aB isRow b L) (t:b.length<=1000) (e: ∀z∈b,z.length<=1000) (f:k.length<=1000):
  AC Tryz.prog 180 [.J L W,.J (ad k) o] y λz p=>y.sub p/\ ∃P C,z= .J P C/\aB isRow (a1.dT kH b k) P:=by
 have u:=h.len;have v:=iR h;refine aK hm PZ ?_;refine cg [0,1] (λa:Nat×List R×Own=> [(5,.J a.2.1 a.2.2),(6,.v (.int .i64 (a.1)))]) (λa p=>a.1<=b.length/\(∀S<a.1,kH (b.getD S []) k=true)/\aB isRow (b.take a.1) a.2.1/\bf y p 1 a.2.1 a.2.2) (λa=>b.length - a.1) (0,[],.nil) ⟨⟨aaV,λS w=>by omega,trivial,bf.nil U.a6⟩,aO⟩ ?_;rintro⟨d,A,on⟩ g ⟨D,r,c,x⟩ B
 dsimp only at D r c x|-
 have i:=c.len;rw[a6C]at i;refine aa ?_;refine aH (λj=> ?_) λj=> ?_
 .obtain⟨_,H,T,rfl⟩:=h.at [] (e:=d) aaU;have l:=eR (a:=b) (b:= []) (e:=d) aaU;refine cl (EJ (b.getD d []) k T o g (e _ (by grind)) f) ?_;rintro _ I ⟨V,rfl⟩;refine aa ?_;refine aH (λc2=> ?_) λc2=> ?_
  .refine hA (x.mono V) (iR c) λ_ C p m _=> ?_;exact⟨(d+1,_,C),⟨by simp only;omega,upto r c2,by simp only[l];exact c.snoc ⟨T,rfl⟩,m⟩,⟨rfl,rfl⟩,by simp only;omega⟩
  .rw[EP r D λ_=>c2];refine hA (x.mono V) (iR c) λ_ n q E _=> ?_;refine kx E (D2 (iR c) rfl) (iR (h.drop d)) λF s G _=> ?_;exact⟨G.sub,_,F,rfl,(c.snoc ⟨o,rfl⟩).append (h.drop d)⟩
 .rw[EP r D λ_=>by omega];refine hA x (iR c) λ_ n q E _=> ?_;refine kx E (D2 (iR c) rfl) (iR (h.drop d)) λF s G _=> ?_;exact⟨G.sub,_,F,rfl,(c.snoc ⟨o,rfl⟩).append (h.drop d)⟩
def hl (a:Nat):List Nat:=(List.range (a1.bS a)).map λb=>a/a1.bS a+if b<a%a1.bS a then 1 else 0
def iS (a:List Nat):List R:=a.map λ(b:Nat)=>R.v (.int .i64 (b:Int))
def yu {a:Nat}:a1.bS a<=a:=by unfold a1.bS;omega
def vc {a:List Nat}:(iS a).length=a.length:=by simp[iS]
def ER {a:List Nat}:aW 1 (iS a):=λc b=>by obtain⟨_,_,rfl⟩:=a6S.1 b;rfl
def vd {a:Nat}:(hl a).length=a1.bS a:=by simp[hl]
def yv {a b:Nat} (c:b<a1.bS a):(hl a).getD b 0=a/a1.bS a+if b<a%a1.bS a then 1 else 0:=by simp[hl,c]
def ES (a:Nat) (g:a<=1000) (o:U):
  AC Tryz.prog 238 [.v (.int .i64 (a:Int))] o λG d=>o.sub d/\ ∃L,G= .J (iS (hl a)) L:=by
 have P:(a:Int).tdiv 4=((a/4:Nat)):=rfl;have x:a1.bS a=if 4*(a/4)<a then a/4+1 else a/4:=by unfold a1.bS;split<;>omega
 refine aK hm Rz ?_;refine om [0] (λ_:Unit=> [(3,.v (.int .i64 (a1.bS a)))]) (λ_ d=>d=o) (λh=> ?_) (λh=> ?_) ?_
 .have h:=of_decide_eq_true h;rw[if_pos aaU]at x;have b:((a/4:Nat))+1=(a1.bS a:Int):=aaU;exact aO
 .have h:=of_decide_eq_false h;rw[if_neg aaU]at x;have b:((a/4:Nat))=(a1.bS a:Int):=aaU;exact aO
 rintro _ o rfl S;have i:iS []= []:=rfl;clear x P;have j:= @yu a;have T:= @vd a;have E:= @yv a;refine aa ?_;refine cg [0,3] (λc:Nat×Own=> [(4,.J (iS ((hl a).take c.1)) c.2),(5,.v (.int .i64 (c.1)))]) (λc d=>c.1<=a1.bS a/\bf o d 1 (iS ((hl a).take c.1)) c.2) (λc=>a1.bS a - c.1) (0,.nil) ⟨⟨aaV,bf.nil U.a6⟩,aO⟩ ?_;rintro⟨k,V⟩ l ⟨W,p⟩ S
 dsimp only at W p|-
 have m:=a9y a (a1.bS a);have n:(a:Int).tdiv (a1.bS a:Int)=((a/a1.bS a:Nat)):=rfl;have q:(a:Int).tmod (a1.bS a:Int)=((a%a1.bS a:Nat)):=rfl;refine aa ?_;refine aH (λh=> ?_) λh=> ?_
 .have F:=E (b:=k) aaU;have y:=eR (a:=hl a) (b:=0) (e:=k) aaU;rw[F]at y;have z: ∀r:Nat,(if k<a%a1.bS a then 1 else 0)=r->iS ((hl a).take k)++ [R.v (.int .i64 ((a/a1.bS a+r:Nat)))]=iS ((hl a).take (k+1)):=λr b=>by
   rw[y,b,iS,iS,a7x];rfl
  have e:=z 0;have f:=z 1;clear E F y z T;generalize a/a1.bS a=r at*;generalize a%a1.bS a=s at*;generalize hl a=t at*;refine aH (λc2=> ?_) λc2=> ?_
  .have b:=f (if_pos aaU);refine hA p ER (λ_ C d D _=> ?_) (P:=by rw[vc,a6C];omega);exact⟨(k+1,C),⟨by simp only;omega,b▸D⟩,⟨by simp only[<-b];rfl,rfl⟩,by simp only;omega⟩
  .have b:=e (if_neg aaU);refine hA p ER (λ_ C d D _=> ?_) (P:=by rw[vc,a6C];omega);exact⟨(k+1,C),⟨by simp only;omega,b▸D⟩,⟨by simp only[<-b];rfl,rfl⟩,by simp only;omega⟩
 .rw[a6z aaU]at p|-;exact⟨p.sub,V,rfl⟩
def bA (c:U):(d:Nat)->a1.T d->R->Prop
 |0,a,h=> ∃b p k o,h= .ptr b 0/\c b=some (.cells [.J p k,.J [] o])/\aB isRow (a1.rows a) p
 |d+1,a,h=> ∃b r k o,h= .ptr b 0/\c b=some (.cells [.J [] o,.J r k])/\aB (bA c d) (a1.kids a) r/\a1.kids a≠ []/\(a1.kids a).length<=1000
def bA.fY {r x:U} (d:iG r x): ∀ {a:Nat}{b:a1.T a}{c:R},bA r a b c->bA x a b c
 |0,b,c,⟨h,y,k,eE,h1,o,p⟩=>⟨h,y,k,eE,h1,d _ _ o,p⟩
 |a+1,b,c,⟨h,z,k,eE,h1,o,p,C⟩=>⟨h,z,k,eE,h1,d _ _ o,p.mono λ_ _=>bA.fY d,C⟩
variable{f s e0:U}
def bA.mono (b:f.sub s) {t:a1.T e}{a:R} (c:bA f e t a):bA s e t a:=c.fY (U.qW b)
theorem bA.cells {d:U}{a:Nat}{h:a1.T a}{b:R} (c:bA d a h b):b.cells.length=1:=by
 cases a with
 |zero=>obtain⟨k,_,_,_,rfl,_⟩:=c;rfl
 |succ a=>obtain⟨k,_,_,_,rfl,_⟩:=c;rfl
theorem bA.ptr {c:U}{a:Nat}{k:a1.T a}{d:R} (h:bA c a k d): ∃b o p,d= .ptr b 0/\c b=some (.cells [o,p]):=by
 cases a with
 |zero=>obtain⟨b,_,_,_,rfl,r,_⟩:=h;simp_all
 |succ a=>obtain⟨b,_,_,_,rfl,r,_⟩:=h;simp_all
theorem ET {k:Type}: ∀(a:Nat) (b:List k),a<=b.length-> ∀d∈a1.ew a b,d≠ []
 |0,b,_,d,c=>by cases c
 |a+1,b,p,d,c=>by
  have r:=a9x b.length (a+1);have hm:=a8E b.length (aaR a);have x:1<=b.length/(a+1):=(aaz (aaR a)).2 aaU;rw[a1.ew]at c;generalize b.length/(a+1)=h at*;generalize b.length%(a+1)=y at*;have z:(a+1)*h=a*h+h:=by rw[a7I];omega
  have C:a<=a*h:=aai _ aaU;rcases a6W.1 c with rfl|c
  .intro o;have:=congrArg List.length o;grind
  .exact ET a _ (by rw[a6R];split<;>omega) d c
def a0A (a:List b0):a1.chunks a=(List.range (a1.bS a.length)).map λb=>(a.drop (b*(a.length/a1.bS a.length)+min b (a.length%a1.bS a.length))).take (a.length/a1.bS a.length+if b<a.length%a1.bS a.length then 1 else 0):=a1.Eb _ _
def fp (a b:Nat):Nat:=b*(a/a1.bS a)+min b (a%a1.bS a)
def yw (a:i<a1.bS e):fp e (i+1)=fp e i+(hl e).getD i 0:=by rw[yv a];unfold fp;rw[a7I];split<;>omega
def EU (a:i<=a1.bS e):fp e i<=e:=by have:=a9x e (a1.bS e);have:=a6O (e/a1.bS e) a;unfold fp;omega
def ve {a:List b0}:(a1.chunks a).length=a1.bS a.length:=mB.1
def EV {a:List b0} (b:e<a1.bS a.length):(a1.chunks a).take (e+1)=(a1.chunks a).take e++ [(a.take (fp a.length (e+1))).drop (fp a.length e)]:=by rw[a7C,a0A,a7d,a8P b,yw b,yv b,a7T];simp[fp]
def EW (a:i<a1.bS e):(iS (hl e))[i]? =some (.v (.int .i64 ((hl e).getD i 0:Nat))):=by simp[iS,vd,a]
def bA.c {a:List (a1.T e)} (b:aB (bA f e) a g):aW 1 g:=b.cells λ_ _=>bA.cells
def EX (a:List (List Int)) (o:List R) (G:Own) (p:U) (r:aB isRow a o) (L:a.length<=1000):
  AC Tryz.prog 176 [.J o G] p λP d=>p.sub d/\ ∃k x,P= .J k x/\aB (bA d 0) ((a1.chunks a).map a1.leaf) k:=by
 have s:=r.len;have t:=iR r;have u:=yu (a:=a.length);have v:(iS (hl a.length)).length=a1.bS a.length:=vc.trans vd;refine aK hm PQ ?_;refine cl (ES a.length L p) ?_;rintro _ S ⟨T,w,rfl⟩;have A:fp a.length 0=0:=by simp[fp]
 refine aa ?_;refine cg [0,5] (λb:Nat×List R×Own=> [(3,.J b.2.1 b.2.2),(4,.v (.int .i64 (fp a.length b.1))),(6,.v (.int .i64 (b.1)))]) (λb d=>b.1<=a1.bS a.length/\aB (bA d 0) (((a1.chunks a).take b.1).map a1.leaf) b.2.1/\bf S d 1 b.2.1 b.2.2) (λb=>a1.bS a.length - b.1) (0,[],.nil) ⟨⟨aaV,trivial,bf.nil U.a6⟩,aO⟩ ?_;rintro⟨c,k,V⟩ W ⟨e,h,y⟩ B
 dsimp only at e h y|-
 have f:=h.len;rw[a6J,a6C,ve]at f;refine aa ?_;refine aH (λg=> ?_) λg=> ?_
 .have H:=yw (e:=a.length) (i:=c) aaU;have I:=EU (e:=a.length) (i:=c+1) aaU;have K:=EW (e:=a.length) (i:=c) aaU;have i:=EV (a:=a) (e:=c) aaU;have z:=(r.take (fp a.length (c+1))).drop (fp a.length c);generalize M:fp a.length (c+1)=C at*;generalize fp a.length c=D at*;generalize (hl a.length).getD c 0=j at*;have N:(D)+(j)=(C:Int):=aaU;refine sB (iR z) (λE l O=> ?_);refine bp λF Q=> ?_;have m:=qX (f:=W) (s:=l.set F (.cells [.J ((o.take C).drop D) E,.J [] .nil]));refine hA (y.mono m) (bA.c h) λ_ x d n q=> ?_;refine⟨(c+1,_,x),⟨by simp only;omega,?_,n⟩,⟨rfl,by simp only;congr 3;omega,rfl⟩,by simp only;omega⟩;simp only[i,a7x];exact(h.mono λ_ _=>bA.fY eP).snoc ⟨F,_,E,.nil,rfl,q _ _ (U.ai _ _ _),z⟩
 .rw[a6z (by rw[ve];omega)]at h;exact⟨_,U.a6,U.au T y.sub,k,V,rfl,h⟩
theorem yx (z:U) (a:List (a1.T e)) (r:List R) (P:Own) (k:U) (x:aB (bA z e) a r) (S:a.length<=1000) (T:z.sub k):
  AC Tryz.prog 177 [.J r P] k λV d=>k.sub d/\ ∃o y,V= .J o y/\aB (bA d (e+1)) ((a1.chunks a).map a1.node) o:=by
 have A:=x.len;have B:=bA.c x;have W:=yu (a:=a.length);have H:(iS (hl a.length)).length=a1.bS a.length:=vc.trans vd;refine aK hm PT ?_;refine cl (ES a.length S k) ?_;rintro _ f ⟨C,I,rfl⟩;have K:fp a.length 0=0:=by simp[fp]
 refine aa ?_;refine cg [0,5] (λc:Nat×List R×Own=> [(3,.J c.2.1 c.2.2),(4,.v (.int .i64 (fp a.length c.1))),(6,.v (.int .i64 (c.1)))]) (λc d=>c.1<=a1.bS a.length/\aB (bA d (e+1)) (((a1.chunks a).take c.1).map a1.node) c.2.1/\bf f d 1 c.2.1 c.2.2) (λc=>a1.bS a.length - c.1) (0,[],.nil) ⟨⟨aaV,trivial,bf.nil U.a6⟩,aO⟩ ?_;rintro⟨b,o,g⟩ i ⟨j,h,p⟩ M
 dsimp only at j h p|-
 have l:=h.len;rw[a6J,a6C,ve]at l;refine aa ?_;refine aH (λm=> ?_) λm=> ?_
 .have N:=yw (e:=a.length) (i:=b) aaU;have O:=EU (e:=a.length) (i:=b+1) aaU;have Q:=EW (e:=a.length) (i:=b) aaU;have n:=EV (a:=a) (e:=b) aaU;have q:(a.take (fp a.length (b+1))).drop (fp a.length b)≠ []:=ET (a1.bS a.length) a W _ (a6M (i:=b+1) (by grind[a1.chunks]));have D:=(x.take (fp a.length (b+1))).drop (fp a.length b);generalize X:fp a.length (b+1)=E at*;generalize fp a.length b=F at*;generalize (hl a.length).getD b 0=s at*;have Y:(F)+(s)=(E:Int):=aaU;refine sB (bA.c D) (λG t Z=> ?_);refine bp λL j9=> ?_;have u:=qX (f:=i) (s:=t.set L (.cells [.J [] .nil,.J ((r.take E).drop F) G]));have k0:=U.au T (U.au C p.sub);refine hA (p.mono u) (bA.c h) λ_ y d v w=> ?_;refine⟨(b+1,_,y),⟨by simp only;omega,?_,v⟩,⟨rfl,by simp only;congr 3;omega,rfl⟩,by simp only;omega⟩;simp only[n,a7x];exact(h.mono λ_ _=>bA.fY eP).snoc ⟨L,_,G,.nil,rfl,w _ _ (U.ai _ _ _),D.mono λ_ _=>bA.fY eP,q,by simp[a1.fo];omega⟩
 .rw[a6z (by rw[ve];omega)]at h;exact⟨_,U.a6,U.au C p.sub,o,g,rfl,h⟩
end Go.Proofs.YtcfpcblgmmeioaaGreat
namespace Go.a1
variable {lt:Row->Row->Bool}{ok:Row->Prop}
variable{e i v M b9 j2:Nat}{b0:Type}
def rh {a:List b0}{b:b0} (c:a[e]? =some b):a=a.take e++b::a.drop (e+1):=by obtain⟨d,rfl⟩:=a6H.1 c;simp
variable{h4:Row}
def vf (y:Ord lt ok) (z:ok h4) {a:List (T e)} (C:a≠ []) (k: ∀b∈a,1<=len b/\lx e b) (o:hg lt (a.flatMap (ba e))) (p: ∀c∈a.flatMap (ba e),ok c):
  ∃b,a[cQ lt h4 (a.map (cM e))]? =some b/\(∀c∈(a.take (cQ lt h4 (a.map (cM e)))).flatMap (ba e),lt c h4=true)/\(∀c∈(a.drop (cQ lt h4 (a.map (cM e))+1)).flatMap (ba e),lt h4 c=true):=by
 have D:a.map (cM e)=(a.map (ba e)).map (·.headD []):=by rw[a8D];rfl
 rw[a9J]at o p;obtain⟨r,d,h⟩:=Eh y z (a.map (ba e)) (by simpa using C) (λF E=>by
  obtain⟨b,x,rfl⟩:=a6S.1 E;exact ye (k b x).1 (k b x).2) o p
 rw[<-D]at r d h;rw[<-aa1,<-a9J]at d;rw[<-a9u,<-a9J]at h;exact⟨_,a6y (by simpa using r),d,h⟩
theorem ri (C:Ord lt ok) (P:ok h4): ∀(a:Nat) (b:T a),jQ a b->hg lt (ba a b)->(∀d∈ba a b,ok d)->h4∉ba a b->
  (eS lt h4 a b).flatMap (ba a)=dT lt (ba a b) h4/\(∀c∈eS lt h4 a b,WF a c)/\1<=(eS lt h4 a b).length/\(eS lt h4 a b).length<=2:=by
 intro a
 induction a with
 |zero=>intro b D p o x;obtain⟨e,rfl⟩:=ig b;obtain⟨y,E,_,_⟩:=D;rw[hF]at y E;obtain⟨F,G,c,_⟩:=Ef (j1:=dT lt e h4) (by rw[oD];omega) (by rw[oD];omega);exact⟨Ed _,F,by simpa[eS,rb] using G,by simpa[eS,rb] using c⟩
 |succ a ih=>
  intro b D p o x;obtain⟨h,rfl⟩:=gu b;obtain⟨y,E,f,L⟩:=D;rw[dI]at y E L;have L:=L aaU;rw[fN]at p o x|-;have g: ∀c∈h,WF a c:=f;obtain⟨c,r,S,V⟩:=vf C P (by intro i;subst i;simp at y) (λc r=>by grind[hf]) p o;simp only[eS,fo];generalize cQ lt h4 (h.map (cM a))=z at r S V;rw[r];have s:=rh r;have j:h.flatMap (ba a)=(h.take z).flatMap (ba a)++(ba a c++(h.drop (z+1)).flatMap (ba a)):=by grind
  rw[j]at p o x|-;have l:=(a7G.1 (a7G.1 p).2.1).1;obtain⟨m,t,u,v⟩:=ih c (jQ.of (g c (a6D r))) l (λd k=>o d (by simp[k])) (λk=>x (by simp[k]));have W:(h.take z++eS lt h4 a c++h.drop (z+1)).length=h.length - 1+(eS lt h4 a c).length:=by grind
  obtain⟨F,G,n,_⟩:=Eg (by rw[W];omega) (by rw[W];omega) (λd k=>by
   grind)
  refine⟨?_,F,by simpa using G,by simpa using n⟩;simp only[];rw[Ee,a7r,a7r,m,yf S,ZM,a6N];intro d k;cases q:lt d h4 with
  |false=>rfl
  |true=>have:=C.trans d h4 d (o d (by simp[k])) P (o d (by simp[k])) q (V d k);rw[C.jR]at this;cases this
theorem EY {a b:T e} (k:lx e a) (o:lx e b) (d:2<=len a+len b) (h:len a+len b<=5):
  (kD a b).flatMap (ba e)=ba e a++ba e b/\(∀c∈kD a b,WF e c)/\1<=(kD a b).length/\(kD a b).length<=2:=by
 cases e with
 |zero=>obtain⟨a,rfl⟩:=ig a;obtain⟨b,rfl⟩:=ig b;grind[hF,Ef,kD,rb,jn,Ed]
 |succ e=>obtain⟨a,rfl⟩:=gu a;obtain⟨b,rfl⟩:=gu b;rw[dI,dI]at d h;obtain⟨r,x,y,_⟩:=Eg (a:=a++b) (by simpa using d) (by simpa using h) (λc p=>(a6L.1 p).elim (k c) (o c));grind[kD,fo,fN,Ee]
variable{j1:List Row}
theorem filter_none (b:h4∉j1):j1.filter (λa=>decide (a≠h4))=j1:=by rw[a9W];grind
theorem a0B (b:hg lt j1) (d: ∀h4,lt h4 h4=false):j1.length - 1<=(j1.filter λc=>decide (c≠h4)).length:=by
 induction j1 with
 |nil=>simp
 |cons a j1 ih=>
  have h:=a7i.1 b;by_cases bZ:a=h4
  .subst bZ;have:a∉j1:=λk=>by grind
   rw[aak aaV,filter_none this];simp
  simp_all
theorem pT (E:Ord lt ok) (v:ok h4): ∀(a:Nat) (d:T a),jQ a d->hg lt (ba a d)->(∀h∈ba a d,ok h)->
  ba a (cJ lt h4 a d)=(ba a d).filter (λh=>decide (h≠h4))/\lx a (cJ lt h4 a d)/\len d - 1<=len (cJ lt h4 a d)/\len (cJ lt h4 a d)<=4:=by
 intro a
 induction a with
 |zero=>intro d P o r;obtain⟨Q,rfl⟩:=ig d;obtain⟨F,G,_,_⟩:=P;rw[hF]at F G;simp only[cJ,rb,jn,hF]at o|-;exact⟨trivial,trivial,a0B o E.jR,by grind⟩
 |succ a ih=>
  intro d P o r;obtain⟨b,rfl⟩:=gu d;obtain⟨F,G,w,S⟩:=P;rw[dI]at F G S;have S:=S aaU;rw[fN]at o r|-;have V: ∀p∈b,WF a p:=w;obtain⟨p,x,i,j⟩:=vf E v (by intro y;subst y;simp at F) (λp x=>by grind[hf]) o r;simp only[cJ,fo,dI];generalize cQ lt h4 (b.map (cM a))=c at x i j;rw[x];simp only[dI,fN];have X:=rh x;obtain⟨A,_⟩:=a6H.1 x;have B:b.flatMap (ba a)=(b.take c).flatMap (ba a)++(ba a p++(b.drop (c+1)).flatMap (ba a)):=by grind
  have Y:=o;have Z:=r;rw[B]at o r;have l:=V p (a6D x);have j9:=hf.1 l;obtain⟨H,L,I,m⟩:=ih p (jQ.of l) (a7G.1 (a7G.1 o).2.1).1 (λh z=>r h (by simp[z]));generalize cJ lt h4 a p=h at H L I m;have k0:=filter_none λz=>by
   have:=i h4 z;rw[E.jR]at this;cases this
  have k1:=filter_none λz=>by
   have:=j h4 z;rw[E.jR]at this;cases this
  have n:(b.flatMap (ba a)).filter (λh=>decide (h≠h4))=(b.take c).flatMap (ba a)++(ba a h++(b.drop (c+1)).flatMap (ba a)):=by grind
  rw[n];unfold ly;by_cases W:2<=len h
  .rw[if_pos W];have y:b.set c h=b.take c++h::b.drop (c+1):=by rw[a7R,if_pos A]
   refine⟨by grind,λq C=> ?_,aaV,by simpa using G⟩;rw[fo,y]at C;simp only[a6L,a6W]at C;rcases C with C|rfl|C;grind
   .exact hf.2 ⟨W,m,L⟩
   grind
  .rw[if_neg W];have k2:len h=1:=aaU;by_cases e:c=0
   .subst e;have k:b[1]? =some b[1]:=a6y aaU;simp only[if_true];rw[k];simp only[Nat.zero_sub,a8w,a6T,a7c,a9q]at n|-;generalize b[1]=D at k;have f:=V D (a6D k);have g:=hf.1 f;obtain⟨s,K,q,y⟩:=EY L g.2.2 aaU aaU;have t:b.drop 1=D::b.drop 2:=by obtain⟨M,rfl⟩:=a6H.1 k;simp
    refine⟨by grind,λN u=> ?_,aaW,aaW⟩;grind[fo,List.mem_of_mem_drop]
   .rw[if_neg e];have k:b[c - 1]? =some b[c - 1]:=a6y aaU;rw[k];simp only[if_neg e];generalize b[c - 1]=D at k;have f:=V D (a6D k);have g:=hf.1 f;obtain⟨s,K,q,y⟩:=EY g.2.2 L aaU aaU;have t:b.take c=b.take (c - 1)++ [D]:=by
     obtain⟨M,rfl⟩:=a6H.1 k
     conv=>lhs;rw[show c=c - 1+1 by omega]
     simp
    have O:c - 1+2=c+1:=aaU;rw[O];refine⟨by rw[a7r,a7r,s,t,a7r];simp,λN u=> ?_,aaW,aaW⟩;simp only[fo,a6L]at u;grind
end Go.a1
namespace Go.Proofs.YtcfpcblgmmeioaaGreat
open Go Go.bD
abbrev dC:=Option ((a:Nat)×a1.T a)
def fe (c:U) (a:dC) (b:R):Prop:=
 match a with
 |none=>b= .v (.pointer none)
 |some ⟨d,a⟩=>bA c d a b
def fe.fY {b c:U} (k:iG b c) {a:dC}{d:R} (h:fe b a d):fe c a d:=by
 match a with
 |none=>exact h
 |some ⟨_,_⟩=>exact bA.fY k h
variable{e i v M b9 j2:Nat}
def pU:List (a1.T e)->dC
 | []=>none
 | [a]=>some ⟨e,a⟩
 |b=>some ⟨e+1,a1.node b⟩
variable{n b6:R}{f s e0:U}
def bA.fit {a:a1.T e} (b:bA f e a n):n.cells= [n]:=by obtain⟨_,_,_,rfl,_⟩:=b.ptr;rfl
variable{b0:Type}
def a0C {a:List b0} (b:a.length=1): ∃c,a= [c]:=a8B.1 b
theorem a0D (c:List (a1.T e)) (x:List R) (E:Own) (p:U) (F:aB (bA p e) c x) (G:c.length<=4):
  AC Tryz.prog 121 [.J x E] p λL h=>p.sub h/\fe h (pU c) L:=by
 refine aK hm Of ?_;refine cg [] (λd:List R×Own=> [(0,.J d.1 d.2)]) (λd h=>p.sub h/\(aB (bA h e) c d.1\/2<=c.length/\ ∃a,d.1= [a]/\bA h (e+1) (a1.node c) a)) (λd=>d.1.length) (x,E) ⟨⟨U.a6,.inl F⟩,aO⟩ ?_;rintro⟨r,P⟩ y ⟨z,b⟩ g
 dsimp only at b|-
 refine aa ?_;refine aH (λk=> ?_) λk=> ?_
 .rcases b with b|⟨_,a,rfl,_⟩
  .have i:=b.len;refine cl (yx y c r P y b aaU U.a6) ?_;rintro _ j ⟨S,l,T,rfl,C⟩;rw[a1.oC aaU G]at C;obtain⟨a,rfl⟩:=a0C C.len;refine aa ?_;exact⟨([a],T),⟨U.au z S,.inr ⟨aaU,a,rfl,C.1⟩⟩,rfl,aaW⟩
  .simp at k
 .have V:(r= []/\c= [])\/ ∃a,r= [a]/\fe y (pU c) a:=by
   rcases b with b|⟨W,a,rfl,b⟩
   .match c,r,b,k with
    | [],[],_,_=>simp
    | [m],[a],b,_=>exact .inr ⟨a,rfl,b.1⟩
    | _:: _:: _,_:: _:: _,_,k=>simp at k;omega
   .match c,W with
    | _:: _:: _,_=>exact .inr ⟨a,rfl,b⟩
  clear b;rcases V with ⟨rfl,rfl⟩|⟨a,rfl,o⟩
  .refine aa ?_;exact⟨_,U.a6,z,rfl⟩
  .have f:(∃D,a= .ptr D 0)\/a= .v (.pointer none):=by
    unfold fe at o;split at o
    .exact .inr o
    .obtain⟨D,_,_,n,_⟩:=o.ptr;simp_all
   rcases f with ⟨D,rfl⟩|rfl
   all_goals refine aa ?_;exact⟨_,U.a6,z,o⟩
theorem yy: ∀(b:Nat) (d:a1.T b) (T:R) (p:U),bA p b d T->(a1.ba b d).length<=100000->
  AC Tryz.prog 115 [T] p λW F=>p.sub F/\ ∃h G,W= .J h G/\aB isRow (a1.ba b d) h:=by
 intro b
 induction b with
 |zero=>rintro d _ p ⟨e,h,G,f,rfl,k,o⟩ L;have P:=U.ae k;have g:=o.len;have w:(a1.rows d).length<=100000:=L;refine aK hm x9 ?_;refine sB (iR o) λC i D=> ?_;have P:=rd D.sub k;refine gL [0] (λc:Nat=> [(3,.J h C),(4,.v (.int .i64 (c)))]) (λc=>c=0) (λ_=>0) 0 rfl aO ?_;rintro _ rfl j;refine aa ?_;exact⟨D.sub,h,C,rfl,o⟩
 |succ b ih=>
  rintro d _ p ⟨e,A,G,f,rfl,k,o,B,l⟩ L;obtain⟨r,rfl⟩:=a1.gu d;rw[a1.fo]at o l;rw[a1.fN]at L|-;have P:=U.ae k;have g:=o.len;refine aK hm x9 ?_;refine sB D3 λC i D=> ?_;refine cg [0] (λa:Nat×List R×Own=> [(3,.J a.2.1 a.2.2),(4,.v (.int .i64 (a.1)))]) (λa F=>a.1<=r.length/\aB isRow ((r.take a.1).flatMap (a1.ba b)) a.2.1/\bf p F 1 a.2.1 a.2.2) (λa=>r.length - a.1) (0,[],C) ⟨⟨aaV,trivial,D⟩,aO⟩ ?_;rintro⟨c,h,m⟩ n ⟨y,x,z⟩ j
  dsimp only at y x z|-
  have P:=rd z.sub k;refine aa ?_;refine aH (λE=> ?_) λE=> ?_
  .have y:c<r.length:=aaU;obtain⟨H,aK,V⟩:=o.get (a6y y);have q:=a1.rh (a6y y);have s:=a7K y;have t:=bA.mono z.sub V;obtain⟨I,_,_,rfl,_⟩:=V.ptr;generalize r[c]=E at*;have K:((r.take c).flatMap (a1.ba b)).length+(a1.ba b E).length<=100000:=by grind
   clear q;have M:=x.len;refine cl (ih E _ n t aaU) ?_;rintro _ N ⟨u,O,Q,rfl,S⟩;have X:=S.len;refine kx (z.mono u) (iR x) (iR S) λv Y k _=> ?_;refine⟨(c+1,_,v),⟨by simp only;omega,?_,k⟩,⟨rfl,rfl⟩,by simp only;omega⟩;simp only[s,a7r,a7a,a9q,a7E];exact x.append S
  .rw[a6z aaU]at x;exact⟨z.sub,h,m,rfl,x⟩
def a0E (a:U):AC Tryz.prog 115 [.v (.pointer none)] a λb c=>c=a/\b= .J [] .nil:=by refine aK hm x9 ?_;trivial
def a0F (a:Nat) (b:a1.T a) (d:R) (c:U) (r:bA c a b d) (x:(a1.ba a b).length<=100000) (y:a1.ba a b≠ []):
  AC Tryz.prog 237 [d] c λh z=>c.sub z/\ ∃k,h= .J (ad (a1.cM a b)) k:=by
 refine aK hm Rx ?_;refine cl (yy a b d c r x) ?_;rintro _ C ⟨D,E,k,rfl,o⟩;unfold a1.cM;cases p:a1.ba a b with
 |nil=>exact absurd p y
 |cons F h=>rw[p]at o;obtain⟨G,aK,L,rfl⟩:=o.get (i:=0) rfl;refine aa ?_;simp
theorem yz (b:List (List Int)) (k:List R) (x o:Own) (c:List Int) (d:U) (p:aB isRow b k) (E:b.length<=100000) (F: ∀h∈b,h.length<=1000):
  AC Tryz.prog 114 [.J k x,.J (ad c) o] d λh y=>y=d/\h= .v (.bool (decide (c∈b))):=by
 have G:=p.len;refine aK hm O3 ?_;refine gL [0,1] (λa:Nat=> [(5,.v (.int .i64 (a)))]) (λa=>a<=b.length/\ ∀r<a,b.getD r []≠c) (λa=>b.length - a) 0 ⟨aaU,λr L=>by omega⟩ aO ?_;rintro a ⟨P,z⟩ S;refine aa ?_;refine aH (λC=> ?_) λC=> ?_
 .obtain⟨_,T,D,rfl⟩:=p.at [] (e:=a) aaU;refine np (tg (b.getD a []) c D o d (by grind)) ?_;refine aH (λc2=> ?_) λc2=> ?_
  .exact aV (by grind)
  .exact⟨a+1,⟨aaU,upto z c2⟩,rfl,aaU⟩
 grind[aV,List.getElem_of_mem,List.getD]
def gS (a:List Int->List Int->Bool) (b:List Int):Nat->Nat->List (List Int)->Nat
 | _,at_,[]=>at_
 |c,at_,d::bF=>gS a b (c+1) (if a b d=true then at_ else c) bF
def EZ {d:List Int->List Int->Bool}{h:List Int}: ∀(b:List (List Int)) (k c:Nat),(∀a∈b,d h a=true)->gS d h k c b=c
 | [],_,_,_=>rfl
 |a::b,k,c,o=>by
  rw[gS,if_pos (o a aaV)];exact EZ b _ _ λa p=>o a (by simp[p])
theorem F0 {a:List Int->List Int->Bool}{b:List Int}: ∀(c:List (List Int)) (k:List Int) (d:Nat),c.Pairwise (λo p=>a b o=true->a b p=true)->gS a b (d+1) d c=d+a1.cQ a b (k::c)
 | [],k,d,_=>rfl
 |h::c,k,d,r=>by
  have x:=a7i.1 r;rw[gS];have y:a1.cQ a b (k::h::c)=if a b h=true then 0 else a1.cQ a b (h::c)+1:=rfl;rw[y];by_cases hk:a b h=true;simp_all [EZ]
  .rw[if_neg hk,if_neg hk,F0 c h (d+1) x.2];omega
variable{O:List (List Int)}{q b8:List Int}
theorem a0G {a:List Int->List Int->Bool} (d:O.Pairwise (λb c=>a q b=true->a q c=true)):gS a q 0 0 O=a1.cQ a q O:=by
 cases O with
 |nil=>rfl
 |cons h O=>grind[gS,F0,List.pairwise_cons]
def F1 {k o:List Int->List Int->Bool}{c:List Int}: ∀(b:List (List Int)) (d h:Nat),(∀a∈b,k c a=o c a)->gS k c d h b=gS o c d h b
 | [],_,_,_=>rfl
 |a::b,d,h,p=>by
  rw[gS,gS,p a aaV];exact F1 b _ _ λa r=>p a (by simp[r])
def F2 {d:List Int->List Int->Bool}{h k:List Int}: ∀(a:List (List Int)) (b c:Nat),gS d h b c (a++ [k])=if d h k=true then gS d h b c a else b+a.length
 | [],b,c=>by rfl
 |o::a,b,c=>by
  rw[a7M,gS,F2 a,gS,a6E];split<;>omega
theorem F3 (b:List (a1.T e)) (y:R) (c:List Int) (z:Own) (h:U) (E:bA h (e+1) (a1.node b) y) (F:c.length<=1000) (G: ∀d∈b,(a1.ba e d).length<=100000/\a1.ba e d≠ []/\(a1.cM e d).length<=1000):
  AC Tryz.prog 175 [y,.J (ad c) z] h λL o=>h.sub o/\L= .v (.int .i64 (gS kH c 0 0 (b.map (a1.cM e)):Int)):=by
 obtain⟨j,l,m,n,rfl,P,p,_,S⟩:=E;rw[a1.fo]at p S;have q:=p.len;have s:gS kH c 0 0 []=0:=rfl;refine aK hm PN ?_;refine cg [0,1] (λa:Nat=> [(5,.v (.int .i64 (gS kH c 0 0 ((b.map (a1.cM e)).take a)))),(6,.v (.int .i64 (a)))]) (λa o=>a<=b.length/\h.sub o) (λa=>b.length - a) 0 ⟨⟨aaU,U.a6⟩,aO⟩ ?_;rintro a T ⟨k,r⟩ t;have u:=rd r P;refine aa ?_;refine aH (λd=> ?_) λd=> ?_
 .have k:a<b.length:=aaU;have V:=F2 (d:=kH) (h:=c) (k:=a1.cM e b[a]) ((b.map (a1.cM e)).take a) 0 0;rw[a6C,a6J,a8k aaU,show(b.map (a1.cM e)).take a++ [a1.cM e b[a]]=(b.map (a1.cM e)).take (a+1) by simp[a7K,k]]at V;have x:=G _ (a6Z k);obtain⟨v,aK,C⟩:=p.get (a6y k);obtain⟨w,_,_,rfl,_⟩:=C.ptr;generalize b[a]=D at*;refine cl (a0F e D _ T (bA.mono r C) x.1 x.2.1) ?_;rintro _ W ⟨f,g,rfl⟩;refine cl (EJ c (a1.cM e D) z g W F x.2.2) ?_;rintro _ A ⟨i,rfl⟩;have B:=U.au r (U.au f i);refine aa ?_;refine aH (λc2=> ?_) λc2=> ?_;grind;grind
 .rw[a6z (by rw[a6J];omega)]
theorem a0H {b c:List Int->List Int->Bool} (d: ∀a∈O,b a q=c a q):a1.dT b O q=a1.dT c O q:=by
 unfold a1.dT;have r: ∀O:List (List Int),(∀a∈O,b a q=c a q)->O.takeWhile (λa=>b a q)=O.takeWhile (λa=>c a q)/\O.dropWhile (λa=>b a q)=O.dropWhile (λa=>c a q):=by
  intro O
  induction O with
  |nil=>intro _;trivial
  |cons h O ih=>intro d;obtain⟨k,o⟩:=ih λa p=>d a (by simp[p]);simp only[a7U,a9d,d h aaV];rw[k,o];trivial
 simp_all
structure GT (d h:Nat) (t:a1.T h):Prop where
 wf:a1.jQ h t
 dX:a1.hg bC (a1.ba h t)
 ok: ∀x∈a1.ba h t,bN d x
 dK:(a1.ba h t).length<=1000
def yA {a:a1.T e} (b:a1.ba e a≠ []):a1.cM e a∈a1.ba e a:=by
 unfold a1.cM;cases c:a1.ba e a with
 |nil=>trivial
 |cons d h=>simp
structure a0I (d:Nat) {h:Nat} (bF:List (a1.T h)) (p:List Int):Prop where
 ne:bF≠ []
 two:2<=bF.length/\bF.length<=4
 gw: ∀c∈bF,GT d h c/\a1.WF h c/\a1.ba h c≠ []/\bN d (a1.cM h c)
 F4:gS kH p 0 0 (bF.map (a1.cM h))=a1.cQ bC p (bF.map (a1.cM h))
 at_: ∃c,bF[a1.cQ bC p (bF.map (a1.cM h))]? =some c
theorem GT.kids (x:1<=e) (y:e<=8) {d:List (a1.T i)} (p:GT e (i+1) (a1.node d)) (z:bN e q):a0I e d q:=by
 obtain⟨D,E,T,r⟩:=p.wf;rw[a1.dI]at D E r;have r:=r aaU;have V: ∀a∈d,a1.WF i a:=T;have h:=p.dX;have k:=p.ok;have F:=p.dK;rw[a1.fN]at h k F;have o:d≠ []:=by intro W;subst W;simp at D
 have c: ∀a∈d,GT e i a/\a1.WF i a/\a1.ba i a≠ []/\bN e (a1.cM i a):=by intro a b;have C:=V a b;have f:=a1.hf.1 C;have o:=a1.ye aaU f.2.2;obtain⟨v,w,g⟩:=a8V b;rw[g,a7r,a7a]at h k F;have j:=(a7G.1 (a7G.1 h).2.1).1;refine⟨⟨a1.jQ.of C,j,λl m=>k l (by simp[m]),by grind⟩,C,o,k _ (by simp[yA o])⟩
 refine⟨o,⟨r,E⟩,c,?_,?_⟩
 .rw[F1 _ _ _ λA n=>by
   obtain⟨a,b,rfl⟩:=a6S.1 n;exact EN x y z (c a b).2.2.2]
  refine a0G ?_;rw[a8Z];have s:=(List.pairwise_flatMap.1 h).2;refine aag (λ{G L} P S t=> ?_) s;intro u;exact(ga x y).trans q _ _ z (c G P).2.2.2 (c L S).2.2.2 u (t _ (yA (c G P).2.2.1) _ (yA (c L S).2.2.1))
 .obtain⟨a,b,_⟩:=a1.vf (ga x y) z o (λa b=>by grind[a1.hf]) h k;exact⟨a,b⟩
theorem a0J (P:1<=e) (S:e<=8) (b:List Int) (T:Own) (D:bN e b): ∀(a:Nat) (d:a1.T a) (E:R) (k:U),bA k a d E->GT e a d->b∉a1.ba a d->
  AC Tryz.prog 122 [E,.J (ad b) T] k λV i=>k.sub i/\ ∃x F,V= .J x F/\aB (bA i a) (a1.eS bC b a d) x:=by
 have l6:=D.len;intro a
 induction a with
 |zero=>rintro d _ k ⟨j,M,F,N,rfl,y,c⟩ G l;obtain⟨O,rfl⟩:=a1.ig d;rw[a1.rb]at c;obtain⟨_,Q,_,_⟩:=G.wf;have W:=G.ok;rw[a1.hF]at Q;rw[a1.jn]at W;have m:=U.ae y;refine aK hm C0 ?_;refine cl (a0z O M F T b k c aaU (λV X=>by have:=(W V X).len;omega) aaU) ?_;rintro _ n ⟨z,Y,Z,rfl,q⟩;rw[a0H (c:=bC) λj9 s=>EN P S (W j9 s) D]at q;refine cl (EX _ Y Z n q (by rw[a1.oD];omega)) ?_;rintro _ l7 ⟨k0,x,k1,rfl,L⟩;refine aa ?_;exact⟨_,U.a6,U.au z k0,x,k1,rfl,L⟩
 |succ a ih=>
  intro d E k L G l;obtain⟨h,rfl⟩:=a1.gu d;have C:=G.kids P S D;have t:=F3 h E b T k L aaU λo p=>by
   obtain⟨r,_,l8,k2⟩:=C.gw o p;have:=r.dK;have:=k2.len;grind
  obtain⟨j,l9,F,N,rfl,y,c,_,_⟩:=L;rw[a1.fo]at c;have n0:=c.len;obtain⟨n1,n2⟩:=C.two;have n3: ¬(h.length:Int)=0:=aaU;have m:=U.ae y;obtain⟨o,p⟩:=C.at_;have u:a1.eS bC b (a+1) (a1.node h)=(a1.chunks (h.take (a1.cQ bC b (h.map (a1.cM a)))++a1.eS bC b a o++h.drop (a1.cQ bC b (h.map (a1.cM a))+1))).map a1.node:=by simp only[a1.eS,a1.fo];rw[p]
  rw[u];rw[C.F4]at t;clear u;generalize a1.cQ bC b (h.map (a1.cM a))=v at*;have n4:=(a6H.1 p).1;obtain⟨r,_,_,_⟩:=C.gw o (a6D p);have w:b∉a1.ba a o:=λs=>l (by rw[a1.fN];grind);obtain⟨_,_,n5,n9⟩:=a1.ri (ga P S) D a o r.wf r.dX r.ok w;have a00:=bA.c c;obtain⟨_,a01,A⟩:=c.get p;obtain⟨a02,_,_,rfl,_⟩:=A.ptr;refine aK hm C0 ?_;refine cl t ?_;rintro _ n ⟨z,rfl⟩;have m:=rd z y;have f:=c.take v;refine sB (bA.c f) λa03 k3 B=> ?_;have a04:=rd (U.au z B.sub) y;refine cl (ih o _ k3 (A.fY eP) r w) ?_;rintro _ a05 ⟨k4,x,a06,rfl,g⟩;have a07:=g.len;refine kx (B.mono k4) (bA.c f) (bA.c g) (λa08 k5 k6 k7=> ?_);have a09:k5.read j= _:=U.ae di;have H:=(f.mono λ_ _ a=>bA.fY (eP) a).append (g.mono λ_ _=>bA.fY k7);have I:=c.drop (v+1);refine kx k6 (bA.c H) (bA.c I) (λk8 K k9 l0=> ?_);have l1:=(H.mono λ_ _=>bA.fY l0).append (I.mono λ_ _ a=>bA.fY (eP) a);refine cl (yx K _ _ k8 K l1 (by grind) U.a6) ?_;rintro _ a10 ⟨l2,l3,l4,rfl,l5⟩;refine aa ?_;exact⟨_,U.a6,U.au z (U.au k9.sub l2),l3,l4,rfl,l5⟩
def ec:dC->List (List Int)
 |none=> []
 |some ⟨a,b⟩=>a1.ba a b
def gT (a:Nat):dC->Prop
 |none=>True
 |some ⟨b,c⟩=>GT a b c
def kJ (a:dC) (b:List Int):dC:=
 match a with
 |none=>some ⟨0,a1.leaf [b]⟩
 |some ⟨c,a⟩=>if b∈a1.ba c a then some ⟨c,a⟩else pU (a1.eS bC b c a)
def a0K (z:1<=e) (C:e<=8) (c:List Int) (k:Own) (D:bN e c) (a:dC) (E:R) (o:U) (d:fe o a E) (S:gT e a):
  AC Tryz.prog 66 [E,.J (ad c) k] o λp F=>o.sub F/\ ∃G r,p= .aJ [G,.v (.bool r)]/\fe F (kJ a c) G:=by
 match a with
 |none=>obtain rfl:=d;refine aK hm BU ?_;refine dF U.a6 (by simp[aW,R.cells]) λT v V=> ?_;refine aa ?_;refine bp λL W=> ?_;exact⟨_,U.a6,U.au V.sub (U.af U.a6 W),_,_,rfl,L,_,T,.nil,rfl,U.ai _ _ _,⟨k,rfl⟩,trivial⟩
 |some ⟨x,a⟩=>
  obtain⟨r,L,w,rfl,A⟩:=bA.ptr d;have b:GT e x a:=S;have B:=b.dK;refine aK hm BU ?_;refine cl (yy x a (.ptr r 0) o d aaU) ?_;rintro _ P ⟨y,f,g,rfl,i⟩;refine np (yz _ f g k c P i aaU λp j=>by have:=(b.ok p j).len;omega) ?_;refine aH (λh=> ?_) λh=> ?_
  .refine⟨_,U.a6,y,_,_,rfl,?_⟩;simp only[kJ,if_pos h];exact bA.mono y d
  .refine cl (a0J z C c k D x a (.ptr r 0) P (bA.mono y d) b h) ?_;rintro _ l ⟨m,n,q,rfl,s⟩;obtain⟨_,_,H,I⟩:=a1.ri (ga z C) D x a b.wf b.dX b.ok h;refine cl (a0D _ n q l s aaU) ?_;rintro p K ⟨t,u⟩;refine aa ?_;refine⟨_,U.a6,U.au y (U.au m t),_,_,rfl,?_⟩;simp only[kJ,if_neg h];exact u
structure hn (d:Nat) (b:List Int×List Int):Prop where
 ok:cO b.1 b.2 d=true
 aT:dj b.1
 aS:dj b.2
theorem lB:cO q b8 e=true↔1<=e/\e<=8/\q.length=e/\b8.length=e/\ ∀a,a<e->q.getD a 0<=b8.getD a 0:=by unfold cO;grind
theorem F5 {b:Int->Int->Int} (h: ∀a c,b a c=a\/b a c=c) (k:dj q) (o:dj b8):dj (List.zipWith b q b8):=by intro a d;obtain⟨p,r,rfl⟩:=a7l d;grind[List.length_zipWith,List.getElem_mem]
theorem F6 {a:Int->Int->Int} (b:e<q.length) (c:e<b8.length):(List.zipWith a q b8).getD e 0=a (q.getD e 0) (b8.getD e 0):=by grind
theorem yB {d h:List Int×List Int} (a:hn e d) (b:hn e h):hn e (cP d h):=by
 have c:=lB.1 a.ok;have k:=lB.1 b.ok;unfold cP;rw[c.2.2.1,k.2.2.1,if_pos a.ok,if_pos b.ok,if_pos rfl];refine⟨lB.2 ⟨c.1,c.2.1,by simp_all,by simp_all,λr x=> ?_⟩,?_,?_⟩;grind
 .exact F5 (λo p=>by omega) a.aT b.aT
 .exact F5 (λo p=>by omega) a.aS b.aS
theorem pV {a:List Int×List Int} (b:hn e a):cP ([],[]) a=a:=by have c:=lB.1 b.ok;unfold cP;have:cO ([]) [] ([]:List Int).length=false:=rfl;rw[if_neg (by rw[this];simp),c.2.2.1,if_pos b.ok]
def yC (c:1<=e) (d:e<=8) (a:bN e q):hn e (gq q):=by have b:=a.len;unfold gq;rw[if_pos aaU];exact⟨lB.2 ⟨c,d,b,b,λ_ _=>aaq _⟩,a.kI,a.kI⟩
structure mC (d:Nat) (n:Nat) (y:gM):Prop where
 live:y.live=n
 aR:(n=0/\y.aR=([],[]))\/(0<n/\hn d y.aR)
theorem F7 {h:Nat} (o:1<=h) (p:h<=8): ∀(b:List (List Int)) (c:Nat) (a:gM),(∀d∈b,bN h d)->mC h c a->mC h (c+b.length) ((b.map λd=>(d,true)).foldl dR a)
 | [],c,a,_,k=>by trivial
 |d::b,c,a,r,k=>by
  rw[a6Q,a7j,a6E,show c+(b.length+1)=(c+1)+b.length by omega];refine F7 o p b (c+1) _ (λy z=>r y (by simp[z])) ?_;have C:=yC o p (r d aaV);rw[dR,if_pos rfl];refine⟨by rw[show(({a with live:=a.live+1,aR:=cP a.aR (gq d)}:gM)).live=a.live+1 from rfl,k.live];omega,.inr ⟨aaU,?_⟩⟩;rcases k.aR with ⟨_,x⟩|⟨_,x⟩;grind[cP,gq,pV]
  .exact yB x C
structure iT (d n:Nat) (k:aq):Prop where
 sum:k.sum.length=32
 live:k.live=n
 size:k.size=n
 pos:1<=n
 aR:hn d (k.aT,k.aS)
 key:bN d k.key
def F8 {k:Nat}: ∀(a:List (aq×Nat)) (b:Nat) (d:gM),(∀c∈a,iT k c.2 c.1)->mC k b d->mC k (b+(a.map Prod.snd).sum) ((a.map Prod.fst).foldl ev d)
 | [],b,d,_,o=>by trivial
 |(c,h)::a,b,d,y,o=>by
  have p:=y (c,h) aaV;simp only[a6Q,a7j,a7Q];rw[show b+(h+(a.map Prod.snd).sum)=(b+h)+(a.map Prod.snd).sum by omega];refine F8 a (b+h) _ (λz C=>y z (by simp[C])) ?_;have r:=p.aR;have D:=p.pos;refine⟨?_,.inr ⟨by have:1<=h:=D;omega,?_⟩⟩
  .show d.live+c.live= _;rw[o.live,p.live];push_cast;rfl
  .show hn k (cP d.aR (c.aT,c.aS));rcases o.aR with ⟨_,x⟩|⟨_,x⟩
   .rw[x,pV r];exact r
   .exact yB x r
def bK:(a:Nat)->a1.T a->aq
 |0,b=>fm (cU (a1.rows b))
 |a+1,b=>fm (eo ((a1.kids b).map (bK a)))
def dD:(a:Nat)->a1.T a->bY
 |0,b=>cU (a1.rows b)
 |a+1,b=>eo ((a1.kids b).map (bK a))
def ti: ∀ {a:Nat}{b:a1.T a},bK a b=fm (dD a b)
 |0,_=>rfl
 | _+1,_=>rfl
def a0L:dD 0 (a1.leaf O)=cU O:=rfl
def yD {a:List (a1.T e)}:dD (e+1) (a1.node a)=eo (a.map (bK e)):=rfl
structure dp (d h:Nat) (t:a1.T h):Prop where
 wf:a1.jQ h t
 ok: ∀x∈a1.ba h t,bN d x
 dK:(a1.ba h t).length<=1048576
def GT.fQ {b:a1.T e} (a:GT i e b):dp i e b:=⟨a.wf,a.ok,by have:=a.dK;omega⟩
theorem dp.gw {d:List (a1.T e)} (b:dp i (e+1) (a1.node d)): ∀a∈d,dp i e a/\a1.WF e a:=by obtain⟨z,C,p,D⟩:=b.wf;have c:=b.ok;have h:=b.dK;rw[a1.fN]at c h;intro a k;have o:=p a k;obtain⟨E,F,r⟩:=a8V k;rw[r,a7r,a7a]at c h;exact⟨⟨a1.jQ.of o,λx y=>c x (by simp[y]),by grind⟩,o⟩
def dp.ne {a:a1.T e} (b:dp i e a):a1.ba e a≠ []:=a1.ye b.wf.1 b.wf.2.2.1
structure yE (d n:Nat) (x:bY):Prop where
 tj:x.In d
 kK:iT d n (fm x)
 oI:fI d x=some (fm x)
variable{w j3:aq}
def iT.ne (a:iT e i w):w≠az:=by rintro rfl;have:=a.size;have:=a.pos;simp[az]at*;omega
theorem iT.ok {b c:Nat}{d:aq} (a:iT b c d) (h:c<=1048576):fl b d=true:=by have k:=a.size;have o:=a.live;have p:=a.pos;unfold fl;rw[decide_eq_false a.ne,aaJ,a6B];refine⟨aaW,?_⟩;rw[if_neg aaU];exact a.aR.ok
def iT.kK (a:iT e i w) (c:i<=1048576):w.In e:=by have d:=a.size;have h:=a.live;have k:=a.pos;have b:=lB.1 a.aR.ok;have o:w.aT.length=e:=b.2.2.1;have p:w.aS.length=e:=b.2.2.2.1;have r:=a.key.len;exact⟨a.sum,a.aR.aT,a.aR.aS,a.key.kI,aaU,aaU,aaU,aaU,aaU,aaU,aaU⟩
theorem vg (o:1<=e) (p:e<=8) (c:1<=O.length) (r:O.length<=4) (b: ∀a∈O,bN e a):yE e O.length (cU O):=by
 have x:dQ e (cU O)=true:=by unfold dQ cU;simp only[aaS,a6J,List.all_nil,aaI,a6G,decide_true,a6B,a6P,decide_eq_true_eq,Function.comp];refine⟨λa d=>(b a d).len,?_⟩;simp[c,r]
 have h:=F7 o p O 0 ⟨0,(cU O).rows.length,([],[])⟩ b ⟨rfl,.inl ⟨rfl,rfl⟩⟩;have y:eD (cU O)=(O.map λa=>(a,true)).foldl dR ⟨0,(cU O).rows.length,([],[])⟩:=rfl;rw[<-y,a7c]at h;have z:(eD (cU O)).size=O.length:=by rw[yq];simp[cU]
 have C:hn e (eD (cU O)).aR:=by
  rcases h.aR with ⟨k,_⟩|⟨_,k⟩
  .omega
  .exact k
 refine⟨⟨x,λa d=> ?_,λF G=>by trivial⟩,⟨ox _,h.live,z,c,C,?_⟩,?_⟩
 .obtain⟨D,E,rfl⟩:=a6S.1 d;exact(b D E).kI
 .show bN e (keyOf (cU O))
  match O,c with
  |a::O,_=>exact b a aaV
 .unfold fI;grind
def a0M:(fm (cU O)).key=O.headD []:=by show keyOf (cU O)= _;cases O<;>rfl
theorem a0N {a:List (aq×Nat)} (o:2<=a.length) (z:a.length<=4) (c: ∀b∈a,iT e b.2 b.1) (p:(a.map Prod.snd).sum=i) (L:i<=1048576):yE e i (eo (a.map Prod.fst)):=by
 have r: ∀b∈a,b.2<=i:=λb c=>by
  rw[<-p];obtain⟨P,S,rfl⟩:=a8V c;simp;omega
 have C:dQ e (eo (a.map Prod.fst))=true:=by unfold dQ eo;simp only[aaS,a6J,List.all_nil,a8e,a6G,decide_true,a6B,a6P,Function.comp];refine⟨λb d=>(c b d).ok (by have:=r b d;omega),?_⟩;simp[o,z];exact λT V d=>⟨(c _ d).key.len,(c _ d).ne⟩
 have x:=F8 a 0 ⟨0,0,([],[])⟩ c ⟨rfl,.inl ⟨rfl,rfl⟩⟩;have D:eD (eo (a.map Prod.fst))=(a.map Prod.fst).foldl ev ⟨0,0,([],[])⟩:=rfl;rw[<-D,a7c,p]at x;have E:1<=i:=by
  match a,o with
  |b::a,_=>have:=(c b aaV).pos;have:=r b aaV;omega
 have F:(eD (eo (a.map Prod.fst))).size=i:=by
  rw[yq,<-p];have: ∀(a:List (aq×Nat)),(∀b∈a,iT e b.2 b.1)->(((a.map Prod.fst).map (·.size)).sum:Int)=(((a.map Prod.snd).sum:Nat):Int):=by
   intro a
   induction a with
   |nil=>intro _;rfl
   |cons b a ih=>intro d;simp only[a6Q,a7Q];rw[ih λh k=>d h (by simp[k]),(d b aaV).size];push_cast;rfl
  simp only[eo,a6G];rw[this a c];simp
 have G:hn e (eD (eo (a.map Prod.fst))).aR:=by
  rcases x.aR with ⟨y,_⟩|⟨_,y⟩
  .omega
  .exact y
 refine⟨⟨C,λW f=>by trivial,λb d=> ?_⟩,⟨ox _,x.live,F,E,G,?_⟩,?_⟩
 .obtain⟨h,k,rfl⟩:=a6S.1 d;exact(c h k).kK (by have:=r h k;omega)
 .show bN e (keyOf (eo (a.map Prod.fst)))
  match a,o with
  |b::a,_=>exact(c b aaV).key
 .unfold fI;grind
def lC {r:Nat} (y:1<=r) (z:r<=8): ∀(a:Nat) (c:a1.T a),dp r a c->yE r (a1.ba a c).length (dD a c)/\(bK a c).key=a1.cM a c
 |0,c,d=>by
  obtain⟨E,rfl⟩:=a1.ig c;obtain⟨x,k,_⟩:=d.wf;rw[a1.hF]at x k;have C:=d.ok;rw[a1.jn]at C;exact⟨vg y z x k C,a0M⟩
 |a+1,c,d=>by
  obtain⟨h,rfl⟩:=a1.gu c;obtain⟨x,k,S,o⟩:=d.wf;rw[a1.dI]at x k o;have o:=o aaU;have D:=d.gw;have F:=d.dK;have ih:=λb p=>lC y z a b (D b p).1;have G:(h.map λb=>(bK a b,(a1.ba a b).length)).map Prod.fst=h.map (bK a):=by rw[a8D];rfl
  have L:((h.map λb=>(bK a b,(a1.ba a b).length)).map Prod.snd).sum=(a1.ba (a+1) (a1.node h)).length:=by rw[a8D,a1.fN,List.length_flatMap];rfl
  have:=a0N (by simpa using o) (by simpa using k) (λT P=>by
   obtain⟨b,p,rfl⟩:=a6S.1 P;simp only[ti];exact(ih b p).1.kK) L F
  rw[G]at this;refine⟨this,?_⟩
  match h,o with
  |b::h,_=>
   show(bK a b).key= _;have p:=ih b aaV;rw[p.2];unfold a1.cM;rw[a1.fN,a7a];have:=(D b aaV).1.ne;cases V:a1.ba a b with
   |nil=>trivial
   |cons W E=>rfl
def kL (b:1<=i) (c:i<=8) {a:a1.T e} (d:dp i e a):iT i (a1.ba e a).length (bK e a):=by rw[ti];exact(lC b c e a d).1.kK
def a0O (b:1<=i) (c:i<=8) {a:a1.T e} (d:dp i e a):(bK e a).key=a1.cM e a:=(lC b c e a d).2
theorem dp.high {r:Nat}: ∀(a:Nat) (b:a1.T a),dp r a b->a+1<=(a1.ba a b).length
 |0,b,c=>by
  have:=c.ne;grind
 |a+1,b,c=>by
  obtain⟨h,rfl⟩:=a1.gu b;obtain⟨x,y,z,d⟩:=c.wf;rw[a1.dI]at x y d;have d:=d aaU;have k:=c.gw
  match h,d with
  |o::p::h,_=>have C:=dp.high a o (k o aaV).1;have D:=dp.high a p (k p aaV).1;rw[a1.fN,a7a,a7a];simp only[a6A];omega
def im (a b:Int):Int:=if a<b then -1 else if b<a then 1 else 0
def hI:List Int->List Int->Int
 | [],[]=>0
 | [],_:: _=> -1
 | _:: _,[]=>1
 |a::c,b::d=>if im a b=0 then hI c d else im a b
def F9 (b:Int) (a:U):AC Tryz.prog 334 [.v (.int .i64 b)] a λc d=>d=a/\c= .v (.bool false):=by
 refine aK hm TM ?_
 repeat' first|refine aH (λ_=> ?_) λ_=> ?_|trivial
def Fa (b c:Int) (a:U):AC Tryz.prog 314 [.v (.int .i64 b),.v (.int .i64 c)] a λd h=>h=a/\d= .v (.int .i64 (im b c)):=by
 refine aK hm To ?_;refine bk (F9 b a) ?_;refine bk (F9 c a) ?_
 repeat' first|refine aH (λ_=> ?_) λ_=> ?_|trivial
 .rw[im,if_pos ‹_›]
 .rw[im,if_neg ‹_›,if_pos ‹_›]
 .rw[im,if_neg ‹_›,if_neg ‹_›]
theorem drop_cons {a:List b0}{b:b0} (c:e<a.length):a.drop e=a.getD e b::a.drop (e+1):=by simp_all
theorem tk {a:List b0} (b:a.length<=e):a.drop e= []:=a7n b
theorem a0P (b c:List Int) (h k:Own) (d:U) (y:b.length<=1000000000000):AC Tryz.prog 315 [.J (ad b) h,.J (ad c) k] d λo p=>p=d/\o= .v (.int .i64 (hI b c)):=by
 have z:=bM (q:=b);have C:=bM (q:=c);have D:= @dP b;have E:= @dP c;refine aK hm Tq ?_;refine gL [0,1,9,10] (λa:Nat=> [(11,.v (.int .i64 a))]) (λa=>a<=b.length/\a<=c.length/\hI b c=hI (b.drop a) (c.drop a)) (λa=>b.length - a) 0 ⟨aaU,aaU,rfl⟩ aO ?_;rintro a ⟨F,G,L⟩ P;refine aa ?_;refine aH (λr=> ?_) λr=> ?_
 .refine aH (λx=> ?_) λx=> ?_
  .rw[drop_cons (b:=0) aaU,tk (a:=c) aaU,hI]
  .have S:=drop_cons (a:=b) (b:=0) (e:=a) aaU;have T:=drop_cons (a:=c) (b:=0) (e:=a) aaU;refine bk (Fa _ _ _) ?_;refine aH (λc2=> ?_) λc2=> ?_
   .rw[hI,if_neg c2]
   .rw[hI,if_pos aaU];grind
 .repeat' first|refine aH (λ_=> ?_) λ_=> ?_|trivial
  .rw[tk aaU,drop_cons (b:=0) aaU,hI]
  grind[tk,hI]
def cH (a:Nat) (b c:List Int):Int:=if im (b.getD a 0) (c.getD a 0)=0 then hI b c else im (b.getD a 0) (c.getD a 0)
def Fb (a b:List Int) (o p:Own) (c:Nat) (d:U) (h:Nat) (z:d.read h=some [.v (.int .i64 (c:Int))]) (C:c<a.length) (D:c<b.length) (r:a.length<=1000000000000):
  AC Tryz.prog 313 [.J (ad a) o,.J (ad b) p,.ptr h 0] d λx y=>y=d/\x= .v (.int .i64 (cH c a b)):=by
 have E:= @dP a;have F:= @dP b;refine aK hm Tm ?_;refine bk (Fa _ _ _) ?_;refine aH (λk=> ?_) λk=> ?_
 .rw[cH,if_neg k]
 .refine bk (a0P _ _ _ _ _ r) ?_;rw[cH,if_pos aaU]
def Fc (o a b:Nat) (y:0<a) (z:b<=1000000000000) (C:a<=8) (d:U):
  AC Tryz.prog 276 [dJ o a,.v (.int .i64 (b:Int))] d λp h=>d.sub h/\ ∃c,h c=some (.cells [.v (.int .i64 ((b%a:Nat):Int))])/\d c=none/\p= .bG 313 [] [.ptr c 0]:=by
 have D:(b:Int).tmod (a:Int)=((b%a:Nat)):=rfl;have E: ¬(a:Int)=0:=aaU;refine aK hm SE ?_;refine bp λc r=> ?_;refine cZ λx k F G=> ?_;refine⟨_,U.a6,?_,x,U.ai _ _ _,k,rfl⟩;exact U.af (U.af U.a6 r) k
def Fe (c d:List Int) (h k:Own) (o a b:Nat) (p:0<a) (x:a<=8) (y:b<=1000000000000) (P:c.length=a) (S:d.length=a) (r:U):
  AC Tryz.prog 222 [dJ o a,.J (ad c) h,.J (ad d) k,.v (.int .i64 (b:Int))] r λz C=>C=r/\z= .v (.int .i64 (if cH (b%a) c d<0 then 0 else 1)):=by
 have T:=a8E b p;refine aK hm R4 ?_;refine bp λV D=> ?_;refine ah (Fc o a b p y x _) ?_;rintro _ E ⟨F,G,L,_,rfl⟩;refine aa ?_;refine eL ab0 (Fb c d h k (b%a) E G (U.ae L) aaU aaU aaU) ?_;rintro _ _ ⟨rfl,rfl⟩;refine aa ?_
 repeat' first|refine aH (λ_=> ?_) λ_=> ?_|trivial
 all_goals exact U.au (U.af U.a6 D) F
theorem yF (a c:List Int) (r x:Own) (k:Nat) (p:U) (F:k<a.length) (G:c.length=a.length) (L:a.length<=1000000000000):
  AC Tryz.prog 120 [.J (ad a) r,.J (ad c) x,.v (.int .i64 (k:Int))] p λy z=>z=p/\y= .v (.bool (decide (cH k a c<0))):=by
 have P:=bM (q:=a);have S:= @dP a;have T:= @dP c;have C: ∀d h:Int,im d h=0↔d=h:=λd h=>by unfold im;omega
 have V: ∀d h:Int,im d h<0↔d<h:=λd h=>by unfold im;omega
 refine aK hm Od ?_;refine aH (λD=> ?_) λD=> ?_;simp_all [cH];have W:cH k a c=hI a c:=by rw[cH,if_pos (by rw[C];omega)]
 refine gL [0,1] (λb:Nat=> [(7,.v (.int .i64 b))]) (λb=>b<=a.length/\hI (a.drop b) (c.drop b)=hI a c) (λb=>a.length - b) 0 ⟨aaU,rfl⟩ aO ?_;rintro b ⟨e,o⟩ f;refine aa ?_;refine aH (λE=> ?_) λE=> ?_
 .rw[drop_cons (b:=0) aaU,drop_cons (b:=0) (e:=b) aaU,hI]at o;refine aH (λc2=> ?_) λc2=> ?_;grind;grind
 .rw[tk aaU,tk aaU]at o;exact aV (by rw[<-o];rfl)
def eU (c:Nat) (a:List Int) (d:List (List Int)):List (List Int):=d.takeWhile (λb=>decide (cH c b a<0))++a::d.dropWhile (λb=>decide (cH c b a<0))
def ed (a:Nat) (b:List (List Int)):List (List Int):=b.foldl (λc d=>eU a d c) []
theorem a0Q (b:Nat) (c:List Int) (a:List (List Int)):(eU b c a).length=a.length+1:=by have:=congrArg List.length (a7t (p:=λd=>decide (cH b d c<0)) (l:=a));grind[List.length_append,eU,List.length_cons]
theorem yG:q∈eU e b8 O↔q=b8\/q∈O:=by have:=congrArg (λO=>q∈O) (a7t (p:=λq=>decide (cH e q b8<0)) (l:=O));simp only[a6L,eq_iff_iff]at this;grind[eU]
theorem a0R (c: ∀a<e,cH i (O.getD a []) q<0) (b:e<=O.length) (d:e<O.length-> ¬cH i (O.getD e []) q<0):eU i q O=O.take e++q::O.drop e:=by
 induction O generalizing e with
 |nil=>simp at b;subst b;rfl
 |cons h O ih=>
  cases e with
  |zero=>grind[cH,eU,List.takeWhile_cons,List.dropWhile_cons]
  |succ e=>have o:cH i h q<0:=c 0 aaU;have:=ih (λa p=>c (a+1) aaU) (by simpa using b) (λk=>d (by simpa using k));simp_all [eU]
theorem a0S (h:List (List Int)) (l:List R) (H:Own) (y F:Nat) (e:U) (m:aB isRow h l) (I: ∀G∈h,G.length=F) (k3:y<F) (k4:F<=8) (k5:h.length<=100000):
  AC Tryz.prog 174 [.J l H,.v (.int .i64 (y:Int))] e λG L=>e.sub L/\ ∃n K,aB isRow (ed y h) n/\G= .J n K:=by
 have k6:=m.len;refine aK hm PL ?_;refine cg [0,1] (λb:Nat×List R×Own=> [(6,.v (.int .i64 b.1)),(5,.J b.2.1 b.2.2)]) (λb L=>e.sub L/\b.1<=h.length/\ ∃c,(h.take b.1).foldl (λc x=>eU y x c) []=c/\c.length=b.1/\(∀G∈c,G.length=F)/\aB isRow c b.2.1) (λb=>h.length - b.1) (0,[],.nil) ⟨⟨U.a6,aaU,[],rfl,rfl,aaV,trivial⟩,aO⟩ ?_;rintro⟨z,C,bH⟩ M ⟨q,N,c,P,O,Q,p⟩ X
 dsimp only at N P O p|-
 have k7:=p.len;refine aa ?_;refine aH (λY=> ?_) λY=> ?_
 .have s:h[z]? =some (h.getD z []):=by simp_all
  obtain⟨_,k8,f,rfl⟩:=m.get s;have k9:=I _ (a6D s);have t:=eR (a:=h) (b:= []) (e:=z) aaU;generalize h.getD z []=x at*;have el: ∀a,a<c.length-> ∃E,C[a]? =some (.J (ad (c.getD a [])) E):=λa T=>by
   obtain⟨_,k,E,rfl⟩:=p.get (i:=a) (x:=c.getD a []) (by simp_all);exact⟨E,k⟩
  have Z: ∀a,a<c.length->(c.getD a []).length=F:=λa T=>Q _ (by simp_all);refine cg [0,1,5,6] (λb:Nat×List R×Own=> [(8,.v (.int .i64 b.1)),(7,.J b.2.1 b.2.2)]) (λb L=>b.1<=c.length/\(∀u<b.1,cH y (c.getD u []) x<0)/\aB isRow (c.take b.1) b.2.1/\bf M L 1 b.2.1 b.2.2) (λb=>c.length - b.1) (0,[],.nil) ⟨⟨aaU,λu d=>by simp at d,trivial,bf.nil U.a6⟩,aO⟩ ?_;rintro⟨a,V,on⟩ l0 ⟨T,v,r,W⟩ X
  dsimp only at T v r W|-
  have l1:V.length=a:=by rw[r.len,a6C];omega
  have w: ¬(a<c.length/\cH y (c.getD a []) x<0)->eU y x c=c.take a++x::c.drop a:=λd=>a0R v T λj9 D=>d ⟨j9,D⟩;by_cases jU:(a)<(z:Int)
  .obtain⟨E,l2⟩:=el a aaU;have l3:=Z a aaU;have k0:=eR (a:=c) (b:= []) (e:=a) aaU;generalize l4:c.getD a []=b at*;refine aa ?_;refine bk (yF b x E f y _ aaU aaU aaU) ?_;refine aH (λc2=> ?_) λc2=> ?_
   .refine jM (λA S=> ?_);refine eh (W.mono (U.af U.a6 S)) (r.cells λ_ _=>isRow.cells) (λk o=>by rw[a6U]at o;subst o;rfl) aaW aaW λg B D=> ?_;refine aa ?_;refine⟨(a+1,V++ [.J (ad b) E],g),⟨by simp only;omega,?_,?_,D⟩,⟨rfl,rfl⟩,by simp only;omega⟩;grind
    .simp only[k0];exact r.snoc ⟨_,rfl⟩
   .have k:=w aaU;refine jM (λA S=> ?_);refine eh (W.mono (U.af U.a6 S)) (r.cells λ_ _=>isRow.cells) (λk o=>by rw[a6U]at o;subst o;rfl) aaW aaW λg B D=> ?_;have k1:dO 1 (.J C bH) (some (.v (.int .i64 (a)))) none=some (.J (C.drop a) .any):=pz aaU (p.cells λ_ _=>isRow.cells);refine aa ?_;refine eh D (λk o=>by rcases a6L.1 o with d|d;exact r.cells (λ_ _=>isRow.cells) k d;rw[a6U]at d;subst d;rfl) ((p.drop a).cells λ_ _=>isRow.cells) aaW aaW λi k2 j=> ?_;refine aa ?_;refine⟨(z+1,V++ [.J (ad x) f]++C.drop a,i),⟨U.au q j.sub,by simp only;omega,_,rfl,?_,?_,?_⟩,⟨rfl,rfl⟩,by simp only;omega⟩;grind;grind
    .simp only[t,a8z,P,a7j,a8S,k];rw[a9K];exact(r.snoc ⟨_,rfl⟩).append (p.drop a)
  .have k:=w aaU;refine aa ?_;refine jM (λA S=> ?_);refine eh (W.mono (U.af U.a6 S)) (r.cells λ_ _=>isRow.cells) (λk o=>by rw[a6U]at o;subst o;rfl) aaW aaW λg B D=> ?_;have k1:dO 1 (.J C bH) (some (.v (.int .i64 (a)))) none=some (.J (C.drop a) .any):=pz aaU (p.cells λ_ _=>isRow.cells);refine aa ?_;refine eh D (λk o=>by rcases a6L.1 o with d|d;exact r.cells (λ_ _=>isRow.cells) k d;rw[a6U]at d;subst d;rfl) ((p.drop a).cells λ_ _=>isRow.cells) aaW aaW λi k2 j=> ?_;refine aa ?_;refine⟨(z+1,V++ [.J (ad x) f]++C.drop a,i),⟨U.au q j.sub,by simp only;omega,_,rfl,?_,?_,?_⟩,⟨rfl,rfl⟩,by simp only;omega⟩;grind;grind
   .simp only[t,a8z,P,a7j,a8S,k];rw[a9K];exact(r.snoc ⟨_,rfl⟩).append (p.drop a)
 .obtain rfl:z=h.length:=aaU;rw[a6V]at P;exact⟨C,bH,by rw[ed,P];exact p,rfl⟩
inductive aC where
 |nil
 |node (r:List Int) (live:Bool) (a b:aC)
def dL (a:U):aC->R->Prop
 | .nil,b=>b= .v (.pointer none)
 | .node k live o p,b=> ∃c r d h,b= .ptr c 0/\a c=some (.cells [.J (ad k) r,.v (.bool live),d,h])/\dL a o d/\dL a p h
def dL.mono {b c:U} (a:b.sub c): ∀ {d:aC}{h:R},dL b d h->dL c d h
 | .nil,_,k=>k
 | .node _ _ _ _,_,⟨o,p,r,x,h1,y,z,C⟩=>⟨o,p,r,x,h1,a _ _ y,z.mono a,C.mono a⟩
theorem dL.cells {b:U}: ∀ {c:aC}{a:R},dL b c a->a.cells= [a]
 | .nil,_,rfl=>rfl
 | .node _ _ _ _,_,⟨_,_,_,_,rfl,_⟩=>rfl
def _root_.Go.bD.U.part (b c d:U):U:=λa=>if c a=none\/d a≠none then b a else none
def Ff:U:=λ_=>none
theorem rj:(f.part s e0).sub f:=λa b c=>by
 grind[U.part]
def Fg {c d:U} (h:f.sub s) (k:e0.sub c):(e0.part s d).sub (c.part f d):=λo p a=>by
 rw[U.part]at a|-;split at a
 .rename_i b;rw[if_pos (b.imp_left λb=>U.bI h b)];exact k _ _ a
 .cases a
def a0T {c:U} (b:f.sub s):(e0.part s Ff).sub (e0.part f c):=λh k a=>by
 rw[U.part]at a|-;split at a
 .rename_i d;rw[if_pos (.inl (U.bI b (d.resolve_right λb=>b rfl)))];exact a
 .cases a
def pW (b:f.sub s):f.sub (s.part e0 f):=λc d a=>by rw[U.part,if_pos (.inr (by rw[a];simp))];exact b _ _ a
theorem vh (a:f e=none):s.part f e0 e=s e:=if_pos (.inl a)
def aC.size:aC->Nat
 | .nil=>0
 | .node _ _ a b=>1+a.size+b.size
def aC.all:aC->List (List Int)
 | .nil=> []
 | .node a live b c=>b.all++c.all++(if live=true then [a]else [])
def rk: ∀(c:aC) (b:R) (a:U),dL a c b->c.size<=1000000->AC Tryz.prog 112 [b] a λd h=>h=a/\d= .v (.int .i64 (c.size:Int))
 | .nil,b,a,k,_=>by
  obtain rfl:b= .v (.pointer none):=k;refine aK hm BY ?_;trivial
 | .node d live o p,b,a,⟨E,F,r,x,h1,y,z,C⟩,D=>by
  subst h1;have G:=U.ae y;simp only[aC.size]at D;refine aK hm BY ?_;refine bk (rk o r a z aaU) ?_;refine bk (rk p x a C aaU) ?_;rfl
def lD: ∀a:aC,a.all.length<=a.size
 | .nil=>by trivial
 | .node d live b c=>by
  have:=lD b;have:=lD c;simp only[aC.all,aC.size,a6A];split<;>simp<;>omega
def tl: ∀(r:aC) (b:R) (a:U),dL a r b->r.size<=1000000->AC Tryz.prog 111 [b] a λz G=> ∃x k,bf a G 1 x k/\aB isRow r.all x/\z= .J x k
 | .nil,b,a,L,_=>by
  obtain rfl:b= .v (.pointer none):=L;refine aK hm BX ?_;exact⟨_,U.a6,[],.nil,bf.nil U.a6,trivial,rfl⟩
 | .node z live C D,b,a,⟨g,k,P,S,h1,o,c,y⟩,T=>by
  subst h1;have i:=U.ae o;simp only[aC.size]at T;have j:=lD C;have l:=lD D;refine aK hm BX ?_;refine ah (tl C P a c aaU) ?_;rintro _ V ⟨m,n,p,d,rfl⟩;have q:=U.ae (p.sub _ _ o);refine aa ?_;refine ah (tl D S V (y.mono p.sub) aaU) ?_;rintro _ s ⟨t,u,E,h,rfl⟩;have v:=U.ae (E.sub _ _ (p.sub _ _ o));have w:=d.len;have A:=h.len;refine aa ?_;refine eh (p.mono E.sub) (d.cells λ_ _=>isRow.cells) (h.cells λ_ _=>isRow.cells) aaU aaU λW B c=> ?_;have H:=U.ae (c.sub _ _ o);refine aa ?_;cases live with
  |true=>refine aa ?_;refine jM (λI e=> ?_);refine eh (c.mono (U.af U.a6 e)) ((d.append h).cells λ_ _=>isRow.cells) (λK F=>by rw[a6U]at F;subst F;rfl) aaW aaW λf M y=> ?_;refine aa ?_;exact⟨_,U.a6,_,f,y,(d.append h).append ⟨⟨k,rfl⟩,trivial⟩,rfl⟩
  |false=>refine aa ?_;exact⟨_,U.a6,_,W,c,by simpa[aC.all] using d.append h,rfl⟩
def fR (b:Nat):Nat->List (List Int)->Nat->aC
 |0,_,_=> .nil
 |c+1,a,dep=>if a= []then .nil else
  .node ((ed (dep%b) a).getD (a.length/2) []) true (fR b c ((ed (dep%b) a).take (a.length/2)) (dep+1)) (fR b c ((ed (dep%b) a).drop (a.length/2+1)) (dep+1))
theorem yH {h:Nat}: ∀(b a:List (List Int)),(b.foldl (λk c=>eU h c k) a).length=a.length+b.length/\ ∀d,d∈b.foldl (λk c=>eU h c k) a↔d∈a\/d∈b
 | [],a=>by simp
 |c::b,a=>by
  obtain⟨o,p⟩:=yH b (eU h c a);refine⟨by rw[a7j,o,a0Q,a6E];omega,λd=> ?_⟩;grind[yG]
theorem pX (b:Nat) (a:List (List Int)):(ed b a).length=a.length:=by rw[ed,(yH a []).1];simp
def rl:q∈ed e O↔q∈O:=by rw[ed,(yH O []).2];simp
theorem vi (b:Nat) (E:0<b) (F:b<=8): ∀(h:Nat) (a:List (List Int)) (d:List R) (k:Own) (dep:Nat) (r:U),aB isRow a d->(∀o∈a,o.length=b)->a.length<=h->h<=100000->dep+h<=1000000->
  AC Tryz.prog 113 [.J d k,.v (.int .i64 (dep:Int))] r λo g=>r.sub g/\dL (g.part r Ff) (fR b h a dep) o
 |0,a,d,k,dep,r,x,C,v,_,_=>by
  obtain rfl:a= []:=a6F aaU;obtain rfl:d= []:=a6F x.len;refine aK hm x8 ?_;exact⟨_,U.a6,U.a6,rfl⟩
 |h+1,a,d,k,dep,r,x,C,v,N,O=>by
  have Q:=x.len;by_cases G:a= []
  .subst G;obtain rfl:d= []:=a6F x.len;refine aK hm x8 ?_;rw[fR,if_pos rfl];exact⟨_,U.a6,U.a6,rfl⟩
  have X:=a7B.2 G;have Y: ¬(a.length:Int)=0:=aaU;obtain⟨_,Z,j9,rfl⟩:=x.get (i:=0) (x:=a.getD 0 []) (by simp_all);have k0:=C (a.getD 0 []) (by simp_all);have k1:=bM (q:=a.getD 0 []);have w:(dep:Int).tmod (b:Int)=((dep%b:Nat)):=rfl;have k2: ¬(b:Int)=0:=aaU;have A:(a.length:Int).tdiv 2=((a.length/2:Nat)):=rfl;have k3: ∀L k,cC L (.J d k) (.v (.int .i64 0))=eB L d[0]? :=λL k=>og;refine aK hm x8 ?_;refine ah (a0S a d k (dep%b) b r x C (a8E _ E) F aaU) ?_;rintro _ B ⟨D,y,P,p,rfl⟩;have i:=p.len;rw[pX]at i;have j:=pX (dep%b) a;have S: ∀T∈ed (dep%b) a,T.length=b:=λT H=>C T (rl.1 H);obtain⟨z,l⟩: ∃z,ed (dep%b) a=z:=⟨_,rfl⟩;rw[fR,if_neg G];rw[l]at j S p|-;generalize I:a.length/2=c at*;obtain⟨_,k4,m,rfl⟩:=p.get (i:=c) (x:=z.getD c []) (by grind);have k5:dO 1 (.J y P) none (some (.v (.int .i64 (c))))=some (.J (y.take c) .any):=by have:=o9 (e1:= .i64) (N:=P) (b1:=(c)) aaU aaU (p.cells λ_ _=>isRow.cells);trivial
  have k6:dO 1 (.J y P) (some (.v (.int .i64 ((c)+1)))) none=some (.J (y.drop (c+1)) .any):=pz (e:=c+1) aaU (p.cells λ_ _=>isRow.cells);refine aa ?_;refine ah (vi b E F h (z.take c) (y.take c) .any (dep+1) B (p.take c) (λo V=>S o (a6M V)) (by rw[a6C];omega) aaU aaU) ?_;rintro n K ⟨W,q⟩;refine aa ?_;refine ah (vi b E F h (z.drop (c+1)) (y.drop (c+1)) .any (dep+1) K (p.drop (c+1)) (λo V=>S o (a7e V)) (by rw[a6R];omega) aaU aaU) ?_;rintro s k7 ⟨e,t⟩;clear l j i w A I;have k8:=q.cells;have k9:=t.cells;refine aa ?_;refine aN λM u=> ?_;refine aa ?_;have f:=U.af (X:= .cells [.J (ad (z.getD c [])) m,.v (.bool true),n,s]) U.a6 u;exact⟨_,U.a6,U.au D (U.au W (U.au e f)),M,m,n,s,rfl,(vh (U.bI D (U.bI W (U.bI e u)))).trans (U.ai _ _ _),q.mono (Fg D (U.au e f)),t.mono (Fg (U.au D W) f)⟩
theorem a0U {b c:U} (h: ∀a,s a=none->f a=none) (k: ∀a,c a≠none->f a=none\/b a≠none):(e0.part s c).sub (e0.part f b):=λa o d=>by
 rw[U.part]at d|-;grind
variable{X j8:bs}
def yI (c:f.sub s):(f.set e X).sub (s.set e X):=λd h a=>by
 by_cases b:d=e
 .subst b;rw[U.ai]at a|-;exact a
 .rw[U.an _ _ b]at a|-;exact c _ _ a
theorem yJ {d h:U} (o:f.sub s) (p:e0=f.set e j8) (k:f e=none):
  (d.part (s.set e X) ((s.part e0 h).set e X)).sub (d.part f h):=a0U (λc a=>by
   by_cases b:c=e
   .subst b;exact k
   .rw[U.an _ _ b]at a;exact U.bI o a) λc a=>by
   by_cases b:c=e
   .subst b;exact .inl k
   .rw[U.an _ _ b,U.part]at a;split at a;simp_all [U.an]
    .trivial
theorem vj {a:U} (b:f=e0.set e X) (c:s e=none):a.part f s e=none:=by simp_all [U.part,U.ai]
def aC.Ok (a:Nat):aC->Prop
 | .nil=>True
 | .node b _ c d=>b.length=a/\c.Ok a/\d.Ok a
theorem aC.Ok.all {c:Nat}: ∀ {d:aC},d.Ok c-> ∀b∈d.all,b.length=c
 | .nil,_,b,a=>by trivial
 | .node o live p r,⟨h1,h,k⟩,b,a=>by
  simp only[aC.all,a6L]at a;rcases a with (a|a)|a
  .exact h.all b a
  .exact k.all b a
  simp_all
def hJ (d:Nat) (h:aC) (k:Nat):aC:=
 match h with
 | .nil=> .nil
 | .node c live a b=>if max a.size b.size>2*(aC.node c live a b).size/3+1 then fR d (aC.node c live a b).all.length (aC.node c live a b).all k else .node c live a b
theorem yK (o:Nat) (j:0<o) (l:o<=8) (d:List Int) (h:Bool) (a b:aC) (F:R) (p:Nat) (k r:U) (G:dL r (.node d h a b) F) (L:r.sub k) (m:(aC.node d h a b).Ok o) (x:(aC.node d h a b).size<=100000) (k1:p<=100000):
  AC Tryz.prog 119 [F,.v (.int .i64 (p:Int))] k λy P=>k.sub P/\dL (P.part k r) (hJ o (.node d h a b) p) y:=by
 have z:=G.mono L;obtain⟨k2,k3,y,n,rfl,q,s,t⟩:=id z;have k4:=U.ae q;have u:a.size<=100000:=by simp only[aC.size]at x;omega
 have w:b.size<=100000:=by simp only[aC.size]at x;omega
 refine aK hm Ob ?_;refine bk (rk a y k s aaU) ?_;refine bk (rk b n k t aaU) ?_;have A:=lD (aC.node d h a b);have S:=rk _ _ k z aaU;rw[hJ];have B:=vi o j l (aC.node d h a b).all.length (aC.node d h a b).all;have H:=tl _ _ k z aaU;have I:=m.all;generalize aC.node d h a b=K at*;obtain⟨c,T⟩: ∃c,K.size=c:=⟨_,rfl⟩;obtain⟨C,V⟩: ∃c,a.size=c:=⟨_,rfl⟩;obtain⟨D,W⟩: ∃c,b.size=c:=⟨_,rfl⟩;rw[T]at S x A|-;rw[V]at u|-;rw[W]at w|-;clear T V W;have M:(2*(c:Int)).tdiv 3=((2*c/3:Nat)):=by grind
 obtain⟨E,e⟩: ∃E,2*c/3=E:=⟨_,rfl⟩;rw[e]at M|-;have N:max (C:Int) (D)=((max C D)):=aaU;obtain⟨f,g⟩: ∃f,max C D=f:=⟨_,rfl⟩;rw[g]at N|-;have hm:E<=100000:=aaU;clear e g;refine bk S ?_;refine aH (λO=> ?_) λO=> ?_
 .rw[if_pos aaU];refine ah H ?_;rintro _ Q ⟨X,Y,i,Z,rfl⟩;refine aa ?_;refine ah (B X Y p Q Z I aaU aaU aaU) ?_;rintro v k5 ⟨j9,k0⟩;refine aa ?_;exact⟨_,U.a6,U.au i.sub j9,k0.mono (a0T i.sub)⟩
 .rw[if_neg aaU];exact⟨_,U.a6,U.a6,G.mono (pW L)⟩
theorem rm (b:Nat): ∀(c:Nat) (a:List (List Int)) (dep:Nat),(fR b c a dep).size<=a.length
 |0,_,_=>a7b _
 |c+1,a,dep=>by
  rw[fR];split
  .exact a7b _
  .rename_i d;have:=a7B.2 d;have h:=rm b c ((ed (dep%b) a).take (a.length/2)) (dep+1);have k:=rm b c ((ed (dep%b) a).drop (a.length/2+1)) (dep+1);grind[List.length_take,pX,List.length_drop,aC.size]
theorem yL (b:Nat): ∀(d:Nat) (h:List (List Int)) (dep:Nat),(∀a∈h,a.length=b)->(fR b d h dep).Ok b
 |0,_,_,_=>trivial
 |d+1,h,dep,o=>by
  rw[fR];split
  .trivial
  .rename_i p;have:=a7B.2 p;have k: ∀a∈ed (dep%b) h,a.length=b:=λa c=>o a (rl.1 c);refine⟨?_,yL b d _ _ λa c=>k a (a6M c),yL b d _ _ λa c=>k a (a7e c)⟩;grind[ed,pX,List.getD,List.getElem?_eq_getElem,List.getElem_mem]
theorem a0V (b:Nat) (a:aC) (c:Nat):(hJ b a c).size<=a.size:=by
 unfold hJ;split
 .trivial
 .split
  .exact a7y (rm _ _ _ _) (lD _)
  .omega
variable{a7:aC}
def yM (b:Nat) (a:a7.Ok e):(hJ e a7 b).Ok e:=by
 unfold hJ;split
 .trivial
 .split
  .exact yL _ _ _ _ a.all
  .exact a
def cV (a:Nat) (b:List Int):aC->Nat->aC×Bool
 | .nil,_=>(.node b true .nil .nil,true)
 | .node c live d h,dep=>
  if c=b then(hJ a (.node c true d h) dep,!live)
  else if cH (dep%a) b c<0 then(hJ a (.node c live (cV a b d (dep+1)).1 h) dep,(cV a b d (dep+1)).2)
  else(hJ a (.node c live d (cV a b h (dep+1)).1) dep,(cV a b h (dep+1)).2)
theorem pY (a:Nat) (b:List Int): ∀(c:aC) (dep:Nat),(cV a b c dep).1.size<=c.size+1
 | .nil,_=>a7g _
 | .node k live d h,dep=>by
  have o:=pY a b d (dep+1);have p:=pY a b h (dep+1);grind[cV,Nat.le_trans,a0V,aC.size]
def vk {a:Nat}{b:List Int} (c:b.length=a): ∀ {r:aC} (dep:Nat),r.Ok a->(cV a b r dep).1.Ok a
 | .nil,_,_=>⟨c,trivial,trivial⟩
 | .node d live h k,dep,⟨h1,o,p⟩=>by
  rw[cV];split
  .exact yM (a7:= .node d true h k) _ ⟨h1,o,p⟩
  .split
   .exact yM (a7:= .node d live (cV a b h (dep+1)).1 k) _ ⟨h1,vk c _ o,p⟩
   .exact yM (a7:= .node d live h (cV a b k (dep+1)).1) _ ⟨h1,o,vk c _ p⟩
def yN (a:Nat) (E:0<a) (P:a<=8) (o:List Int) (g:Own) (S:o.length=a): ∀(T:aC) (V:R) (dep:Nat) (x y:U),dL y T V->y.sub x->T.Ok a->T.size+1+dep<=100000->
  AC Tryz.prog 65 [V,.J (ad o) g,.v (.int .i64 (dep:Int))] x λk H=>x.sub H/\ ∃d,k= .aJ [d,.v (.bool (cV a o T dep).2)]/\dL (H.part x y) (cV a o T dep).1 d
 | .nil,V,dep,x,y,q,z,I,K=>by
  obtain rfl:V= .v (.pointer none):=q;refine aK hm BT ?_;refine aN λb h=> ?_;refine aa ?_;exact⟨_,U.a6,U.af U.a6 h,_,rfl,b,g,_,_,rfl,(vh h).trans (U.ai _ _ _),rfl,rfl⟩
 | .node c live F G,V,dep,x,y,q,z,I,K=>by
  obtain⟨M,p,k,d,rfl,N,i,j⟩:=q;have W:=z _ _ N;have O:=i.mono z;have Q:=j.mono z;obtain⟨s,l,m⟩:=id I;have k4:=U.ae W;have k5:=bM (q:=o);have k6:=O.cells;have k7:=Q.cells;refine aK hm BT ?_;refine bp λb h=> ?_;have X:=U.af (X:= .cells [.J (ad c) p,.v (.bool live),k,d]) U.a6 h;have k8:=U.ae (X _ _ W);have k9:M≠b:=by rintro rfl;rw[h]at W;cases W
  have C:=U.bI z h;obtain⟨n,Y⟩: ∃n,n=x.set b (.cells [.J (ad c) p,.v (.bool live),k,d]):=⟨_,rfl⟩;simp only[aC.size]at K;refine aa ?_;refine ah (tg c o _ _ _ aaU) ?_;rintro _ _ ⟨rfl,rfl⟩;refine aa ?_;refine aH (λt=> ?_) λt=> ?_
  .subst t;have Z:dL ((x.part n y).set b (.cells [.J (ad c) p,.v (.bool true),k,d])) (.node c true F G) (.ptr b 0):=by have r:=U.af (X:= .cells [.J (ad c) p,.v (.bool true),k,d]) (pW (e0:=n) z) C;exact⟨b,p,k,d,rfl,U.ai _ _ _,i.mono r,j.mono r⟩
   refine ah (yK a E P c true F G _ dep _ _ Z (yI rj) ⟨s,l,m⟩ (by simp only[aC.size];omega) aaU) ?_;rintro v L ⟨r,D⟩;have l0:=U.ae (r _ _ (U.af U.a6 h _ _ W));refine aa ?_;rw[cV,if_pos rfl];exact⟨_,U.a6,U.au (U.af U.a6 h) r,_,rfl,D.mono (yJ U.a6 Y h)⟩
  rw[cV,if_neg t];have l1:(dep:Int).tmod (a:Int)=((dep%a:Nat)):=rfl;refine ah (yF o c _ _ (dep%a) _ (by rw[S];exact a8E _ E) aaU aaU) ?_;rintro _ _ ⟨rfl,rfl⟩;refine aa ?_;refine aH (λc2=> ?_) λc2=> ?_
  .refine ah (yN a E P o g S F k (dep+1) _ y i (U.af z C) l aaU) ?_;rintro _ L ⟨r,v,rfl,D⟩;have u:=r _ _ (U.ai _ _ _);have j9:eg L b=some [.J (ad c) p,.v (.bool live),k,d]:=by simp[eg,u]
   have k0:=D.cells;have e:=U.au (U.af U.a6 h) r;rw[if_pos c2];refine aa ?_;have f:=U.af (X:= .cells [.J (ad c) p,.v (.bool live),v,d]) U.a6 (vj rfl C:L.part (x.set b (.cells [.J (ad c) p,.v (.bool live),k,d])) y b=none);have w:dL _ (.node c live (cV a o F (dep+1)).1 G) (.ptr b 0):=⟨b,p,v,d,rfl,U.ai _ _ _,D.mono f,j.mono (U.au (pW (U.au (U.af z C) r)) f)⟩;have k1:=pY a o F (dep+1);refine ah (yK a E P _ _ _ _ _ dep _ _ w (yI rj) ⟨s,vk S _ l,m⟩ (by simp only[aC.size];omega) aaU) ?_;rintro k2 k3 ⟨A,B⟩;refine aa ?_;exact⟨_,U.a6,U.au (U.af e h) A,_,rfl,B.mono (yJ e rfl h)⟩
  .refine ah (yN a E P o g S G d (dep+1) _ y j (U.af z C) m aaU) ?_;rintro _ L ⟨r,v,rfl,D⟩;have u:=r _ _ (U.ai _ _ _);have j9:eg L b=some [.J (ad c) p,.v (.bool live),k,d]:=by simp[eg,u]
   have k0:=D.cells;have e:=U.au (U.af U.a6 h) r;rw[if_neg c2];refine aa ?_;have f:=U.af (X:= .cells [.J (ad c) p,.v (.bool live),k,v]) U.a6 (vj rfl C:L.part (x.set b (.cells [.J (ad c) p,.v (.bool live),k,d])) y b=none);have w:dL _ (.node c live F (cV a o G (dep+1)).1) (.ptr b 0):=⟨b,p,k,v,rfl,U.ai _ _ _,i.mono (U.au (pW (U.au (U.af z C) r)) f),D.mono f⟩;have k1:=pY a o G (dep+1);refine ah (yK a E P _ _ _ _ _ dep _ _ w (yI rj) ⟨s,l,vk S _ m⟩ (by simp only[aC.size];omega) aaU) ?_;rintro k2 k3 ⟨A,B⟩;refine aa ?_;exact⟨_,U.a6,U.au (U.af e h) A,_,rfl,B.mono (yJ e rfl h)⟩
theorem vl {a:U} (c:s=f.set e j8) (d:f e=none):((e0.part s a).set e X).sub ((e0.set e X).part f a):=λb h k=>by
 by_cases o:b=e;grind[U.ai,vh];simp_all [U.an,U.part]
def cp (b:Nat) (a:List Int):aC->Nat->aC×Bool
 | .nil,_=>(.nil,false)
 | .node c live d h,dep=>
  if c=a then(.node c false d h,live)
  else if cH (dep%b) a c<0 then(.node c live (cp b a d (dep+1)).1 h,(cp b a d (dep+1)).2)
  else(.node c live d (cp b a h (dep+1)).1,(cp b a h (dep+1)).2)
theorem pZ (a:Nat) (b:List Int): ∀(c:aC) (dep:Nat),(cp a b c dep).1.size=c.size
 | .nil,_=>rfl
 | .node k live d h,dep=>by
  have o:=pZ a b d (dep+1);have p:=pZ a b h (dep+1);grind[cp,aC.size]
def yO {a:Nat}{h:List Int}: ∀ {b:aC} (dep:Nat),b.Ok a->(cp a h b dep).1.Ok a
 | .nil,_,_=>trivial
 | .node k live o p,dep,⟨h1,c,d⟩=>by
  rw[cp];split
  .trivial
  .split
   .exact⟨h1,yO _ c,d⟩
   .exact⟨h1,c,yO _ d⟩
def yP (b:Nat) (V:0<b) (s:b<=8) (p:List Int) (W:Own) (e:p.length=b): ∀(D:aC) (E:R) (dep:Nat) (y z:U),dL z D E->z.sub y->D.Ok b->D.size+1+dep<=1000000->
  AC Tryz.prog 110 [E,.J (ad p) W,.v (.int .i64 (dep:Int))] y λc t=>y.sub t/\ ∃a,c= .aJ [a,.v (.bool (cp b p D dep).2)]/\dL (t.part y z) (cp b p D dep).1 a
 | .nil,E,dep,y,z,f,r,u,w=>by
  obtain rfl:E= .v (.pointer none):=f;refine aK hm BW ?_;exact⟨_,U.a6,U.a6,_,rfl,rfl⟩
 | .node d live g i,E,dep,y,z,f,r,u,w=>by
  obtain⟨B,o,c,a,rfl,H,P,S⟩:=f;have T:=r _ _ H;have I:=P.mono r;have K:=S.mono r;obtain⟨Y,M,N⟩:=id u;have Z:=U.ae T;have j9:=bM (q:=p);have k0:=I.cells;have k1:=K.cells;refine aK hm BW ?_;refine bp λh k=> ?_;have O:=U.af (X:= .cells [.J (ad d) o,.v (.bool live),c,a]) U.a6 k;have k2:=U.ae (O _ _ T);have k3:B≠h:=by rintro rfl;rw[k]at T;cases T
  have C:=U.bI r k;obtain⟨j,A⟩: ∃j,j=y.set h (.cells [.J (ad d) o,.v (.bool live),c,a]):=⟨_,rfl⟩;simp only[aC.size]at w;refine aa ?_;refine ah (tg d p _ _ _ aaU) ?_;rintro _ _ ⟨rfl,rfl⟩;refine aa ?_;refine aH (λl=> ?_) λl=> ?_
  .subst l;rw[cp,if_pos rfl];have x:=U.af (X:= .cells [.J (ad d) o,.v (.bool false),c,a]) (pW (e0:=j) r) C;exact⟨_,U.a6,U.af U.a6 k,_,rfl,h,o,c,a,rfl,(vh k).trans (U.ai _ _ _),P.mono (U.au x (vl A k)),S.mono (U.au x (vl A k))⟩
  rw[cp,if_neg l];have k4:(dep:Int).tmod (b:Int)=((dep%b:Nat)):=rfl;refine ah (yF p d _ _ (dep%b) _ (by rw[e];exact a8E _ V) aaU aaU) ?_;rintro _ _ ⟨rfl,rfl⟩;refine aa ?_;refine aH (λc2=> ?_) λc2=> ?_
  .refine ah (yP b V s p W e g c (dep+1) _ z P (U.af r C) M aaU) ?_;rintro _ F ⟨x,v,rfl,G⟩;have m:=x _ _ (U.ai _ _ _);have Q:eg F h=some [.J (ad d) o,.v (.bool live),c,a]:=by simp[eg,m]
   have X:=G.cells;have n:=U.au (U.af U.a6 k) x;rw[if_pos c2];refine aa ?_;have L:=U.af (X:= .cells [.J (ad d) o,.v (.bool live),v,a]) U.a6 (vj rfl C:F.part (y.set h (.cells [.J (ad d) o,.v (.bool live),c,a])) z h=none);have q:dL _ (.node d live (cp b p g (dep+1)).1 i) (.ptr h 0):=⟨h,o,v,a,rfl,U.ai _ _ _,G.mono L,S.mono (U.au (pW (U.au (U.af r C) x)) L)⟩;exact⟨_,U.a6,U.af n k,_,rfl,q.mono (vl rfl k)⟩
  .refine ah (yP b V s p W e i a (dep+1) _ z S (U.af r C) N aaU) ?_;rintro _ F ⟨x,v,rfl,G⟩;have m:=x _ _ (U.ai _ _ _);have Q:eg F h=some [.J (ad d) o,.v (.bool live),c,a]:=by simp[eg,m]
   have X:=G.cells;have n:=U.au (U.af U.a6 k) x;rw[if_neg c2];refine aa ?_;have L:=U.af (X:= .cells [.J (ad d) o,.v (.bool live),c,v]) U.a6 (vj rfl C:F.part (y.set h (.cells [.J (ad d) o,.v (.bool live),c,a])) z h=none);have q:dL _ (.node d live g (cp b p i (dep+1)).1) (.ptr h 0):=⟨h,o,c,v,rfl,U.ai _ _ _,P.mono (U.au (pW (U.au (U.af r C) x)) L),G.mono L⟩;exact⟨_,U.a6,U.af n k,_,rfl,q.mono (vl rfl k)⟩
def lE (a:Nat) (b:List Int) (c:aC):aC×Bool:=
 if(cp a b c 0).2=true/\2*(cp a b c 0).1.all.length<(cp a b c 0).1.size then(fR a (cp a b c 0).1.all.length (cp a b c 0).1.all 0,true)else cp a b c 0
def a0W (a:Nat) (z:0<a) (C:a<=8) (b:List Int) (D:Own) (L:b.length=a) (c:aC) (o:R) (k:U) (P:dL k c o) (E:c.Ok a) (u:c.size+1<=100000):
  AC Tryz.prog 62 [o,.J (ad b) D] k λS F=>k.sub F/\ ∃d,S= .aJ [d,.v (.bool (lE a b c).2)]/\dL F (lE a b c).1 d:=by
 refine aK hm Mr ?_;refine ah (yP a z C b D L c o 0 k k P U.a6 E aaU) ?_;rintro _ T ⟨p,d,rfl,V⟩;have r:=V.mono rj;have W:=yO (h:=b) 0 E;have cf:=pZ a b c 0;rw[lE];generalize cp a b c 0=e at*;obtain⟨h,f⟩:=e
 dsimp only at*
 have w:=lD h;cases f with
 |false=>refine aa ?_;rw[if_neg aaV];exact⟨_,U.a6,p,d,rfl,r⟩
 |true=>
  refine aa ?_;refine ah (tl h d T r aaU) ?_;rintro _ G ⟨A,B,x,g,rfl⟩;have y:=r.mono x.sub;have H:=g.len;refine aa ?_;refine bk (rk h d G y aaU) ?_;refine aH (λi=> ?_) λi=> ?_
  .rw[if_pos ⟨rfl,aaU⟩];refine ah (tl h d G y aaU) ?_;rintro _ j ⟨l,m,n,q,rfl⟩;refine aa ?_;refine ah (vi a z C h.all.length h.all l m 0 j q W.all aaU aaU aaU) ?_;rintro v I ⟨s,t⟩;refine aa ?_;exact⟨_,U.a6,U.au p (U.au x.sub (U.au n.sub s)),v,rfl,t.mono rj⟩
  .rw[if_neg aaU];exact⟨_,U.a6,U.au p x.sub,d,rfl,y⟩
structure oJ where
 prev:List UInt8
 num:Int
 ops:List UInt8
 Fh:List UInt8
 deriving DecidableEq
def oJ.ok (a:oJ):Prop:=a.prev.length=32/\a.ops.length=32/\a.Fh.length=32
def a0X (a:List UInt8) (b:Int) (c d:List UInt8):List R:=a.map ak++(.v (.int .i64 b)::(c.map ak++d.map ak))
def oJ.C (a:oJ):List R:=a0X a.prev a.num a.ops a.Fh
def oJ.V (a:oJ):R:= .agg a.C
def oJ.may (a:oJ):Bool:=decide (0<=a.num)&&decide (a.num<=1099511627776)
theorem yQ (a:List UInt8) (b:Nat) (c:b<a.length):(⟨a.toArray⟩:ByteArray).get! b=a[b]:=by simp[ByteArray.get!,c]
theorem Fi (a:List UInt8) (b:Nat) (c:b<a.length) (d:a[b].toNat<128):Utf8.decode ⟨a.toArray⟩ b=(a[b].toNat,1):=by simp[Utf8.decode,yQ a b c,d]
theorem decode_high (b:List UInt8) (a:Nat) (E:a<b.length) (F:128<=b[a].toNat):
  128<=(Utf8.decode ⟨b.toArray⟩ a).1/\(Utf8.decode ⟨b.toArray⟩ a).1<=1114111/\1<=(Utf8.decode ⟨b.toArray⟩ a).2/\a+(Utf8.decode ⟨b.toArray⟩ a).2<=b.length/\
   ∀c,(r:c<b.length)->a<=c->c<a+(Utf8.decode ⟨b.toArray⟩ a).2->128<=b[c].toNat:=by
 have f: ∀c,(r:c<b.length)->a<=c->c<a+1->128<=b[c].toNat:=λc r G x=>by
  grind
 have h: ∀k,(a+k<b.length/\((⟨b.toArray⟩:ByteArray).get! (a+k)).toNat/64=2)-> ∃E:a+k<b.length,128<=b[a+k].toNat:=λk g=>by
  grind[yQ]
 have S:=oa b;have T:((⟨b.toArray⟩:ByteArray).get! (a+0)).toNat=b[a].toNat:=by rw[a8A,yQ b a E]
 have i:b[a].toNat<256:=b[a].toNat_lt;unfold Utf8.decode;simp only[T,S];rw[if_neg aaU];have v: ∀z:Nat,Utf8.valid (z)=true->z<=1114111:=λz d=>by
  simp only[Utf8.valid,a8l,a6B,decide_eq_true_eq]at d;omega
 split
 .rename_i d;simp only[a6B,decide_eq_true_eq,beq_iff_eq]at d;obtain⟨L,o⟩:=d;obtain⟨P,y⟩:=h 1 o;split;grind;trivial
 .split
  .rename_i d;simp only[a6B,decide_eq_true_eq,beq_iff_eq]at d;obtain⟨⟨L,o⟩,C⟩:=d;obtain⟨P,y⟩:=h 1 o;obtain⟨V,D⟩:=h 2 C;split
   .rename_i p;simp only[a6B,decide_eq_true_eq]at p;refine⟨by simp only;omega,v _ p.2,aaV,aaW,λc r G x=> ?_⟩;rcases(by simp only at x;omega:c=a\/c=a+1\/c=a+2)with rfl|rfl|rfl
    .exact F
    .exact y
    .exact D
   trivial
  .split
   .rename_i d;simp only[a6B,decide_eq_true_eq,beq_iff_eq]at d;obtain⟨⟨⟨L,o⟩,C⟩,W⟩:=d;obtain⟨P,y⟩:=h 1 o;obtain⟨V,D⟩:=h 2 C;obtain⟨j,e⟩:=h 3 W;split
    .rename_i p;simp only[a6B,decide_eq_true_eq]at p;refine⟨by simp only;omega,v _ p.2,aaV,aaW,λc r G x=> ?_⟩;rcases(by simp only at x;omega:c=a\/c=a+1\/c=a+2\/c=a+3)with rfl|rfl|rfl|rfl
     .exact F
     .exact y
     .exact D
     .exact e
    trivial
   trivial
def fS (b:Nat) (a:Int):Bool:=(decide (97<=a)&&decide (a<=122))||(!decide (b=0)&&((decide (48<=a)&&decide (a<=57))||decide (a=95)))
def lF (b:ByteArray):Nat->Nat->Bool
 |0,_=>true
 |c+1,a=>if a<b.size then fS a (Utf8.decode b a).1&&lF b c (a+(Utf8.decode b a).2)else true
def jW (a:List UInt8):Bool:=lF ⟨a.toArray⟩ (a.length+1) 0&&decide (1<=a.length/\a.length<=16)
theorem a0Y (a:List UInt8) (b:Nat) (c:b<a.length):1<=(Utf8.decode ⟨a.toArray⟩ b).2/\b+(Utf8.decode ⟨a.toArray⟩ b).2<=a.length/\(Utf8.decode ⟨a.toArray⟩ b).1<=1114111:=by grind[Fi,decode_high]
variable{A:List UInt8}
def tm:sq (bn A)=some (.v (.int .i64 A.length)):=xk
theorem Fj (a:List UInt8) (l:a.length<=1000000) (k:U):
  AC Tryz.prog 97 [bn a] k λe o=>o=k/\e= .v (.bool (jW a)):=by
 refine bc hm Ny aaV ?_;have f: ∀(L) (V),xq (bn a) k (bX L V)=jg k (c4 (λg=>L g ⟨a.toArray⟩) ()):=λL V=>CJ;refine aF @f ?_;refine aN λr y=> ?_;refine ei ?_;refine cm (λP o=> ∃x b:Nat,b<=a.length/\a.length<x+b/\lF ⟨a.toArray⟩ x b=lF ⟨a.toArray⟩ (a.length+1) 0/\k.sub o/\o r=some (.it ⟨a.toArray⟩ b)/\P 0=bn a/\P 7= .ptr r 0)
  (λ_ o=>match o r with|some (.it _ b)=>a.length - b| _=>0) ⟨a.length+1,0,aaU,aaU,rfl,U.af U.a6 y,U.ai _ _ _,?_⟩ ?_
 .exact qT
 .rintro P o ⟨x,b,m,n,z,C,S,p,h⟩;refine aF @h ?_;by_cases D:b<a.length
  .obtain⟨x,rfl⟩: ∃i,x=i+1:=⟨x - 1,aaU⟩;obtain⟨q,s,t⟩:=a0Y a b D;have j:=oa a;rw[lF,if_pos (by rw[j];exact D)]at z;refine X2 S D ?_;generalize (Utf8.decode ⟨a.toArray⟩ b).1=c at*;generalize (Utf8.decode ⟨a.toArray⟩ b).2=E at*;have F (d:fS b c=false):jW a=false:=by rw[d,a8R]at z;rw[jW,<-z];rfl
   have u (d:fS b c=true):(∃W G:Nat,G<=a.length/\a.length<W+G/\lF ⟨a.toArray⟩ W G=lF ⟨a.toArray⟩ (a.length+1) 0/\k.sub (o.set r (.it ⟨a.toArray⟩ (b+E)))/\(o.set r (.it ⟨a.toArray⟩ (b+E))) r=some (.it ⟨a.toArray⟩ G)):=by rw[d,a8e]at z;grind[U.af,U.ai]
   have T:((b:Int)=0)=(b=0):=aaV;have v:(match o r with|some (.it _ b)=>a.length - b| _=>0)=a.length - b:=by rw[S]
   have w:(match(o.set r (.it ⟨a.toArray⟩ (b+E))) r with|some (.it _ b)=>a.length - b| _=>0)=a.length -(b+E):=by rw[U.ai]
   have A:a.length -(b+E)<a.length - b:=aaU;by_cases jX:(97)<=(c:Int)
   .by_cases a2:(c:Int)<=122
    .have d:fS b c=true:=by simp[fS,jX,a2]
     refine aF (aM @p @h @jX @a2) ?_;simp_all
    .by_cases a0:(b:Int)=0
     .have d:fS b c=false:=by simp[fS,a2];omega
      refine aF (bh @p @h @jX @a2 @a0) ?_;exact⟨k,U.af C y,rfl,by rw[F d]⟩
     .have d:fS b c=false:=by simp[fS,a2];omega
      have a3: ¬(c:Int)<48:=aaU;have a4:(57:Int)<c:=aaU;have a5: ¬(c:Int)=95:=aaU;refine aF (bt @p @h @jX @a2 @a0 @a3 @a4 @a5) ?_;exact⟨k,U.af C y,rfl,by rw[F d]⟩
   .by_cases a0:(b:Int)=0
    .have d:fS b c=false:=by simp[fS,jX];omega
     refine aF (aM @p @h @jX @a0) ?_;exact⟨k,U.af C y,rfl,by rw[F d]⟩
    .have T: ¬b=0:=aaU;by_cases a3:(c:Int)<48
     .have d:fS b c=false:=by simp[fS,jX];omega
      have a5: ¬(c:Int)=95:=aaU;refine aF (bx @p @h @jX @a0 @a3 @a5) ?_;exact⟨k,U.af C y,rfl,by rw[F d]⟩
     .by_cases a4:(57:Int)<c
      .by_cases a5:(c:Int)=95
       .have d:fS b c=true:=by simp[fS,a5,T]
        refine aF (c9 @p @h @jX @a0 @a3 @a4 @a5) ?_;simp_all
       .have d:fS b c=false:=by simp[fS,jX,a5];omega
        refine aF (c9 @p @h @jX @a0 @a3 @a4 @a5) ?_;exact⟨k,U.af C y,rfl,by rw[F d]⟩
      .have d:fS b c=true:=by simp[fS,jX,T];omega
       refine aF (bx @p @h @jX @a0 @a3 @a4) ?_;simp_all
  .have B:jW a=decide (1<=a.length/\a.length<=16):=by
    have:lF ⟨a.toArray⟩ x b=true:=by
     cases x with
     |zero=>rfl
     |succ x=>rw[lF,if_neg (by rw[oa];exact D)]
    rw[jW,<-z,this,a8e]
   refine X3 S D ?_;by_cases d1:(1:Int)<=a.length
   .by_cases d2:(a.length:Int)<=16
    .refine aF (bh @p @h @tm @d1 @d2) ?_;grind
    .refine aF (bh @p @h @tm @d1 @d2) ?_;grind
   .refine aF (aM @p @h @tm @d1) ?_;grind
def bL (a:List (List UInt8)):List R:=a.map bn
variable{e6:List (List UInt8)}
def iq:(bL e6).length=e6.length:=by simp[bL]
def tn {a:List (List UInt8)}{b:Nat} (c:b<a.length):(bL a)[b]? =some (bn (a.getD b [])):=by simp[bL,c]
def yR:eB 1 (some (bn A))=some (.bU [bn A]):=rfl
theorem a0Z (a:List (List UInt8)) (C:Own) (h:List UInt8) (T:a.length<=1000000) (d:U):
  AC Tryz.prog 207 [.J (bL a) C,bn h] d λF o=>o=d/\ ∃k:Int,F= .v (.int .i64 k)/\decide (0<=k)=decide (h∈a):=by
 refine bc hm QH aaV ?_;have G:=iq (e6:=a);refine aF @G ?_;refine cm (λc o=> ∃b:Nat,b<=a.length/\o=d/\h∉a.take b/\c 0= .J (bL a) C/\c 1=bn h/\c 7= .v (.int .i64 a.length)/\c 8= .v (.int .i64 b))
  (λc _=>match c 8 with| .v (.int _ k)=>(a.length - k).toNat| _=>0) ⟨0,aaU,rfl,aaV,?_⟩ ?_
 .exact qT
 .rintro c d ⟨b,V,rfl,W,p,r,x,y⟩;by_cases z:(b:Int)<a.length
  .have L:b<a.length:=aaU;have D:=tn L;have P:a.getD b []∈a:=by simp_all
   have e:a.take (b+1)=a.take b++ [a.getD b []]:=by simp_all
   generalize a.getD b []=S at*;by_cases E:h=S
   .refine aF (cN @p @r @x @y @z @gj @D @yR @E) ?_;refine⟨d,U.a6,rfl,b,rfl,?_⟩;simp[P]
   .refine aF (cN @p @r @x @y @z @gj @D @yR @E) ?_;grind
  .obtain rfl:b=a.length:=aaU;refine aF (bh @p @r @x @y @z) ?_;refine⟨d,U.a6,rfl,-1,rfl,?_⟩;simp_all
def a1a (b:List (List UInt8)) (d:Own) (c:List UInt8) (h:b.length<=1000000) (a:U):
  AC Tryz.prog 158 [.J (bL b) d,bn c] a λk o=>o=a/\k= .v (.bool (decide (c∈b))):=by
 refine bc hm Pe aaV ?_;refine ei ?_;refine ah (a0Z b d c h a) ?_;rintro _ a ⟨rfl,r,rfl,p⟩;refine aF @p ?_
 all_goals exact⟨a,U.a6,rfl⟩
def mD (a:List (List UInt8)) (b:Nat):Bool:=jW (a.getD b [])&&(!decide (a.getD b []= [105,100])&& !decide (a.getD b []∈a.take b))
def nI (a:List (List UInt8)):Bool:=(List.range a.length).all (mD a)&&decide (1<=a.length/\a.length<=7)
theorem yS (a:e<e6.length) (b:mD e6 e=false):nI e6=false:=by grind[nI,Bool.and_eq_false_iff,List.all_eq_false]
theorem a1b (b: ∀a,a<e6.length->mD e6 a=true):nI e6=decide (1<=e6.length/\e6.length<=7):=by
 have:(List.range e6.length).all (mD e6)=true:=by simp_all
 rw[nI,this,a8e]
theorem a1c (a:List (List UInt8)) (x:Own) (n:a.length<=1000000) (V: ∀W∈a,W.length<=1000000) (c:U):
  AC Tryz.prog 98 [.J (bL a) x] c λe E=>E=c/\e= .v (.bool (nI a)):=by
 refine bc hm NA aaV ?_;have y:=iq (e6:=a);refine aF @y ?_;refine cm (λr E=> ∃b:Nat,b<=a.length/\E=c/\(∀z,z<b->mD a z=true)/\r 0= .J (bL a) x/\r 5= .J (bL a) x/\r 6= .v (.int .i64 a.length)/\r 7= .v (.int .i64 b))
  (λr _=>match r 7 with| .v (.int _ f)=>(a.length - f).toNat| _=>0) ⟨0,aaU,rfl,λz g=>by omega,?_⟩ ?_
 .exact qT
 .rintro r c ⟨b,q,rfl,i,h,k,o,p⟩;by_cases C:(b:Int)<a.length
  .have D:b<a.length:=aaU;have j:=tn D;have l:a.getD b []∈a:=by simp_all
   have P:mD a b=(jW (a.getD b [])&&(!decide (a.getD b []= [105,100])&& !decide (a.getD b []∈a.take b))):=rfl;generalize a.getD b []=d at*;refine aF (bt @h @k @o @p @C @gj @j @yR) ?_;refine ah (Fj d (V d l) c) ?_;rintro _ c ⟨rfl,rfl⟩;cases S:jW d
   .refine aF (aM @h @k @o @p) ?_;exact⟨c,U.a6,rfl,by rw[yS D (by rw[P,S];rfl)]⟩
   .have s:(bL a).take b=bL (a.take b):=by simp[bL]
    by_cases F:d= [105,100]
    .have G:ji .eql (bn d) (.v (.string ⟨#[105,100]⟩))=some (.v (.bool true)):=by have:=qR (a:=d) (b:= [105,100]);rw[decide_eq_true F]at this;exact this
     refine aF (bh @h @k @o @p @G) ?_;exact⟨c,U.a6,rfl,by rw[yS D (by rw[P,S,decide_eq_true F];rfl)]⟩
    .have G:ji .eql (bn d) (.v (.string ⟨#[105,100]⟩))=some (.v (.bool false)):=by have:=qR (a:=d) (b:= [105,100]);rw[decide_eq_false F]at this;exact this
     have m:dO 1 (.J (bL a) x) none (some (.v (.int .i64 (b))))=some (.J (bL (a.take b)) .any):=by grind[o9,aW,bL,bn,R.cells,Int.toNat_natCast]
     refine aF (bx @h @k @o @p @G @m) ?_;refine ah (a1a (a.take b) _ d (by rw[a6C];omega) c) ?_;rintro _ c ⟨rfl,rfl⟩;by_cases T:d∈a.take b
     .refine aF (bh @h @k @o @p @T) ?_;exact⟨c,U.a6,rfl,by rw[yS D (by simp_all)]⟩
     .refine aF (bh @h @k @o @p @T) ?_;refine⟨⟨b+1,aaU,λz g=> ?_,aaV⟩,aaU⟩;grind
  .obtain rfl:b=a.length:=aaU;have L:=a1b i;by_cases d1:(1:Int)<=a.length
   .by_cases d2:(a.length:Int)<=7
    .refine aF (bt @h @k @o @p @C @y @d1 @d2) ?_;exact⟨c,U.a6,rfl,by rw[L];simp;omega⟩
    .refine aF (bt @h @k @o @p @C @y @d1 @d2) ?_;exact⟨c,U.a6,rfl,by rw[L];simp;omega⟩
   .refine aF (c9 @h @k @o @p @C @y @d1) ?_;exact⟨c,U.a6,rfl,by rw[L];simp;omega⟩
structure dq where
 kind:UInt8
 table:List UInt8
 aD:List (List UInt8)
 row:List Int
structure dr where
 d:dq
 gx:Own
 dt:Own
def dr.C (a:dr):List R:= [ak a.d.kind,bn a.d.table,.J (bL a.d.aD) a.gx,.J (ad a.d.row) a.dt]
def dr.V (a:dr):R:= .agg a.C
def dr.a1d {a:dr}:a.C.length=4:=rfl
def dr.m1 {a:dr}:aL false 1 (a.C.drop 1)=bn a.d.table:=rfl
def dr.m2 {a:dr}:aL false 1 (a.C.drop 2)= .J (bL a.d.aD) a.gx:=rfl
def dr.m3 {a:dr}:aL false 1 (a.C.drop 3)= .J (ad a.d.row) a.dt:=rfl
def dq.ok (a:dq):Prop:=a.table.length<=16/\a.aD.length<=8/\(∀b∈a.aD,b.length<=16)/\a.row.length<=255
def eV (a:dq):Bool:=jW a.table&&
  (if a.kind.toNat=1 then nI a.aD&&decide (a.row.length=0)
   else if a.kind.toNat=2 then decide (a.aD.length=0)&&decide (a.row.length=0)
   else if a.kind.toNat=3\/a.kind.toNat=4 then decide (a.aD.length=0)&&(decide (2<=a.row.length)&&decide (a.row.length<=8))
   else false)
structure dq.Fit (d:dq):Prop where
 t:d.table.length<=1000000
 c:d.aD.length<=1000000
 cs: ∀c∈d.aD,c.length<=1000000
 r:d.row.length<=1000000
def Fk (a:dr) (k:a.d.Fit) (b:U):
  AC Tryz.prog 54 [a.V] b λo p=>p=b/\o= .v (.bool (eV a.d)):=by
 obtain⟨⟨r,d,c,h⟩,x,y⟩:=a;obtain⟨z,C,D,G⟩:=k;have L:=iq (e6:=c);have P:=bM (q:=h);show AC _ _ [.agg [ak r,bn d,.J (bL c) x,.J (ad h) y]] b _;refine aK hm Mb ?_;refine bp λS T=> ?_;refine bk (Fj d z _) ?_;refine aH (λE=> ?_) λE=> ?_
 .rw[eV];exact aR
 refine aH (λF=> ?_) λF=> ?_
 .refine bk (a1c c _ C D _) ?_
  repeat' first|refine aH (λ_=> ?_) λ_=> ?_|trivial
  all_goals (rw[eV];exact aR)
 repeat' first|refine aH (λ_=> ?_) λ_=> ?_|trivial
 all_goals (rw[eV];exact aR)
def nJ (b:Nat) (a:UInt8):Bool:=(decide (97<=a.toNat)&&decide (a.toNat<=122))||(!decide (b=0)&&((decide (48<=a.toNat)&&decide (a.toNat<=57))||decide (a.toNat=95)))
def nK (a:List UInt8):Bool:=(List.range a.length).all (λb=>nJ b (a.getD b 0))&&(decide (0<a.length)&&decide (a.length<17))
def Fl (a:List UInt8) (d:U) (y:a.length<=1000000):
  AC Tryz.prog 109 [bn a] d λp h=>h=d/\p= .v (.bool (nK a)):=by
 refine aK hm NX ?_;refine cg [0] (λb:Nat=> [(3,.v (.int .i64 b))]) (λb h=>h=d/\b<=a.length/\ ∀c<b,nJ c (a.getD c 0)=true) (λb=>a.length - b) 0 ?_ ?_
 .refine aa ?_;simp
 rintro b _ ⟨rfl,z,k⟩ C;refine aa ?_;refine aH (λr=> ?_) λr=> ?_
 .have x:nJ b (a.getD b 0)=false->nK a=false:=λo=>by rw[nK,sy aaU o];rfl
  repeat' first|refine aH (λ_=> ?_) λ_=> ?_|trivial
  all_goals first
   |omega
   |(rw[x (by rw[nJ];exact qV)])
   |exact⟨b+1,⟨aaU,upto k (by rw[nJ];exact qV)⟩,rfl,aaU⟩
 have D:nK a=(decide (0<a.length)&&decide (a.length<17)):=by rw[nK,sz λc o=>k c aaU];rfl
 repeat' first|refine aH (λ_=> ?_) λ_=> ?_|trivial
 all_goals exact aR
def lG (a:List (List UInt8)) (b:Nat):Bool:=nK (a.getD b [])&&(!decide (a.getD b []= [105,100])&&(List.range b).all λc=> !decide (a.getD c []=a.getD b []))
def yT (a:List (List UInt8)):Bool:=(List.range a.length).all (lG a)
def oK (a:dq):Bool:=nK a.table&&
  (if a.kind.toNat=1 then yT a.aD&&(decide (0<a.aD.length)&&(decide (a.aD.length<8)&&decide (a.row.length=0)))
   else if a.kind.toNat=2 then decide (a.aD.length+a.row.length=0)
   else(decide (a.kind.toNat=3)||decide (a.kind.toNat=4))&&(decide (a.aD.length=0)&&(decide (1<a.row.length)&&decide (a.row.length<9))))
theorem a1e (h:dr) (E:h.d.Fit) (k:U):
  AC Tryz.prog 59 [h.V] k λF G=>G=k/\F= .v (.bool (oK h.d)):=by
 obtain⟨⟨x,o,b,p⟩,L,P⟩:=h;obtain⟨y,S,z,T⟩:=E
 dsimp only at y S z T|-
 have l:=iq (e6:=b);have m:=bM (q:=p);show AC _ _ [.agg [.v (.int .u8 x.toNat),bn o,.J (bL b) L,.J (ad p) P]] k _;refine aK hm Ml ?_;refine bp λn q=> ?_;refine bk (Fl o _ y) ?_;refine aH (λV=> ?_) λV=> ?_
 .rw[oK];exact aR
 refine aH (λW=> ?_) λW=> ?_
 .have s:yT b=(List.range b.length).all (lG b):=rfl;have t:= @tn b;have u: ∀r,ji .eql (bn r) (.v (.string ⟨#[105,100]⟩))=some (.v (.bool (decide (r= [105,100])))):=λr=>qR;have e: ∀a,a<b.length->(b.getD a []).length<=1000000:=λa f=>z _ (by simp_all);refine gL [1] (λa:Nat=> [(3,.v (.int .i64 a))]) (λa=>a<=b.length/\ ∀d<a,lG b d=true) (λa=>b.length - a) 0 ⟨aaU,λd C=>by omega⟩ (aO) ?_;rintro a ⟨f,g⟩ i;refine aa ?_;refine aH (λc2=> ?_) λc2=> ?_
  .have D:lG b a=false->oK ⟨x,o,b,p⟩=false:=λC=>by grind[oK,sy]
   refine bk (Fl _ _ (e a aaU)) ?_
   repeat' first|refine aH (λ_=> ?_) λ_=> ?_|trivial
   .exact aV (D (by rw[lG];simp_all)).symm
   .refine gL [1,3] (λc:Nat=> [(4,.v (.int .i64 c))]) (λc=>c<=a/\ ∀d<c,b.getD d []≠b.getD a []) (λc=>a - c) 0 ⟨aaU,λd C=>by omega⟩ (aO) ?_;rintro c ⟨v,j⟩ i;refine aa ?_;refine aH (λaE=> ?_) λaE=> ?_
    .refine aH (λaM=> ?_) λaM=> ?_;grind[aV,lG,sy]
     .exact⟨c+1,⟨aaU,upto j aM⟩,rfl,aaU⟩
    .refine⟨a+1,⟨aaU,upto g ?_⟩,rfl,aaU⟩;grind[lG,sz]
   .exact aV (D (by rw[lG];simp_all)).symm
  repeat' first|refine aH (λ_=> ?_) λ_=> ?_|trivial
  all_goals grind[oK,sz,aR]
 repeat' first|refine aH (λ_=> ?_) λ_=> ?_|trivial
 all_goals (rw[oK];exact aR)
theorem a1f (b a:Nat) (h:b<18446744073709551616) (k:0<a):br .quo (.int .u64 b) (.int .u64 (a:Int))=some (.int .u64 ((b/a:Nat):Int)):=by have c:br .quo (.int .u64 b) (.int .u64 (a))=(if(a:Int)=0 then none else some (.int .u64 (IntKind.u64.wrap ((b:Int).tdiv (a:Int))))):=rfl;have d:((b:Int).tdiv (a:Int))=((b/a:Nat)):=rfl;have o:=a9y b a;rw[c,if_neg aaU,d];grind[wrap_u64]
def yU (b a:Nat) (d:0<a):br .rem (.int .u64 b) (.int .u64 (a:Int))=some (.int .u64 ((b%a:Nat):Int)):=by have c:br .rem (.int .u64 b) (.int .u64 (a))=(if(a:Int)=0 then none else some (.int .u64 ((b:Int).tmod (a:Int)))):=rfl;rw[c,if_neg aaU];rfl
variable{t Z:R -> U -> Prop}
theorem rn {c:List UInt8}{k:cz t} (r:av s f 1 (c.map ak) n) (a:bV f 1 b6=some (e,A.map ak)) (x:c.length+A.length<=70368744177664)
  (y: ∀d h,av s h 1 ((c++A).map ak) d->t d h):jL 1 1 f n b6 (bX t k):=by
 have z:A.length=e:=by
  unfold bV at a;split at a
  .split at a
   .rename_i C _ D;simp only[a6K,a7J]at a;have b:=congrArg List.length a.2;rw[cR (d:=1) (by simp_all)]at b;simp at b;omega
   .cases a
  .split at a
   .split at a
    .rename_i o _ p;simp only[a6K,a7J]at a;have b:=congrArg List.length a.2;simp at b;omega
    .cases a
   .cases a
  .split at a
   .split at a
    .rename_i o _ p;simp only[a6K,a7J]at a;have b:=congrArg List.length a.2;simp at b;omega
    .cases a
   .cases a
  .cases a
 grind[fb]
end Go.Proofs.YtcfpcblgmmeioaaGreat
namespace Go.bD
open Go
theorem a1g (a:Nat) (c:a<18446744073709551616):a^^^9223372036854775808=(a+9223372036854775808)%18446744073709551616:=by
 have h:(9223372036854775808)=2^63:=aaY;have d:(18446744073709551616)=2^64:=aaY;rw[d]at c;rw[h,d];apply a9a;intro b;rw[a9T,aaN,aaj,aaa];by_cases h1:b<63
 .rw[aa2 h1];grind
 .by_cases k:b=63;grind
  .have o: ¬b<64:=aaU;have p:a.testBit b=false:=a8C (a7L c (a8o aaU aaU));grind
end Go.bD
namespace Go.Proofs.YtcfpcblgmmeioaaGreat
open Go Go.bD
theorem a1h (a:Int):IntKind.u64.wrap (IntKind.u64.wrap a+9223372036854775808)=(cq a:Int):=by grind[kt,BitVec.ofInt,BitVec.toNat_ofInt,cq,BitVec.toNat_xor,a1g]
theorem a1i (b:Int) (k:U):
  AC Tryz.prog 247 [.v (.int .i64 b)] k λE h=>av k h 1 ((ia b).map ak) E:=by
 refine bc hm RP aaV ?_;refine aF (aE @a1h @aY @aZ) ?_;have F:cq b<18446744073709551616:=(BitVec.ofInt 64 b^^^BitVec.ofInt 64 9223372036854775808).isLt;have G:ia b=cF (cq b):=rfl;rw[G];generalize cq b=c at*;refine xn (e:=8) aaU aaU λo p=> ?_;refine aF (c2 @aY @aZ) ?_;refine cm (λd h=> ∃a:Nat,a<=8/\h=k.set o (.cells (List.replicate (8 - a) (ak 0)++((cF c).drop (8 - a)).map ak))/\d 4= .ao o 8 8 1/\d 3= .v (.int .u64 ((c/256^a:Nat)))/\d 5= .v (.int .i64 (7 -(a))))
  (λd _=>match d 5 with| .v (.int _ b)=>(b+8).toNat| _=>0) ⟨0,aaU,?_⟩ ?_
 .refine aF (c2 @aY @aZ) ?_
  try (simp;try rfl)
 .rintro d h ⟨a,T,rfl,r,x,y⟩;by_cases z:(0)<=7 -(a:Int)
  .have L:c/256^a<18446744073709551616:=Nat.lt_of_le_of_lt (a9y _ _) F;have C:=a1f (c/256^a) 256 L aaU;have D:=yU (c/256^a) 256 aaU;have P:((256:Nat):Int)=256:=rfl;rw[P]at C D;have S:(List.replicate (8 - a) (ak 0)++((cF c).drop (8 - a)).map ak).length=8:=by
    have:(cF c).length=8:=rfl;simp[this]
    try omega
   refine aF (cd @x @r @y @z @C @D @iF @S @aY @aZ) ?_;refine⟨⟨a+1,aaU,?_,?_,by(congr 2;try omega)⟩,aaU⟩
   .congr 2;have yV:UInt8.ofNat (c/256^a%256)=UInt8.ofNat (c>>>(8*a)):=by grind[UInt8.toNat_inj,UInt8.toNat_ofNat',Nat.shiftRight_eq_div_pow,Nat.pow_mul]
    rw[yV];rcases(by omega:a=0\/a=1\/a=2\/a=3\/a=4\/a=5\/a=6\/a=7)with rfl|rfl|rfl|rfl|rfl|rfl|rfl|rfl<;>rfl
   .rw[Nat.div_div_eq_div_mul,<-aac]
  .obtain rfl:a=8:=aaU;refine aF (bx @x @r @y @z @aY @aZ) ?_;refine⟨_,U.a6,U.af U.a6 p,.inr ⟨o,8,8,_,rfl,p,U.ai _ _ _,rfl,rfl,rfl,aaU,aaY⟩⟩
def a1j (b:Bool) (d:U):
  AC Tryz.prog 190 [.v (.bool b)] d λh k=>av d k 1 ([if b then(1:UInt8)else 0].map ak) h:=by
 refine bc hm Qj aaV ?_;cases b
 .refine aF (c2 @aY @aZ) ?_;refine eK (by simp[aW,R.cells]) aaV λc a=> ?_;refine aF (c2 @aY @aZ) ?_;exact⟨_,U.a6,U.af U.a6 a,.inr ⟨c,1,1,_,rfl,a,U.ai _ _ _,rfl,rfl,rfl,aaU,aaY⟩⟩
 .refine aF (c2 @aY @aZ) ?_;refine eK (by simp[aW,R.cells]) aaV λc a=> ?_;refine aF (c2 @aY @aZ) ?_;exact⟨_,U.a6,U.af U.a6 a,.inr ⟨c,1,1,_,rfl,a,U.ai _ _ _,rfl,rfl,rfl,aaU,aaY⟩⟩
structure yW where
 o:iJ
 st:Int
 xW:Bool
 a:iJ
 b:iJ
def yW.ok (a:yW):Prop:=a.o.ok/\a.a.ok/\a.b.ok
section
variable {F:yW} (h:F.ok)
include h
end
def Fm (b:Nat) (d:U) (r:b<=1000000000000):AC Tryz.prog 192 [.v (.int .i64 (b:Int))] d λk h=>fH d h (fk b) k:=by
 have x: ∀a:Nat,(a:Int).tdiv 65536=((a/65536:Nat)):=λ_=>rfl;have y: ∀a:Nat,(a:Int).tdiv 256=((a/256:Nat)):=λ_=>rfl;have z: ∀a:Nat,(a:Int).tmod 256=((a%256:Nat)):=λ_=>rfl;have C:=λa=>iF a;refine aK hm Qn ?_;have o:fk b= [UInt8.ofNat (b/65536%256),UInt8.ofNat (b/256%256),UInt8.ofNat (b%256)]:=by have a: ∀c,UInt8.ofNat (c%256)=UInt8.ofNat c:=λc=>a7v.1 aaV;simp only[fk,a7q,a]
 rw[o];refine uy [_,_,_] (λD h p _=> ?_);exact⟨_,U.a6,p⟩
theorem vm (a:List Int) (p:Own) (k:U) (D:a.length<=1000000):AC Tryz.prog 191 [.J (ad a) p] k λd o=>fH k o (dz a) d:=by
 have E:=λr=>iF r;have F:=bM (q:=a);refine aK hm Ql ?_;refine uy [UInt8.ofNat a.length] (λd G L _=> ?_);refine cg [0] (λb:Nat×R=> [(4,.v (.int .i64 b.1)),(3,b.2)]) (λb o=>b.1<=a.length/\fH k o (UInt8.ofNat a.length::(a.take b.1).flatMap ia) b.2) (λb=>a.length - b.1) (0,d) ⟨⟨aaU,by trivial⟩,aO⟩ ?_;rintro⟨c,d⟩ P ⟨x,h⟩ S
 dsimp only at x h|-
 have T:= @dP a;refine aa ?_;refine aH (λy=> ?_) λy=> ?_
 .refine hX (a1i _ _) λV W z=> ?_;have e:=ot (a.take c);have f:(a.take c).length=c:=aaW;have g: ∀C,(ia C).length=8:=λ_=>rfl;refine nr h z λa4 i j _=> ?_;refine⟨(c+1,a4),⟨by simp only;omega,?_⟩,⟨rfl,rfl⟩,by simp only;omega⟩;grind[eR]
 .obtain rfl:c=a.length:=aaU;rw[a6V]at h;exact⟨_,U.a6,h⟩
structure aU where
 name:List UInt8
 aD:List (List UInt8)
 bo:aq
 bu:aq
 deriving DecidableEq
instance:Inhabited aU:=⟨⟨[],[],az,az⟩⟩
structure eF (t:aU) (T:List R):Prop where
 e: ∃gx gN eE a nL nM b,T=bn t.name:: .J (bL t.aD) gx::(ab t.bo gN eE a++ab t.bu nL nM b)
 k:t.bo.sum.length=32/\t.bo.cv
 z:t.bu.sum.length=32/\t.bu.cv
 c:t.aD.length<=1000000
def dY (a:aU) (b:R):Prop:= ∃T,b= .agg T/\eF a T
variable{g B c0:List R}{e8:aU}
theorem eF.all (x:eF e8 g):g.length=76/\g.take 76=g/\aL false 1 g=bn e8.name/\ ∃o a b c d h k,aL false 1 (g.drop 1)= .J (bL e8.aD) o/\(g.drop 2).take 37=ab e8.bo a b c/\(g.drop 39).take 37=ab e8.bu d h k:=by obtain⟨⟨o,a,b,c,d,h,k,rfl⟩,⟨y,_⟩,⟨z,_⟩,_⟩:=x;have p:=(aP (N:=a) (e5:=b) (h6:=c) y).len;have r:=(aP (N:=d) (e5:=h) (h6:=k) z).len;refine⟨by simp[p,r],a6z (by simp[p,r]),rfl,o,a,b,c,d,h,k,rfl,?_,?_⟩;simp_all;grind
def a1k (a:UInt32):br .mul (.int .u32 256) (.int .u32 a.toNat)=some (.int .u32 (256*a).toNat):=Cr (x:=256) (y:=a)
def q0 (a:UInt32):br .sub (.int .u32 4294967295) (.int .u32 a.toNat)=some (.int .u32 (~~~a).toNat):=by
 have b:=Cq (x:=4294967295) (y:=a);have c:(4294967295) - a= ~~~a:=by apply UInt32.toNat_inj.1;rw[UInt32.toNat_sub,UInt32.toNat_not];have:=a.toNat_lt;simp;omega
 rw[c]at b;exact b
theorem tp (a:UInt32):br .quo (.int .u32 a.toNat) (.int .u32 8)=some (.int .u32 (a>>>3).toNat):=by have b:=a.toNat_lt;grind[Int.tdiv,Int.tdiv_eq_ediv_of_nonneg,UInt32.toNat_shiftRight,Nat.shiftRight_eq_div_pow,br,ft,hN,qN]
theorem tq (a:UInt32):br .quo (.int .u32 a.toNat) (.int .u32 1024)=some (.int .u32 (a>>>10).toNat):=by have b:=a.toNat_lt;grind[Int.tdiv,Int.tdiv_eq_ediv_of_nonneg,UInt32.toNat_shiftRight,Nat.shiftRight_eq_div_pow,br,ft,hN,qN]
theorem mE (c:UInt32) (d:Int) (a:Nat) (r:0<a/\a<32) (h:d=((32 - a:Nat):Int)) (b:U):AC Tryz.prog 322 [.v (.int .u32 c.toNat),.v (.int .u64 d)] b λk o=>o=b/\k= .v (.int .u32 (rotl c a).toNat):=by
 subst h;have p:br .sub (.int .u64 32) (.int .u64 ((32 - a:Nat)))=some (.int .u64 (a)):=by grind[br,ft,hN,kt]
 refine bc hm TA aaV ?_;simp -dsimp -implicitDefEqProofs (disch:=first|omega|assumption|(simp only[bd,Nat.reduceAdd];try omega)) only[↓hS,hT,al,ofConst,cw,simprocAttr,eJ,aY,aZ,a7S,↓sr,ss,ne_eq,not_true_eq_false,not_false_eq_true,Int.reduceNe,a8m,a8x,p];refine⟨b,U.a6,rfl,?_⟩;simp only[rotl];rw[UInt32.or_comm]
def a1l (a:U):AC Tryz.prog 246 [] a λc d=> ∃b,a b=none/\c= .ao b 64 64 1/\d=a.set b (.cells (wl nt)):=by refine bc hm RN aaV ?_;simp -dsimp -implicitDefEqProofs (disch:=first|omega|assumption|(simp only[bd,Nat.reduceAdd];try omega)) only[↓hS,hT,al,ofConst,cw,simprocAttr,eJ,aY,aZ,a7S,↓sr,ss,ne_eq,not_true_eq_false,not_false_eq_true,Int.reduceNe,a8m,a8x];refine eK (by simp[aW,R.cells]) aaV λh k=> ?_;simp -dsimp -implicitDefEqProofs (disch:=first|omega|assumption|(simp only[bd,Nat.reduceAdd];try omega)) only[↓hS,hT,al,ofConst,cw,simprocAttr,eJ,aY,aZ,a7S,↓sr,ss,ne_eq,not_true_eq_false,not_false_eq_true,Int.reduceNe,a8m,a8x];refine⟨_,U.a6,h,k,rfl,?_⟩;rfl
variable{h7:List UInt32}
def vn:(wl h7++g).length=h7.length+g.length:=by simp[wl]
variable{e i v M b9 j2:Nat}
theorem mF (a:e<h7.length):aL false 1 ((wl h7++g).drop e)= .v (.int .u32 (h7.getD e 0).toNat):=by grind[wl,aL,List.map_drop,List.drop_eq_getElem_cons,List.getD]
def q1 (a:0<h7.length):aL false 1 (wl h7++g)= .v (.int .u32 (h7.getD 0 0).toNat):=mF (e:=0) a
theorem a1m (a:UInt32) (b:e<h7.length):putAt (wl h7++g) e [.v (.int .u32 a.toNat)]=wl (h7.set e a)++g:=by rw[<-D4 a b,putAt,putAt];grind[wl,eM,List.length_singleton]
def rp (a:List UInt8) (b:Nat):Nat->UInt32
 |0=>0
 |c+1=>256*rp a b c+(a.getD (4*b+c) 0).toUInt32
def yX (a b c:Nat) (d:b<2^c):a*2^c|||b=a*2^c+b:=by have:=a9j (a:=a) d;rw[a8Q]at this;omega
def a1n (b a c d:Nat) (h:a<256) (k:c<256) (o:d<256):b*2^24|||a*2^16|||c*2^8|||d=((b*256+a)*256+c)*256+d:=by
 rw[yX b (a*2^16) 24 aaU,show b*2^24+a*2^16=(b*256+a)*2^16 by omega,yX (b*256+a) (c*2^8) 16 aaU,
  show(b*256+a)*2^16+c*2^8=((b*256+a)*256+c)*2^8 by omega,yX _ d 8 aaU]
 all_goals omega
def a1o (a b c d:UInt8):(256:UInt32)*((256:UInt32)*((256:UInt32)*((256:UInt32)*(0:UInt32)+a.toUInt32)+b.toUInt32)+c.toUInt32)+d.toUInt32=a.toUInt32<<<24|||b.toUInt32<<<16|||c.toUInt32<<<8|||d.toUInt32:=by
 have z:=a.toNat_lt;have h:=b.toNat_lt;have k:=c.toNat_lt;have o:=d.toNat_lt;apply UInt32.toNat_inj.1;have p:(a.toUInt32<<<24).toNat=a.toNat*2^24:=by rw[UInt32.toNat_shiftLeft];simp[a8Q];omega
 have r:(b.toUInt32<<<16).toNat=b.toNat*2^16:=by rw[UInt32.toNat_shiftLeft];simp[a8Q];omega
 have x:(c.toUInt32<<<8).toNat=c.toNat*2^8:=by rw[UInt32.toNat_shiftLeft];simp[a8Q];omega
 have y:d.toUInt32.toNat=d.toNat:=aaV;rw[UInt32.toNat_or,UInt32.toNat_or,UInt32.toNat_or,p,r,x,y,a1n _ _ _ _ h k o];simp only[UInt32.toNat_add,UInt32.toNat_mul,UInt8.toNat_toUInt32,UInt32.reduceToNat];omega
def a1p (a:List UInt8) (b:Nat):rp a b 4=word a b:=a1o _ _ _ _
def a1q (b:h7.length<64):ej (h7++ [0])=ej h7:=by have a:64 - h7.length=(64 -(h7.length+1))+1:=aaU;simp only[ej,a,a8O];simp
def a1r {b:UInt32} (a:UInt32) (c:e=h7.length) (d:h7.length<64):putAt (ej (h7++ [b])) e [.v (.int .u32 a.toNat)]=ej (h7++ [a]):=by subst c;simp[putAt,ej,a8b]
end Go.Proofs.YtcfpcblgmmeioaaGreat
